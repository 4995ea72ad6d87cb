/- Lemmas for the laws of this seat, part 2. -/
import Derived.StillTail
import Derived.Lib.QuietBelow
import Derived.Test.YtbielfplgbammaaGreatDoorRows
import Derived.Stop.LaidErr
import Derived.Lib.LaidTab
import Derived.ProofKit
import Derived.LaidMore
import Derived.OpenShut
import Derived.Stop.Joined
import Derived.MakeChecks
import Derived.BigQuiet
import Derived.Maps.AppendAt
import Derived.RangeFuncNested
import Derived.RangeFuncBound
import Derived.RangeFuncCalls
import Derived.RangeFuncLeaves
import Derived.Shelf.Abstract
import Derived.Shelf.RegionOpen
import Derived.OwnWalkIn
import Derived.TacticsInMore
import Derived.LoopNIn
import Derived.LoopIn
import Derived.Laws.BitsLemmas
import Derived.Laws.Bits64
import Derived.OrdersIn
import Derived.Test.YtbielfplgbammaaGreatDoorTe1
set_option maxRecDepth 100000
set_option maxHeartbeats 16000000
namespace Go.Proofs.YtbielfplgbammaaGreatDoor
open Go.RowKit
def Zfd (a b:Int):Int:=if a<b then -1 else if a=b then 0 else 1
theorem Qdi(a b:Int)(ha:a<0)(hb:b<0):Vi b.natAbs a.natAbs=Zfd a b:=by
 unfold Vi Zfd
 by_cases h1:a<b
 ·rw[if_pos h1,if_pos (by omega)]
 ·rw[if_neg h1,if_neg (by omega)]
  by_cases h2:a=b
  ·rw[if_pos h2,if_pos (by omega)]
  ·rw[if_neg h2,if_neg (by omega)]
theorem Qdh(a b:Int)(ha:0<=a)(hb:0<=b):Vi a.natAbs b.natAbs=Zfd a b:=by
 unfold Vi Zfd
 by_cases h1:a<b
 ·rw[if_pos h1,if_pos (by omega)]
 ·rw[if_neg h1,if_neg (by omega)]
  by_cases h2:a=b
  ·rw[if_pos h2,if_pos (by omega)]
  ·rw[if_neg h2,if_neg (by omega)]
theorem Zc9(a:Int):(a<0/\a.sign = -1)\/(a=0/\a.sign=0)\/(0<a/\a.sign=1):=by
 rcases Int.lt_trichotomy a 0 with h|h|h
 ·exact .inl ⟨h,Int.sign_eq_neg_one_of_neg h⟩
 ·subst h;exact .inr (.inl ⟨rfl,rfl⟩)
 ·exact .inr (.inr ⟨h,Int.sign_eq_one_of_pos h⟩)
theorem Zl9(a b:Int)(h:a.sign<b.sign):a<b:=by
 rcases Zc9 a with⟨h1,e1⟩|⟨h1,e1⟩|⟨h1,e1⟩<;>rcases Zc9 b with⟨h2,e2⟩|⟨h2,e2⟩|⟨h2,e2⟩<;>omega
theorem Zuq(a b:Int)(h:a.sign=b.sign):(a<0/\b<0)\/(0<=a/\0<=b):=by
 rcases Zc9 a with⟨h1,e1⟩|⟨h1,e1⟩|⟨h1,e1⟩<;>rcases Zc9 b with⟨h2,e2⟩|⟨h2,e2⟩|⟨h2,e2⟩<;>omega
theorem Zc1(w:World)(a b:Int)(ha:Zbj a)(hb:Zbj b):
  Kc Tryz.prog 17 #[.string (itx a),.string (itx b)] w (.int .i64 (Zfd a b)):=by
 unfold Kc;have An:=hd_ (fun W=>Zx W a);have bN:=hd_ (fun W=>Zx W b);have Gm:=hd_ (fun W=>Vm W a);have Gq:=hd_ (fun W=>Vm W b);have bk:(dec a.natAbs).size<=10000000:=Nat.le_trans ha (by decide);have Gw:(dec b.natAbs).size<=10000000:=Nat.le_trans hb (by decide);rcases Int.lt_trichotomy a.sign b.sign with hs|hs|hs
 ·have Hv:Hid (Zfd a b = -1):=by
   show _=_
   unfold Zfd;rw[if_pos (Zl9 a b hs)]
  have gj:(a.sign != b.sign)=true:=by rw[bne_iff_ne];omega
  rw[Hv.o];clear Gm Gq;generalize a.sign=x at *;generalize b.sign=y at *;generalize itx a=s at *;generalize itx b=t at *;go_enter Tryz.func17,Tryz.ntmps17;go_wp2_with fail;refine cm_ (An.o w) ?_;rintro e w1 ⟨rfl,hZ⟩;have H6:=hd_ hZ;clear hZ;go_wp2_with fail;refine cm_ (bN.o w1) ?_;rintro e w2 ⟨rfl,HU⟩;have H9:=bt_ H6 HU;clear HU H6;go_wp2;go_ret;exact⟨rfl,H9.o⟩
 ·rcases Zuq a b hs with⟨h1,h2⟩ | ⟨h1,h2⟩
  ·have GQ:=hd_ (fun W=>Zbh W b.natAbs a.natAbs Gw bk);rw[Qdi a b h1 h2] at GQ;rw[decide_eq_true h1] at Gm;have gj:(b.sign != b.sign)=false:=by simp
   rw[hs] at An;clear hs h1 h2 bk Gw;generalize Zfd a b=c at *;generalize b.sign=y at *;generalize itx a=s at *;generalize itx b=t at *;generalize dec a.natAbs=sm at *;generalize dec b.natAbs=tm at *;go_enter Tryz.func17,Tryz.ntmps17;go_wp2_with fail;refine cm_ (An.o w) ?_;rintro e w1 ⟨rfl,hZ⟩;have H6:=hd_ hZ;clear hZ;go_wp2_with fail;refine cm_ (bN.o w1) ?_;rintro e w2 ⟨rfl,HU⟩;have H9:=bt_ H6 HU;clear HU H6;go_wp2_with fail;refine cm_ (Gm.o w2) ?_;rintro e w3 ⟨rfl,hb3⟩;have gh:=bt_ H9 hb3;clear hb3 H9;go_wp2_with fail;refine cm_ (Gq.o w3) ?_;rintro e w4 ⟨rfl,gz⟩;have gu:=bt_ gh gz;clear gz gh;go_wp2_with fail;refine cm_ (GQ.o w4) ?_;rintro e w5 ⟨rfl,hb5⟩;have gD:=bt_ gu hb5;clear hb5 gu;go_wp2;go_ret;exact⟨rfl,gD.o⟩
  ·have GQ:=hd_ (fun W=>Zbh W a.natAbs b.natAbs bk Gw);rw[Qdh a b h1 h2] at GQ;rw[decide_eq_false (show ¬ a<0 by omega)] at Gm;have gj:(b.sign != b.sign)=false:=by simp
   rw[hs] at An;clear hs h1 h2 bk Gw;generalize Zfd a b=c at *;generalize b.sign=y at *;generalize itx a=s at *;generalize itx b=t at *;generalize dec a.natAbs=sm at *;generalize dec b.natAbs=tm at *;go_enter Tryz.func17,Tryz.ntmps17;go_wp2_with fail;refine cm_ (An.o w) ?_;rintro e w1 ⟨rfl,hZ⟩;have H6:=hd_ hZ;clear hZ;go_wp2_with fail;refine cm_ (bN.o w1) ?_;rintro e w2 ⟨rfl,HU⟩;have H9:=bt_ H6 HU;clear HU H6;go_wp2_with fail;refine cm_ (Gm.o w2) ?_;rintro e w3 ⟨rfl,hb3⟩;have gh:=bt_ H9 hb3;clear hb3 H9;go_wp2_with fail;refine cm_ (Gq.o w3) ?_;rintro e w4 ⟨rfl,gz⟩;have gu:=bt_ gh gz;clear gz gh;go_wp2_with fail;refine cm_ (GQ.o w4) ?_;rintro e w5 ⟨rfl,hb5⟩;have gD:=bt_ gu hb5;clear hb5 gu;go_wp2;go_ret;exact⟨rfl,gD.o⟩
 ·have Hv:Hid (Zfd a b=1):=by
   show _=_
   have:=Zl9 b a hs
   unfold Zfd;rw[if_neg (by omega),if_neg (by omega)]
  have gj:(a.sign != b.sign)=true:=by rw[bne_iff_ne];omega
  rw[Hv.o];clear Gm Gq;generalize a.sign=x at *;generalize b.sign=y at *;generalize itx a=s at *;generalize itx b=t at *;go_enter Tryz.func17,Tryz.ntmps17;go_wp2_with fail;refine cm_ (An.o w) ?_;rintro e w1 ⟨rfl,hZ⟩;have H6:=hd_ hZ;clear hZ;go_wp2_with fail;refine cm_ (bN.o w1) ?_;rintro e w2 ⟨rfl,HU⟩;have H9:=bt_ H6 HU;clear HU H6;go_wp2;go_ret;exact⟨rfl,H9.o⟩
theorem Zk4(n b:Nat):(n:Int)/(b:Int)=((n/b:Nat):Int)/\(n:Int)%(b:Int)=((n%b:Nat):Int):=⟨rfl,rfl⟩
theorem Zbp(n b:Nat)(hb:0<b)(h:n%b=0): -(n:Int)/(b:Int) = -((n/b:Nat):Int) /\ -(n:Int)%(b:Int)=0:=by
 rw[Int.ediv_emod_unique (by omega)];have h1:=Nat.div_add_mod n b;rw[h] at h1;have h2:((b*(n/b)+0:Nat):Int)=(n:Int):=congrArg Nat.cast h1;rw[Nat.add_zero,Int.natCast_mul] at h2;refine⟨?_,by omega,by omega⟩;rw[Int.mul_neg,h2];omega
theorem Zcf(n b:Nat)(hb:0<b)(h:n%b≠0): -(n:Int)/(b:Int) = -((n/b:Nat):Int)-1 /\ -(n:Int)%(b:Int)=(b:Int)-((n%b:Nat):Int):=by
 rw[Int.ediv_emod_unique (by omega)];have h1:=Nat.div_add_mod n b;have h3:=Nat.mod_lt n hb;have h2:((b*(n/b)+n%b:Nat):Int)=(n:Int):=congrArg Nat.cast h1;rw[Int.natCast_add,Int.natCast_mul] at h2;refine⟨?_,by omega,by omega⟩;rw[Int.mul_sub,Int.mul_neg,Int.mul_one];omega
theorem Ys(w:World)(a:Int)(b:Nat)(ha:Zbj a)(hb:Num b)(Gj:0<b)(Fu:Num (a.natAbs+1))(L:Qe w):
  Kc Tryz.prog 163 #[.string (itx a),.string (dec b)] w (.tuple #[.string (itx (a/(b:Int))),.string (itx (a%(b:Int))),.int .i64 0]):=by
 unfold Kc;have hz:=Yh b;rw[decide_eq_false (show ¬ b=0 by omega)] at hz;have gG:=hd_ (fun W=>Zr W a ha 18 (by decide));have gM:=hd_ (fun W=>Zdt W b hb 18 (by decide));have HL:=hd_ L;have Gm:=hd_ (fun W=>Vm W a);have Gq:Hid (∀ W,Kc Tryz.prog 50 #[.string (dec b)] W (.tuple #[.bool false,.string (dec b)])):=fun W=>by
  have:=Vm W (b:Int)
  rw[Kh,decide_eq_false (show ¬ (b:Int)<0 by omega)] at this;exact this
 have fF:Hid (∀ W,Bw_ w W->Kc Tryz.prog 227 #[.string (dec a.natAbs),.string (dec b)] W (.tuple #[.string (dec (a.natAbs/b)),.string (dec (a.natAbs%b)),.int .i64 0])):=fun W hW=>by
  have:=Ze7 W a.natAbs b ha hb (HL.o.below hW)
  rw[if_neg (show ¬ b=0 by omega)] at this;exact this
 have jP:∀ (P:Prop),((∀ W,Kc Tryz.prog 54 #[.string (itx a),.int .i64 18] W (.tuple #[.int .i64 0,.bool false]))->P)->(((itx a).size<=18/\¬ (dec b).size<=18)->P)->(((itx a).size<=18/\(dec b).size<=18)->P)->P:=fun P h1 h2 h3=>by
  by_cases q1:(itx a).size<=18
  ·by_cases q2:(dec b).size<=18
   ·exact h3 ⟨q1,q2⟩
   ·exact h2 ⟨q1,q2⟩
  ·rw[if_neg q1] at gG;exact h1 gG.o
 clear L;refine jP _ (fun fE=>?_) (fun hl=>?_) (fun hl=>?_)
 ·have Hl:=hd_ fE;clear fE gG gM jP
  by_cases hn:a<0
  ·rw[decide_eq_true hn] at Gm;obtain⟨n,rfl⟩:∃ n:Nat,a = -(n:Int):=⟨a.natAbs,by omega⟩;have hN:Num n:=by
    have h:Num (-(n:Int)).natAbs:=ha;rw[show (-(n:Int)).natAbs=n by omega] at h;exact h
   rw[show (-(n:Int)).natAbs=n by omega] at *
   by_cases hr:n%b=0
   ·obtain⟨e1,e2⟩:=Zbp n b Gj hr;rw[e1,e2];have Cn:=Yh (n%b);rw[decide_eq_true hr] at Cn;have GY:=hd_ (fun W=>Qs W true (n/b) (Num.le hN (Nat.div_le_self _ _)));have GP:=hd_ (fun W=>Qs W false (n%b) (Num.le hN (Nat.mod_le _ _)));rw[show jz true (n/b) = -((n/b:Nat):Int) from rfl] at GY;rw[show jz false (n%b)=((n%b:Nat):Int) from rfl,hr,show ((0:Nat):Int)=0 from rfl] at GP;rw[hr] at Cn fF;clear e1 e2 hr hn;generalize itx (-((n/b:Nat):Int))=r1 at *;generalize itx 0=r2 at *;generalize itx (-(n:Int))=s at *;generalize dec (n/b)=qd at *;generalize dec 0=rd at *;generalize dec n=sm at *;generalize dec b=tm at *;go_enter Tryz.func163,Tryz.ntmps163;go_wp2_with fail;refine cm_ (Hl.o w) ?_;rintro e w1 ⟨rfl,hZ⟩;have H6:=hd_ hZ;clear hZ Hl;go_wp2_with fail;refine cm_ (Gm.o w1) ?_;rintro e w2 ⟨rfl,HU⟩;have H9:=bt_ H6 HU;clear HU H6 Gm;go_wp2_with fail;refine cm_ (Gq.o w2) ?_;rintro e w3 ⟨rfl,hb3⟩;have gh:=bt_ H9 hb3;clear hb3 H9 Gq;go_wp2_with fail;refine cm_ (fF.o w3 gh.o) ?_;rintro e w4 ⟨rfl,gz⟩;have gu:=bt_ gh gz;clear gz gh fF;go_wp2_with fail;refine cm_ (GY.o w4) ?_;rintro e w5 ⟨rfl,hb5⟩;have gD:=bt_ gu hb5;clear hb5 gu GY;go_wp2_with fail;refine cm_ (GP.o w5) ?_;rintro e w6 ⟨rfl,hb6⟩;have gY:=bt_ gD hb6;clear hb6 gD GP;go_wp2
    go_ret3
    exact⟨rfl,gY.o⟩
   ·obtain⟨e1,e2⟩:=Zcf n b Gj hr;have Ec:=Nat.mod_lt n Gj;have e3 : -((n/b:Nat):Int)-1 = -((n/b+1:Nat):Int):=by omega
    have e4:(b:Int)-((n%b:Nat):Int)=((b-n%b:Nat):Int):=by omega
    rw[e1,e2,e3,e4];have Cn:=Yh (n%b);rw[decide_eq_false hr] at Cn;have fD:Num (n/b+1):=Num.le Fu (Nat.succ_le_succ (Nat.div_le_self _ _));have Gz:Hid (∀ W,Bw_ w W->Kc Tryz.prog 228 #[.string (dec (n/b)),.string ⟨#[49]⟩] W (.string (dec (n/b+1)))):=fun W hW=>by
     have:=Zps W (n/b) 1 (Num.le hN (Nat.div_le_self _ _)) (Num.le Fu (by omega)) (HL.o.below hW)
     rw[Zt] at this;exact this
    have f7:Hid (∀ W,Bw_ w W->Kc Tryz.prog 229 #[.string (dec b),.string (dec (n%b))] W (.tuple #[.string (dec (b-n%b)),.int .i64 0])):=fun W hW=>by
     have:=Zj8 W b (n%b) hb (Num.le hN (Nat.mod_le _ _)) (HL.o.below hW)
     rw[if_neg (by omega)] at this;exact this
    have GY:=hd_ (fun W=>Qs W true (n/b+1) fD);have GP:=hd_ (fun W=>Qs W false (b-n%b) (Num.le hb (Nat.sub_le _ _)));rw[show jz true (n/b+1) = -((n/b+1:Nat):Int) from rfl] at GY;rw[show jz false (b-n%b)=((b-n%b:Nat):Int) from rfl] at GP;clear e1 e2 e3 e4 hr hn Ec;generalize itx (-((n/b+1:Nat):Int))=r1 at *;generalize itx ((b-n%b:Nat):Int)=r2 at *;generalize itx (-(n:Int))=s at *;generalize dec (n/b+1)=qe at *;generalize dec (b-n%b)=re at *;generalize dec (n/b)=qd at *;generalize dec (n%b)=rd at *;generalize dec n=sm at *;generalize dec b=tm at *;go_enter Tryz.func163,Tryz.ntmps163;go_wp2_with fail;refine cm_ (Hl.o w) ?_;rintro e w1 ⟨rfl,hZ⟩;have H6:=hd_ hZ;clear hZ Hl;go_wp2_with fail;refine cm_ (Gm.o w1) ?_;rintro e w2 ⟨rfl,HU⟩;have H9:=bt_ H6 HU;clear HU H6 Gm;go_wp2_with fail;refine cm_ (Gq.o w2) ?_;rintro e w3 ⟨rfl,hb3⟩;have gh:=bt_ H9 hb3;clear hb3 H9 Gq;go_wp2_with fail;refine cm_ (fF.o w3 gh.o) ?_;rintro e w4 ⟨rfl,gz⟩;have gu:=bt_ gh gz;clear gz gh fF;go_wp2_with fail;refine cm_ (Gz.o w4 gu.o) ?_;rintro e w5 ⟨rfl,hb5⟩;have gD:=bt_ gu hb5;clear hb5 gu Gz;go_wp2_with fail;refine cm_ (f7.o w5 gD.o) ?_;rintro e w6 ⟨rfl,hb6⟩;have gY:=bt_ gD hb6;clear hb6 gD f7;go_wp2_with fail;refine cm_ (GY.o w6) ?_;rintro e w7 ⟨rfl,hb7⟩;have FF:=bt_ gY hb7;clear hb7 gY GY;go_wp2_with fail;refine cm_ (GP.o w7) ?_;rintro e w8 ⟨rfl,G7⟩;have Aq:=bt_ FF G7;clear G7 FF GP;go_wp2
    go_ret3
    exact⟨rfl,Aq.o⟩
  ·rw[decide_eq_false hn] at Gm;obtain⟨n,rfl⟩:∃ n:Nat,a=(n:Int):=⟨a.natAbs,by omega⟩;have hN:Num n:=ha;rw[show ((n:Int)).natAbs=n by omega] at *
   have GY:=hd_ (fun W=>Qs W false (n/b) (Num.le hN (Nat.div_le_self _ _)));have GP:=hd_ (fun W=>Qs W false (n%b) (Num.le hN (Nat.mod_le _ _)));rw[show jz false (n/b)=(n:Int)/(b:Int) from rfl] at GY;rw[show jz false (n%b)=(n:Int)%(b:Int) from rfl] at GP;clear hn;generalize itx ((n:Int)/(b:Int))=r1 at *;generalize itx ((n:Int)%(b:Int))=r2 at *;generalize itx (n:Int)=s at *;generalize dec (n/b)=qd at *;generalize dec (n%b)=rd at *;generalize dec n=sm at *;generalize dec b=tm at *;go_enter Tryz.func163,Tryz.ntmps163;go_wp2_with fail;refine cm_ (Hl.o w) ?_;rintro e w1 ⟨rfl,hZ⟩;have H6:=hd_ hZ;clear hZ Hl;go_wp2_with fail;refine cm_ (Gm.o w1) ?_;rintro e w2 ⟨rfl,HU⟩;have H9:=bt_ H6 HU;clear HU H6 Gm;go_wp2_with fail;refine cm_ (Gq.o w2) ?_;rintro e w3 ⟨rfl,hb3⟩;have gh:=bt_ H9 hb3;clear hb3 H9 Gq;go_wp2_with fail;refine cm_ (fF.o w3 gh.o) ?_;rintro e w4 ⟨rfl,gz⟩;have gu:=bt_ gh gz;clear gz gh fF;go_wp2_with fail;refine cm_ (GY.o w4) ?_;rintro e w5 ⟨rfl,hb5⟩;have gD:=bt_ gu hb5;clear hb5 gu GY;go_wp2_with fail;refine cm_ (GP.o w5) ?_;rintro e w6 ⟨rfl,hb6⟩;have gY:=bt_ gD hb6;clear hb6 gD GP;go_wp2
   go_ret3
   exact⟨rfl,gY.o⟩
 ·rw[if_pos hl.1] at gG;rw[if_neg hl.2] at gM;clear hl jP
  by_cases hn:a<0
  ·rw[decide_eq_true hn] at Gm;obtain⟨n,rfl⟩:∃ n:Nat,a = -(n:Int):=⟨a.natAbs,by omega⟩;have hN:Num n:=by
    have h:Num (-(n:Int)).natAbs:=ha;rw[show (-(n:Int)).natAbs=n by omega] at h;exact h
   rw[show (-(n:Int)).natAbs=n by omega] at *
   by_cases hr:n%b=0
   ·obtain⟨e1,e2⟩:=Zbp n b Gj hr;rw[e1,e2];have Cn:=Yh (n%b);rw[decide_eq_true hr] at Cn;have GY:=hd_ (fun W=>Qs W true (n/b) (Num.le hN (Nat.div_le_self _ _)));have GP:=hd_ (fun W=>Qs W false (n%b) (Num.le hN (Nat.mod_le _ _)));rw[show jz true (n/b) = -((n/b:Nat):Int) from rfl] at GY;rw[show jz false (n%b)=((n%b:Nat):Int) from rfl,hr,show ((0:Nat):Int)=0 from rfl] at GP;rw[hr] at Cn fF;clear e1 e2 hr hn;generalize itx (-((n/b:Nat):Int))=r1 at *;generalize itx 0=r2 at *;generalize itx (-(n:Int))=s at *;generalize dec (n/b)=qd at *;generalize dec 0=rd at *;generalize dec n=sm at *;generalize dec b=tm at *;go_enter Tryz.func163,Tryz.ntmps163;go_wp2_with fail;refine cm_ (gG.o w) ?_;rintro e w1 ⟨rfl,hZ⟩;have H6:=hd_ hZ;clear hZ gG;go_wp2_with fail;refine cm_ (gM.o w1) ?_;rintro e w2 ⟨rfl,HU⟩;have H9:=bt_ H6 HU;clear HU H6 gM;go_wp2_with fail;refine cm_ (Gm.o w2) ?_;rintro e w3 ⟨rfl,hb3⟩;have gh:=bt_ H9 hb3;clear hb3 H9 Gm;go_wp2_with fail;refine cm_ (Gq.o w3) ?_;rintro e w4 ⟨rfl,gz⟩;have gu:=bt_ gh gz;clear gz gh Gq;go_wp2_with fail;refine cm_ (fF.o w4 gu.o) ?_;rintro e w5 ⟨rfl,hb5⟩;have gD:=bt_ gu hb5;clear hb5 gu fF;go_wp2_with fail;refine cm_ (GY.o w5) ?_;rintro e w6 ⟨rfl,hb6⟩;have gY:=bt_ gD hb6;clear hb6 gD GY;go_wp2_with fail;refine cm_ (GP.o w6) ?_;rintro e w7 ⟨rfl,hb7⟩;have FF:=bt_ gY hb7;clear hb7 gY GP;go_wp2
    go_ret3
    exact⟨rfl,FF.o⟩
   ·obtain⟨e1,e2⟩:=Zcf n b Gj hr;have Ec:=Nat.mod_lt n Gj;have e3 : -((n/b:Nat):Int)-1 = -((n/b+1:Nat):Int):=by omega
    have e4:(b:Int)-((n%b:Nat):Int)=((b-n%b:Nat):Int):=by omega
    rw[e1,e2,e3,e4];have Cn:=Yh (n%b);rw[decide_eq_false hr] at Cn;have fD:Num (n/b+1):=Num.le Fu (Nat.succ_le_succ (Nat.div_le_self _ _));have Gz:Hid (∀ W,Bw_ w W->Kc Tryz.prog 228 #[.string (dec (n/b)),.string ⟨#[49]⟩] W (.string (dec (n/b+1)))):=fun W hW=>by
     have:=Zps W (n/b) 1 (Num.le hN (Nat.div_le_self _ _)) (Num.le Fu (by omega)) (HL.o.below hW)
     rw[Zt] at this;exact this
    have f7:Hid (∀ W,Bw_ w W->Kc Tryz.prog 229 #[.string (dec b),.string (dec (n%b))] W (.tuple #[.string (dec (b-n%b)),.int .i64 0])):=fun W hW=>by
     have:=Zj8 W b (n%b) hb (Num.le hN (Nat.mod_le _ _)) (HL.o.below hW)
     rw[if_neg (by omega)] at this;exact this
    have GY:=hd_ (fun W=>Qs W true (n/b+1) fD);have GP:=hd_ (fun W=>Qs W false (b-n%b) (Num.le hb (Nat.sub_le _ _)));rw[show jz true (n/b+1) = -((n/b+1:Nat):Int) from rfl] at GY;rw[show jz false (b-n%b)=((b-n%b:Nat):Int) from rfl] at GP;clear e1 e2 e3 e4 hr hn Ec;generalize itx (-((n/b+1:Nat):Int))=r1 at *;generalize itx ((b-n%b:Nat):Int)=r2 at *;generalize itx (-(n:Int))=s at *;generalize dec (n/b+1)=qe at *;generalize dec (b-n%b)=re at *;generalize dec (n/b)=qd at *;generalize dec (n%b)=rd at *;generalize dec n=sm at *;generalize dec b=tm at *;go_enter Tryz.func163,Tryz.ntmps163;go_wp2_with fail;refine cm_ (gG.o w) ?_;rintro e w1 ⟨rfl,hZ⟩;have H6:=hd_ hZ;clear hZ gG;go_wp2_with fail;refine cm_ (gM.o w1) ?_;rintro e w2 ⟨rfl,HU⟩;have H9:=bt_ H6 HU;clear HU H6 gM;go_wp2_with fail;refine cm_ (Gm.o w2) ?_;rintro e w3 ⟨rfl,hb3⟩;have gh:=bt_ H9 hb3;clear hb3 H9 Gm;go_wp2_with fail;refine cm_ (Gq.o w3) ?_;rintro e w4 ⟨rfl,gz⟩;have gu:=bt_ gh gz;clear gz gh Gq;go_wp2_with fail;refine cm_ (fF.o w4 gu.o) ?_;rintro e w5 ⟨rfl,hb5⟩;have gD:=bt_ gu hb5;clear hb5 gu fF;go_wp2_with fail;refine cm_ (Gz.o w5 gD.o) ?_;rintro e w6 ⟨rfl,hb6⟩;have gY:=bt_ gD hb6;clear hb6 gD Gz;go_wp2_with fail;refine cm_ (f7.o w6 gY.o) ?_;rintro e w7 ⟨rfl,hb7⟩;have FF:=bt_ gY hb7;clear hb7 gY f7;go_wp2_with fail;refine cm_ (GY.o w7) ?_;rintro e w8 ⟨rfl,G7⟩;have Aq:=bt_ FF G7;clear G7 FF GY;go_wp2_with fail;refine cm_ (GP.o w8) ?_;rintro e w9 ⟨rfl,BC⟩;have CT:=bt_ Aq BC;clear BC Aq GP;go_wp2
    go_ret3
    exact⟨rfl,CT.o⟩
  ·rw[decide_eq_false hn] at Gm;obtain⟨n,rfl⟩:∃ n:Nat,a=(n:Int):=⟨a.natAbs,by omega⟩;have hN:Num n:=ha;rw[show ((n:Int)).natAbs=n by omega] at *
   have GY:=hd_ (fun W=>Qs W false (n/b) (Num.le hN (Nat.div_le_self _ _)));have GP:=hd_ (fun W=>Qs W false (n%b) (Num.le hN (Nat.mod_le _ _)));rw[show jz false (n/b)=(n:Int)/(b:Int) from rfl] at GY;rw[show jz false (n%b)=(n:Int)%(b:Int) from rfl] at GP;clear hn;generalize itx ((n:Int)/(b:Int))=r1 at *;generalize itx ((n:Int)%(b:Int))=r2 at *;generalize itx (n:Int)=s at *;generalize dec (n/b)=qd at *;generalize dec (n%b)=rd at *;generalize dec n=sm at *;generalize dec b=tm at *;go_enter Tryz.func163,Tryz.ntmps163;go_wp2_with fail;refine cm_ (gG.o w) ?_;rintro e w1 ⟨rfl,hZ⟩;have H6:=hd_ hZ;clear hZ gG;go_wp2_with fail;refine cm_ (gM.o w1) ?_;rintro e w2 ⟨rfl,HU⟩;have H9:=bt_ H6 HU;clear HU H6 gM;go_wp2_with fail;refine cm_ (Gm.o w2) ?_;rintro e w3 ⟨rfl,hb3⟩;have gh:=bt_ H9 hb3;clear hb3 H9 Gm;go_wp2_with fail;refine cm_ (Gq.o w3) ?_;rintro e w4 ⟨rfl,gz⟩;have gu:=bt_ gh gz;clear gz gh Gq;go_wp2_with fail;refine cm_ (fF.o w4 gu.o) ?_;rintro e w5 ⟨rfl,hb5⟩;have gD:=bt_ gu hb5;clear hb5 gu fF;go_wp2_with fail;refine cm_ (GY.o w5) ?_;rintro e w6 ⟨rfl,hb6⟩;have gY:=bt_ gD hb6;clear hb6 gD GY;go_wp2_with fail;refine cm_ (GP.o w6) ?_;rintro e w7 ⟨rfl,hb7⟩;have FF:=bt_ gY hb7;clear hb7 gY GP;go_wp2
   go_ret3
   exact⟨rfl,FF.o⟩
 ·rw[if_pos hl.1] at gG;rw[if_pos hl.2] at gM;have q1:=Yq a 18 (by decide) hl.1;have q2:=(Vh b).1 hl.2;clear hl jP Gm Gq fF;have Gb:Hid (∀ W,Bw_ w W->∀ z:Int,-9223372036854775808<=z->z<=9223372036854775807->Kc Tryz.prog 13 #[.int .i64 z] W (.string (itx z))):=fun W hW z h0 h1=>Zaz W z h0 h1 (HL.o.below hW)
  have Mo:((b:Int)==0)=false:=by rw[beq_eq_false_iff_ne];omega
  have jG:¬ (b:Int)<0:=by omega
  have pV:¬ (b:Int)=0:=by omega
  by_cases hn:a<0
  ·obtain⟨n,rfl⟩:∃ n:Nat,a = -(n:Int):=⟨a.natAbs,by omega⟩;have fD:n<1000000000000000000:=by omega
   have dx:n/b<=n:=Nat.div_le_self _ _;have Ec:n%b<=n:=Nat.mod_le _ _;have C8:Int.tdiv (-(n:Int)) (b:Int) = -((n/b:Nat):Int):=by rw[Int.neg_tdiv,<- Int.ofNat_tdiv]
   have F9:Int.tmod (-(n:Int)) (b:Int) = -((n%b:Nat):Int):=by rw[Int.neg_tmod,<- Int.ofNat_tmod]
   by_cases hr:n%b=0
   ·obtain⟨e1,e2⟩:=Zbp n b Gj hr;rw[e1,e2];rw[hr] at F9;rw[show -((0:Nat):Int)=0 from rfl] at F9;clear e1 e2 hr Ec;generalize n/b=q at *;have fh:IntKind.i64.wrap (-(q:Int)) = -(q:Int):=iw_ _ (by omega);have fX:IntKind.i64.wrap 0=0:=iw_ _ (by omega);have fC : -9223372036854775808 <= -(q:Int):=by omega
    have fk : -(q:Int)<=9223372036854775807:=by omega
    have Cs:(-9223372036854775808:Int)<=0:=by omega
    have df:(0:Int)<=9223372036854775807:=by omega
    generalize itx (-(n:Int))=s at *;generalize dec b=tm at *;go_enter Tryz.func163,Tryz.ntmps163;go_wp2_with fail;refine cm_ (gG.o w) ?_;rintro e w1 ⟨rfl,hZ⟩;have H6:=hd_ hZ;clear hZ gG;go_wp2_with fail;refine cm_ (gM.o w1) ?_;rintro e w2 ⟨rfl,HU⟩;have H9:=bt_ H6 HU;clear HU H6 gM;go_wp2_with fail
    go_quiet (fail)
    have gh:Hid (Bw_ w (w2.drewN nq)):=Qg H9.o _;clear H9;generalize w2.drewN nq=w3 at *;go_wp2_with fail;refine cm_ (Gb.o w3 gh.o _ (by omega) (by omega)) ?_;rintro e w4 ⟨rfl,gz⟩;have gu:=bt_ gh gz;clear gz gh;go_wp2_with fail;refine cm_ (Gb.o w4 gu.o _ (by omega) (by omega)) ?_;rintro e w5 ⟨rfl,hb5⟩;have gD:=bt_ gu hb5;clear hb5 gu;go_wp2
    go_ret3
    exact⟨rfl,gD.o⟩
   ·obtain⟨e1,e2⟩:=Zcf n b Gj hr;rw[e1,e2];have JF:=Nat.mod_lt n Gj;have C':0<n%b:=by omega
    clear e1 e2 hr;generalize n/b=q at *;generalize n%b=r at *;have fh:IntKind.i64.wrap (-(q:Int)) = -(q:Int):=iw_ _ (by omega);have fX:IntKind.i64.wrap (-(r:Int)) = -(r:Int):=iw_ _ (by omega);have Dc:IntKind.i64.wrap (-(q:Int)-1) = -(q:Int)-1:=iw_ _ (by omega);have f8:IntKind.i64.wrap (-(r:Int)+(b:Int)) = -(r:Int)+(b:Int):=iw_ _ (by omega);have fC : -9223372036854775808 <= -(q:Int)-1:=by omega
    have fk : -(q:Int)-1<=9223372036854775807:=by omega
    have Cs:(-9223372036854775808:Int) <= -(r:Int)+(b:Int):=by omega
    have df : -(r:Int)+(b:Int)<=9223372036854775807:=by omega
    have NY:(-(r:Int) != 0)=true:=by rw[bne_iff_ne];omega
    have NZ : -(r:Int)<0:=by omega
    rw[show (b:Int)-(r:Int) = -(r:Int)+(b:Int) by omega];generalize itx (-(n:Int))=s at *;generalize dec b=tm at *;go_enter Tryz.func163,Tryz.ntmps163;go_wp2_with fail;refine cm_ (gG.o w) ?_;rintro e w1 ⟨rfl,hZ⟩;have H6:=hd_ hZ;clear hZ gG;go_wp2_with fail;refine cm_ (gM.o w1) ?_;rintro e w2 ⟨rfl,HU⟩;have H9:=bt_ H6 HU;clear HU H6 gM;go_wp2_with fail
    go_quiet (fail)
    have gh:Hid (Bw_ w (w2.drewN nq)):=Qg H9.o _;clear H9;generalize w2.drewN nq=w3 at *;go_wp2_with fail;refine cm_ (Gb.o w3 gh.o _ (by omega) (by omega)) ?_;rintro e w4 ⟨rfl,gz⟩;have gu:=bt_ gh gz;clear gz gh;go_wp2_with fail;refine cm_ (Gb.o w4 gu.o _ (by omega) (by omega)) ?_;rintro e w5 ⟨rfl,hb5⟩;have gD:=bt_ gu hb5;clear hb5 gu;go_wp2
    go_ret3
    exact⟨rfl,gD.o⟩
  ·obtain⟨n,rfl⟩:∃ n:Nat,a=(n:Int):=⟨a.natAbs,by omega⟩;have fD:n<1000000000000000000:=by omega
   have dx:n/b<=n:=Nat.div_le_self _ _;have Ec:n%b<=n:=Nat.mod_le _ _;have C8:Int.tdiv (n:Int) (b:Int)=((n/b:Nat):Int):=by rw[<- Int.ofNat_tdiv]
   have F9:Int.tmod (n:Int) (b:Int)=((n%b:Nat):Int):=by rw[<- Int.ofNat_tmod]
   obtain⟨e1,e2⟩:=Zk4 n b;rw[e1,e2];clear e1 e2;generalize n/b=q at *;generalize n%b=r at *;have fh:IntKind.i64.wrap (q:Int)=(q:Int):=iw_ _ (by omega);have fX:IntKind.i64.wrap (r:Int)=(r:Int):=iw_ _ (by omega);have fC : -9223372036854775808<=(q:Int):=by omega
   have fk:(q:Int)<=9223372036854775807:=by omega
   have Cs:(-9223372036854775808:Int)<=(r:Int):=by omega
   have df:(r:Int)<=9223372036854775807:=by omega
   generalize itx (n:Int)=s at *;generalize dec b=tm at *;rcases Nat.eq_zero_or_pos r with C'|C'
   ·subst C';have Jn:IntKind.i64.wrap 0=0:=iw_ _ (by omega);go_enter Tryz.func163,Tryz.ntmps163;go_wp2_with fail;refine cm_ (gG.o w) ?_;rintro e w1 ⟨rfl,hZ⟩;have H6:=hd_ hZ;clear hZ gG;go_wp2_with fail;refine cm_ (gM.o w1) ?_;rintro e w2 ⟨rfl,HU⟩;have H9:=bt_ H6 HU;clear HU H6 gM;go_wp2_with fail
    go_quiet (fail)
    have gh:Hid (Bw_ w (w2.drewN nq)):=Qg H9.o _;clear H9;generalize w2.drewN nq=w3 at *;go_wp2_with fail;refine cm_ (Gb.o w3 gh.o _ (by omega) (by omega)) ?_;rintro e w4 ⟨rfl,gz⟩;have gu:=bt_ gh gz;clear gz gh;go_wp2_with fail;refine cm_ (Gb.o w4 gu.o _ (by omega) (by omega)) ?_;rintro e w5 ⟨rfl,hb5⟩;have gD:=bt_ gu hb5;clear hb5 gu;go_wp2
    go_ret3
    exact⟨rfl,gD.o⟩
   ·have NY:((r:Int) != 0)=true:=by rw[bne_iff_ne];omega
    have NZ:decide ((r:Int)<0)=false:=decide_eq_false (by omega);have oM:decide ((b:Int)<0)=false:=decide_eq_false (by omega);go_enter Tryz.func163,Tryz.ntmps163;go_wp2_with fail;refine cm_ (gG.o w) ?_;rintro e w1 ⟨rfl,hZ⟩;have H6:=hd_ hZ;clear hZ gG;go_wp2_with fail;refine cm_ (gM.o w1) ?_;rintro e w2 ⟨rfl,HU⟩;have H9:=bt_ H6 HU;clear HU H6 gM;go_wp2_with fail
    go_quiet (fail)
    have gh:Hid (Bw_ w (w2.drewN nq)):=Qg H9.o _;clear H9;generalize w2.drewN nq=w3 at *;go_wp2_with fail;refine cm_ (Gb.o w3 gh.o _ (by omega) (by omega)) ?_;rintro e w4 ⟨rfl,gz⟩;have gu:=bt_ gh gz;clear gz gh;go_wp2_with fail;refine cm_ (Gb.o w4 gu.o _ (by omega) (by omega)) ?_;rintro e w5 ⟨rfl,hb5⟩;have gD:=bt_ gu hb5;clear hb5 gu;go_wp2
    go_ret3
    exact⟨rfl,gD.o⟩
def fv (n:Int) (d:Nat):Value := .agg #[.string (itx n),.string (dec d)]
theorem Zhh(w:World)(z:Int)(hz:Zbj z):
  Kc Tryz.prog 295 #[.string (itx z)] w (if (itx z).size<=9 then .tuple #[.int .i64 z,.bool true] else .tuple #[.int .i64 0,.bool false]):=by
 unfold Kc;have fg:(dec z.natAbs).size<=1000000:=hz;have fG:=Za3 z
 by_cases h:(itx z).size<=9
 ·rw[if_pos h];have H7:=Yq z 9 (by decide) (by omega);have Hc:=hd_ (Tryz.strconv_Atoi_ok (itx z) (by omega) z (Zro z (by omega)) w);have Is:=hd_ (fun t=>Yu w 5 t);have h':((itx z).size:Int)<=9:=by omega
  clear H7 fg fG;generalize itx z=s at *;go_enter Tryz.func295,Tryz.ntmps295;go_wp2_with fail;refine cm_ Hc.o ?_;rintro e w1 ⟨rfl,hw⟩;have Hb:Hid (Bw_ w w1):=by
   show Below _ _ _
   rcases hw with rfl|⟨t,rfl⟩
   ·exact Below.refl _ _
   ·exact Is.o t
  clear hw;go_wp2_with fail
  go_quiet (fail)
  go_wp2
  go_ret2
  exact⟨rfl,Qg Hb.o _⟩
 ·rw[if_neg h];have h':¬ ((itx z).size:Int)<=9:=by omega
  generalize itx z=s at *;go_enter Tryz.func295,Tryz.ntmps295;go_wp2
  go_ret2
  exact⟨rfl,Below.refl _ _⟩
def Zxe (n:Int) (d:Nat):Value :=
 .tuple #[.int .i64 (if (itx n).size<=9 then n else 0),.int .i64 (if (dec d).size<=9 then d else 0),.bool (decide ((itx n).size<=9)&&decide ((dec d).size<=9))]
theorem Zh2(w:World)(n:Int)(d:Nat)(hn:Zbj n)(hd:Num d):
  Kc Tryz.prog 259 #[fv n d] w (Zxe n d):=by
 unfold Kc fv;have gG:Hid (∀ W,Kc Tryz.prog 295 #[.string (itx n)] W (.tuple #[.int .i64 (if (itx n).size<=9 then n else 0),.bool (decide ((itx n).size<=9))])):=fun W=>by
  have:=Zhh W n hn
  by_cases h:(itx n).size<=9
  ·rw[if_pos h] at this;rw[if_pos h,decide_eq_true h];exact this
  ·rw[if_neg h] at this;rw[if_neg h,decide_eq_false h];exact this
 have gM:Hid (∀ W,Kc Tryz.prog 295 #[.string (dec d)] W (.tuple #[.int .i64 (if (dec d).size<=9 then (d:Int) else 0),.bool (decide ((dec d).size<=9))])):=fun W=>by
  have:=Zhh W (d:Int) (show Num _ from hd)
  rw[Kh] at this
  by_cases h:(dec d).size<=9
  ·rw[if_pos h] at this;rw[if_pos h,decide_eq_true h];exact this
  ·rw[if_neg h] at this;rw[if_neg h,decide_eq_false h];exact this
 have Hv:Hid (Zxe n d = .tuple #[.int .i64 (if (itx n).size<=9 then n else 0),.int .i64 (if (dec d).size<=9 then (d:Int) else 0),.bool (decide ((itx n).size<=9)&&decide ((dec d).size<=9))]):=rfl;rw[Hv.o];clear Hv;generalize (if (itx n).size<=9 then n else 0)=x at *;generalize (if (dec d).size<=9 then (d:Int) else 0)=y at *;generalize decide ((itx n).size<=9)=p at *;generalize decide ((dec d).size<=9)=q at *;generalize itx n=s at *;generalize dec d=t at *;have gF:Hid ((w.alloc (.cells #[.string s,.string t] 101)).cell? ⟨w.heap.size,1,none⟩=some (.string t)):=by
  show _=_
  rw[World.cell?_alloc_new];rfl
 have gl:=hd_ ((Below.refl w.heap.size w).alloc nr_ (.cells #[.string s,.string t] 101));have E':w.heap.size<(w.alloc (.cells #[.string s,.string t] 101)).heap.size:=by simp
 have BU:=hd_ E';clear E';go_enter Tryz.func259,Tryz.ntmps259;go_wp2_with fail;refine cm_ (gG.o _) ?_;rintro e w1 ⟨rfl,hZ⟩;have cx:=gF.o;rw[<- hZ.cell (p:=⟨w.heap.size,1,none⟩) BU.o] at cx;have H6:=hd_ (gl.o.trans (hZ.mono (Nat.le_of_lt BU.o)));clear hZ gl gF BU;go_wp2_with fail;refine cm_ (gM.o _) ?_;rintro e w2 ⟨rfl,HU⟩;have H9:=bt_ H6 HU;clear HU H6 cx;cases p<;>cases q
 all_goals
  go_wp2
  go_ret3
  exact⟨rfl,H9.o⟩
end Go.Proofs.YtbielfplgbammaaGreatDoor

namespace Go.Proofs.YtbielfplgbammaaGreatDoor
open Go Go.Sort
section
variable {P:Program} {ops:Array Oper} {md:Region.Mode} {C:World->Prop}
def Zh9 (P:Program) (md:Region.Mode) (ops:Array Oper) (C:World->Prop) (n:Nat) (L:Array Bool->Act->Prop):Nat->Array Bool->Act->Prop
 | 0,listed,a=>L listed a
 | f+1,listed,a=>Region.ready md ops listed≠[]/\∀ i∈Region.ready md ops listed,i<n/\qOp P ops C i (Zh9 P md ops C n L f (listed.setIfInBounds i true)) a
theorem Zh8{n g:Nat}{L:Array Bool->Act->Prop}{Q':Exit->Act->World->Prop}(hL:∀ listed a w,C w->L listed a->wpAny P md ops Q' g listed a w):
  ∀ (f:Nat) (listed:Array Bool) (a:Act) (w:World),C w->Zh9 P md ops C n L f listed a->wpAny P md ops Q' (f+g) listed a w
 | 0,listed,a,w,hw,h=>by rw[Nat.zero_add];exact hL _ _ _ hw h
 | f+1,listed,a,w,hw,h=>by
  rw[show f+1+g=(f+g)+1 by omega];exact⟨fun h0=>absurd h0 h.1,fun i hi=>wpOp_of_qOp hw (fun a' w' hw' h'=>Zh8 hL f _ a' w' hw' h') (h.2 i hi).2⟩
theorem Zlk{n i:Nat}{oi:Oper}{v:Value}{L:Array Bool->Act->Prop}(hi:ops[i]?=some oi)(hsel:∀ (j:Nat) (o:Oper) cs b,ops[j]?=some o->o.op ≠ .select cs b)
  (hs:Region.sinkB md ops n=true) (hc:Region.chainB md ops n=true) (hn:n<ops.size) (A4:i<n)
  (hdone:∀ listed a,L listed a->∀ j∈Region.ready md ops listed,n<=j) :
  ∀ (f:Nat) (listed:Array Bool) (a:Act),HeadInv md ops n listed ->
   (∀ j oj,ops[j]?=some oj->j≠i->listed.getD j true=false->(∀ e∈oj.after,Region.binds md e=true->e.on≠i)->oi.apart ops oj=true) ->
   i∈Region.ready md ops listed->YieldsIn P ops C oi v a ->
   Zh9 P md ops C n L f (listed.setIfInBounds i true) (a.put oi.dst v)->Zh9 P md ops C n L (f+1) listed a:=by
 intro f
 induction f with
 | zero =>
  intro listed a inv _ hr hy H;have Fn:=(mem_ready.1 hr).1;refine⟨fun h=>(by rw[h] at hr;cases hr),fun j hj=>?_⟩;have Bl:j<n:=by
   rcases Nat.lt_or_ge j n with h|h
   ·exact h
   ·exact absurd hj (tail_waits hs hc hn inv _ i rfl A4 Fn j h)
  refine⟨Bl,?_⟩
  by_cases GV:j=i
  ·subst GV;exact hy.qOp hi H
  ·have:=hdone _ _ H j (ready_mono hj GV)
   omega
 | succ f ih =>
  intro listed a inv hfree hr hy H;have Fn:=(mem_ready.1 hr).1;refine⟨fun h=>(by rw[h] at hr;cases hr),fun j hj=>?_⟩;have Bl:j<n:=by
   rcases Nat.lt_or_ge j n with h|h
   ·exact h
   ·exact absurd hj (tail_waits hs hc hn inv _ i rfl A4 Fn j h)
  refine⟨Bl,?_⟩
  by_cases GV:j=i
  ·subst GV;exact hy.qOp hi H
  ·have h1:=(H.2 j (ready_mono hj GV)).2;obtain⟨hjun,oj,dh,gW⟩:=mem_ready.1 hj;have Ei:∀ e∈oj.after,Region.binds md e=true->e.on≠i:=fun e he hb heq=>by
    have h1:=gW e he hb;rw[heq,getD_both Fn] at h1;cases h1
   have h2:=qOp_put dh (hfree j oj dh GV hjun Ei) (fun cs b=>hsel i oi cs b hi) (fun cs b=>hsel j oj cs b dh) hy h1;have Fd:∀ k ok,ops[k]?=some ok->k≠i->(listed.setIfInBounds j true).getD k true=false ->
     (∀ e∈ok.after,Region.binds md e=true->e.on≠i)->oi.apart ops ok=true:=fun k ok hk dj Fn bd=>by
    refine hfree k ok hk dj ?_ bd
    by_cases dP:j=k
    ·subst dP;exact hjun
    ·rw[getD_set_ne true dP] at Fn;exact Fn
   refine qOp_mono (fun a' h3=>ih (listed.setIfInBounds j true) a' (inv.set hj Bl) Fd (ready_mono hr (Ne.symm GV)) h3.1 ?_) h2;rw[Array.setIfInBounds_comm _ _ GV];exact h3.2
theorem Zh7{n g:Nat}{Lq:Act->Prop}(hsel:Region.noSelect ops=true)(hs:Region.sinkB md ops n=true)(hc:Region.chainB md ops n=true)(hn:n<ops.size):
  ∀ (l:List Oper) (k:Nat) (listed:Array Bool) (a:Act),(∀ j,j<l.length->l[j]?=ops[k+j]?)->k+l.length=n->HeadInv md ops n listed ->
  Region.lexHead md ops g l.length k listed=true->wpQuiet P ops C Lq l a ->
  Zh9 P md ops C n (fun listed' a'=>Region.seqB md ops g n listed'=true/\Lq a') l.length listed a
 | [],k,listed,a,_,hk,_,hB,h=>by
  have:k=n:=by simpa using hk
  subst this;exact⟨by simpa [Region.lexHead] using hB,h⟩
 | o::l,k,listed,a,hl,hk,inv,hB,h=>by
  have h0:ops[k]?=some o:=by simpa using (hl 0 (by simp)).symm
  simp only[List.length_cons,Region.lexHead,Bool.and_eq_true] at hB;obtain⟨⟨hr,hf⟩,hB'⟩:=hB;have Cc:k<n:=by simp only[List.length_cons] at hk;omega
  have FU:k∈Region.ready md ops listed:=by simpa using hr
  have GH:qOp P ops C k (wpQuiet P ops C Lq l) a:=by unfold qOp;simp only[h0];exact h
  obtain⟨v,hy,hK⟩:=yieldsIn_of_qOp h0 GH;exact Zlk h0 (Region.noSelect_spec hsel) hs hc hn Cc (fun listed' a' hL=>seqB_ready hL.1) l.length listed a inv (Region.free_spec h0 hf) FU hy
   (Zh7 hsel hs hc hn l (k+1) _ _ (fun j hj=>by have:=hl (j+1) (by simp;omega);simpa [Nat.add_assoc,Nat.add_comm 1 j] using this) (by simp only[List.length_cons] at hk;omega) (inv.set FU Cc) hB' hK)
theorem Zdh{id:Nat}{Q:Exit->Act->World->Prop}{a:Act}{w:World}{l:List Oper}(n:Nat)(hm:P.follows .mixedOrders=true)(hB:Region.lexTailB .any l.toArray n=true)
  (hC:C { w with drawn:=w.drawn+1 }) (h:wpQuiet P l.toArray C (fun a'=>∀ w',C w'->wpList P l.toArray Q (l.drop n) a' w') (l.take n) a):(Code.region id l.toArray true).wp P Q a w:=by
 simp only[Region.lexTailB,Bool.and_eq_true,decide_eq_true_eq] at hB;obtain⟨⟨⟨⟨hsel,hn⟩,hs⟩,hc⟩,hlex⟩:=hB;have Dm:n<l.length:=by simpa using hn
 have cX:(l.take n).length=n:=by simp;omega
 have dx:(l.drop n).length=l.toArray.size-n:=by simp
 have Da:HeadInv .any l.toArray n (Array.replicate l.toArray.size false) :=
  ⟨by simp,fun j oj _ hl=>(by rw[getD_replicate_false] at hl;cases hl),fun t _ ht=>getD_in (by simpa using ht) (getD_replicate_false _ _)⟩
 have H:=Zh7 (md := .any) (g:=l.toArray.size-n) hsel hs hc hn (l.take n) 0 _ a (fun j hj=>by
  have Md:j<n:=by rw[cX] at hj;exact hj
  simp[Md]) (by simpa using cX) Da (by rw[cX];exact hlex) h
 refine wp_region_any hm ?_;have:=Zh8 (Q':=Q) (g:=l.toArray.size-n) (fun listed a' w' hw' hL=>by
  have:=wpAny_of_seq (md := .any) (Q':=Q) (l.drop n) n listed a' w' (fun j=>by simp[List.getElem?_drop]) (by rw[dx];exact hL.1) (hL.2 w' hw')
  rwa [dx] at this) _ _ _ _ hC H
 rw[cX,show n+(l.toArray.size-n)=l.toArray.size by omega] at this;exact this
theorem Kr{id:Nat}{Q:Exit->Act->World->Prop}{a:Act}{w:World}{l:List Oper}(n:Nat)(hm:P.follows .mixedOrders=true)(hB:Region.lexTailB .any l.toArray n=true)
  (h:wpQuiet P l.toArray (fun w'=>∃ p:Regrown,w'=grow (redrawn w p.d) p.os) (fun a'=>∀ w',(∃ p:Regrown,w'=grow (redrawn w p.d) p.os)->wpList P l.toArray Q (l.drop n) a' w') (l.take n) a):(Code.region id l.toArray true).wp P Q a w :=
 Zdh n hm hB ⟨⟨w.drawn+1,#[]⟩,by rw[grow_empty];rfl⟩ h
end
end Go.Proofs.YtbielfplgbammaaGreatDoor

namespace Go.Proofs.YtbielfplgbammaaGreatDoor
open Go.RowKit
theorem Zfq(w:World)(z:Int)(h0 : -9223372036854775808<=z)(h1:z<=9223372036854775807)(L:Qe w):
  ∀ d os,Calls Tryz.prog 53 #[.int .i64 z] (Go.Sort.grow (redrawn w d) os) fun e w''=>e = .returned (.string (itx z))/\∃ p:Regrown,w''=Go.Sort.grow (redrawn w p.d) p.os:=fun d os=>by
 have hb:=below_regrown w d os;have:=Tryz.strconv_Itoa z h0 h1 (Go.Sort.grow (redrawn w d) os) (L.below hb).tab
 exact Calls.regrown_of (this.mono fun e w'' ⟨h1,h2⟩=>⟨h1,Zcj h2⟩)
theorem Ka{w:World}{g:Nat}{a b:Value}{t:TypeId}(h:w.heap[g]?=some (.cells #[a,b] t (0,0))):
  w.cell? ⟨g,0,none⟩=some a/\w.cell? ⟨g,1,none⟩=some b/\w.frozen? ⟨g,0,none⟩=false/\w.frozen? ⟨g,1,none⟩=false:=by
 refine⟨by rw[cell_of_row w g 0 _ t (0,0) h];rfl,by rw[cell_of_row w g 1 _ t (0,0) h];rfl,?_,?_⟩
 ·simp[World.frozen?,h]
 ·simp[World.frozen?,h]
theorem Kl{w0 w:World}{B g:Nat}{a b:Value}(x y:Value)(k0:w.cell? ⟨g,0,none⟩=some a)(k1:w.cell? ⟨g,1,none⟩=some b)(hB:B<=g)(hb:Below B w0 w):
  ((w.setCell ⟨g,0,none⟩ x).setCell ⟨g,1,none⟩ y).cell? ⟨g,0,none⟩=some x/\((w.setCell ⟨g,0,none⟩ x).setCell ⟨g,1,none⟩ y).cell? ⟨g,1,none⟩=some y /\
  Below B w0 ((w.setCell ⟨g,0,none⟩ x).setCell ⟨g,1,none⟩ y):=by
 refine⟨?_,?_,?_⟩
 ·rw[World.cell?_setCell_other _ _ _ _ (by simp),World.cell?_setCell_same _ _ _ k0]
 ·rw[World.cell?_setCell_same _ _ _ (by rw[World.cell?_setCell_other _ _ _ _ (by simp)];exact k1)]
 ·exact(hb.setCell (p:=⟨g,0,none⟩) hB x).setCell (p:=⟨g,1,none⟩) hB y
theorem Zoi(w:World)(n:Int)(d g:Nat)(hn:n.natAbs<9223372036854775808)(hd:d<9223372036854775808)(GS:0<d)(hg:Nat.gcd n.natAbs d=g)(L:Qe w):
  Kc Tryz.prog 260 #[.int .i64 n,.int .i64 d] w (fv (n/(g:Int)) (d/g)):=by
 unfold Kc fv;have fp:0<g:=by rw[<- hg];exact Nat.gcd_pos_of_pos_right _ GS
 have Ce:g ∣ d:=by rw[<- hg];exact Nat.gcd_dvd_right _ _
 have El:(g:Int) ∣ n:=by rw[<- hg];exact Int.gcd_dvd_left n (d:Int)
 have Hg:=hd_ hg;have HL:=hd_ L;clear hg L;have gl:=hd_ ((Below.refl w.heap.size w).alloc nr_ (.cells #[.string ⟨#[]⟩,.string ⟨#[]⟩] 101));go_enter Tryz.func260,Tryz.ntmps260;go_wp2_with fail
 go_loopw [5,6] (fun p q wr=>∃ x y:Int,x.natAbs<9223372036854775808/\y.natAbs<9223372036854775808/\p = .int .i64 x/\q = .int .i64 y/\Hid (Nat.gcd x.natAbs y.natAbs=g)/\Hid (∃ k,wr=(w.alloc (.cells #[.string ⟨#[]⟩,.string ⟨#[]⟩] 101)).drewN k)) (fun _ q _=>(intOf q).natAbs)
 case atStart=>exact⟨n,d,hn,by omega,rfl,rfl,Hg.o,⟨0,rfl⟩⟩
 case round =>
  obtain⟨x,y,hx,hy,rfl,rfl,Hxy,Hw⟩:=hrel
  by_cases h0:y=0
  ·subst h0;have Nz:x.natAbs=g:=by
    have:=Hxy.o
    rw[show (0:Int).natAbs=0 from rfl,Nat.gcd_zero_right] at this;exact this
   have JA:g<=9223372036854775807:=by omega
   have pP:((g:Int)==0)=false:=by rw[beq_eq_false_iff_ne];omega
   have AK:Int.tdiv n (g:Int)=n/(g:Int):=Int.tdiv_eq_ediv_of_dvd El;have Jr:Int.tdiv (d:Int) (g:Int)=((d/g:Nat):Int):=by rw[<- Int.ofNat_tdiv]
   have Bf:(n/(g:Int)).natAbs<=n.natAbs:=by
    rw[<- AK,Int.natAbs_tdiv];exact Nat.div_le_self _ _
   have bi:d/g<=d:=Nat.div_le_self _ _;have fC : -9223372036854775808<=n/(g:Int):=by omega
   have fk:n/(g:Int)<=9223372036854775807:=by omega
   have Ct : -9223372036854775808<=((d/g:Nat):Int):=Int.le_trans (by decide) (Int.natCast_nonneg _);have Fr:((d/g:Nat):Int)<=9223372036854775807:=Int.le_trans (Int.ofNat_le.2 bi) (by omega);have fh:IntKind.i64.wrap (n/(g:Int))=n/(g:Int):=iw_ _ ⟨fC,fk⟩;have fX:IntKind.i64.wrap ((d/g:Nat):Int)=((d/g:Nat):Int):=iw_ _ ⟨Ct,Fr⟩;have nD:Hid (∀ W,Bw_ w W->∀ d' os,Calls Tryz.prog 53 #[.int .i64 (n/(g:Int))] (Go.Sort.grow (redrawn W d') os) fun e w''=>e = .returned (.string (itx (n/(g:Int))))/\∃ p:Regrown,w''=Go.Sort.grow (redrawn W p.d) p.os):=fun W hW=>Zfq W _ fC fk (HL.o.below hW)
   have nC:Hid (∀ W,Bw_ w W->∀ d' os,Calls Tryz.prog 53 #[.int .i64 ((d/g:Nat):Int)] (Go.Sort.grow (redrawn W d') os) fun e w''=>e = .returned (.string (dec (d/g)))/\∃ p:Regrown,w''=Go.Sort.grow (redrawn W p.d) p.os):=fun W hW=>by
    have:=Zfq W ((d/g:Nat):Int) Ct Fr (HL.o.below hW)
    rw[Kh] at this;exact this
   have F4:Hid (Bw_ w wr):=by
    obtain⟨k,hk⟩:=Hw.o
    show Below _ _ _
    rw[hk];exact Qg gl.o _
   have gm:Hid (wr.heap[w.heap.size]?=some (.cells #[.string ⟨#[]⟩,.string ⟨#[]⟩] 101 (0,0))):=by
    obtain⟨k,hk⟩:=Hw.o
    show _=_
    rw[hk];exact heap_alloc_new w _
   have gO:=nD.o wr F4.o;have gQ:=nC.o wr F4.o;clear Hw nD nC Ce El Bf bi Hxy;obtain⟨rs,hrs⟩:∃ rs,itx (n/(g:Int))=rs:=⟨_,rfl⟩;obtain⟨rt,hrt⟩:∃ rt,dec (d/g)=rt:=⟨_,rfl⟩;rw[hrs] at gO;rw[hrt] at gQ;have dV:=hd_ hrs;have dU:=hd_ hrt;clear hrs hrt;generalize n/(g:Int)=q1 at AK fC fk fh gO;generalize ((d/g:Nat):Int)=q2 at Jr Ct Fr fX gQ
   by_cases Gh:x<0
   ·have Jk : -x=(g:Int):=by omega
    have mP:IntKind.i64.wrap (-x)=(g:Int):=by rw[Jk];exact iw_ _ (by omega)
    have Pw:=hd_ Jk;clear Jk;go_wp2_with fail;refine Kr 9 (by kernel_rfl) (by kernel_rfl) ?_;simp only[List.take_succ_cons,List.take_zero,List.drop_succ_cons,List.drop_zero]
    repeat (first | go_big_quiet_step (first | with_reducible exact gO _ _ | with_reducible exact gQ _ _) | quiet_step (first | with_reducible exact gO _ _ | with_reducible exact gQ _ _))
    refine wpQuiet_nil ?_;intro w2 fX;obtain⟨⟨dq,osq⟩,rfl⟩:=fX;have HU:=below_regrown wr dq osq;have EB:Hid ((Go.Sort.grow (redrawn wr dq) osq).heap[w.heap.size]?=some (.cells #[.string ⟨#[]⟩,.string ⟨#[]⟩] 101 (0,0))):=by
     show _=_
     rw[HU.block _ (by have:=gm.o;exact(Array.getElem?_eq_some_iff.1 this).1)];exact gm.o
    have H9:=bt_ F4 HU;clear HU gO gQ gm;generalize Go.Sort.grow (redrawn wr dq) osq=w2 at *;obtain⟨k0,k1,f0,f1⟩:=Ka EB.o;go_wp2;obtain⟨c0,c1,hb3⟩:=Kl (.string rs) (.string rt) k0 k1 nr_ H9.o;generalize (w2.setCell ⟨w.heap.size,0,none⟩ (.string rs)).setCell ⟨w.heap.size,1,none⟩ (.string rt)=w3 at *;exact bodyPost_ret (v := .agg #[.string rs,.string rt]) (by simp[results,Tryz.results260,go_sem,c0,c1]) rfl ⟨by rw[dV.o,dU.o],hb3⟩
   ·have Ny:x=(g:Int):=by omega
    clear Nz;subst Ny;go_wp2_with fail;refine Kr 9 (by kernel_rfl) (by kernel_rfl) ?_;simp only[List.take_succ_cons,List.take_zero,List.drop_succ_cons,List.drop_zero]
    repeat (first | go_big_quiet_step (first | with_reducible exact gO _ _ | with_reducible exact gQ _ _) | quiet_step (first | with_reducible exact gO _ _ | with_reducible exact gQ _ _))
    refine wpQuiet_nil ?_;intro w2 fX;obtain⟨⟨dq,osq⟩,rfl⟩:=fX;have HU:=below_regrown wr dq osq;have EB:Hid ((Go.Sort.grow (redrawn wr dq) osq).heap[w.heap.size]?=some (.cells #[.string ⟨#[]⟩,.string ⟨#[]⟩] 101 (0,0))):=by
     show _=_
     rw[HU.block _ (by have:=gm.o;exact(Array.getElem?_eq_some_iff.1 this).1)];exact gm.o
    have H9:=bt_ F4 HU;clear HU gO gQ gm;generalize Go.Sort.grow (redrawn wr dq) osq=w2 at *;obtain⟨k0,k1,f0,f1⟩:=Ka EB.o;go_wp2;obtain⟨c0,c1,hb3⟩:=Kl (.string rs) (.string rt) k0 k1 nr_ H9.o;generalize (w2.setCell ⟨w.heap.size,0,none⟩ (.string rs)).setCell ⟨w.heap.size,1,none⟩ (.string rt)=w3 at *;exact bodyPost_ret (v := .agg #[.string rs,.string rt]) (by simp[results,Tryz.results260,go_sem,c0,c1]) rfl ⟨by rw[dV.o,dU.o],hb3⟩
  ·have Nw:(y==0)=false:=by rw[beq_eq_false_iff_ne];exact h0
   have F9:(Int.tmod x y).natAbs=x.natAbs%y.natAbs:=Int.natAbs_tmod x y;have H7:(Int.tmod x y).natAbs<y.natAbs:=by rw[F9];exact Nat.mod_lt _ (by omega)
   have Lf:Hid (Nat.gcd y.natAbs (Int.tmod x y).natAbs=g):=by
    show _=_
    rw[F9,Zk0];exact Hxy.o
   have fW:IntKind.i64.wrap (Int.tmod x y)=Int.tmod x y:=iw_ _ (by omega);have Oo:Hid (∃ k,wr=(w.alloc (.cells #[.string ⟨#[]⟩,.string ⟨#[]⟩] 101)).drewN k):=Hw.o;have dI:=hd_ H7;clear F9 Hxy Hw;go_wp2_with fail
   go_quiet (fail)
   go_wp2
   go_roundw
   case rel =>
    refine⟨y,Int.tmod x y,hy,by omega,rfl,rfl,Lf,?_⟩;obtain⟨k,hk⟩:=Oo.o;exact⟨k+nq,by rw[hk];exact World.drewN_drewN _ _ _⟩
   case measure=>exact dI.o
theorem Kg{W0 wk:World}{g:Nat}{a b:Value}{t:TypeId}(h:W0.heap[g]?=some (.cells #[a,b] t (0,0)))(hb:Bw_ W0 wk):
  wk.heap[g]?=some (.cells #[a,b] t (0,0)):=by
 rw[hb.block g (Array.getElem?_eq_some_iff.1 h).1];exact h
theorem Zf8{d:Nat}(h:0<d):((d:Nat):Int).sign=1:=Int.sign_eq_one_of_pos (by omega)
theorem Zcb(w:World)(n:Int)(d g:Nat)(hn:Zbj n)(hd:Num d)(GS:0<d)(fD:Num (n.natAbs+1))(G':Num (d+1))(hg:Nat.gcd n.natAbs d=g)(L:Qe w):
  Kc Tryz.prog 258 #[.string (itx n),.string (dec d)] w (fv (n/(g:Int)) (d/g)):=by
 unfold Kc fv;have fp:0<g:=by rw[<- hg];exact Nat.gcd_pos_of_pos_right _ GS
 have fm:g<=d:=by rw[<- hg];exact Nat.gcd_le_right _ GS
 have El:Num g:=hd.le fm;have gl:=hd_ ((Below.refl w.heap.size w).alloc nr_ (.cells #[.string ⟨#[]⟩,.string ⟨#[]⟩] 101));have ge:Hid ((w.alloc (.cells #[.string ⟨#[]⟩,.string ⟨#[]⟩] 101)).heap[w.heap.size]?=some (.cells #[.string ⟨#[]⟩,.string ⟨#[]⟩] 101 (0,0))):=heap_alloc_new w _;have HL:=hd_ (L.below gl.o);have Gf:Hid (∀ W,Kc Tryz.prog 59 #[.string (dec d)] W (.int .i64 1)):=fun W=>by
  have:=Zx W (d:Int)
  rw[Kh,Zf8 GS] at this;exact this
 clear L;go_enter Tryz.func258,Tryz.ntmps258;go_wp2_with fail;generalize w.alloc (.cells #[.string ⟨#[]⟩,.string ⟨#[]⟩] 101)=W0 at *;have fz:Hid (∀ W,Bw_ W0 W->Kc Tryz.prog 219 #[.string (itx n),.string (dec d)] W (.string (dec g))):=fun W hW=>by
  have:=Zkz W n (d:Int) hn (show Num _ from hd) (HL.o.below hW)
  rw[Kh,show Int.gcd n (d:Int)=g from hg] at this;exact this
 have F3:Hid (∀ W,Bw_ W0 W->Kc Tryz.prog 163 #[.string (itx n),.string (dec g)] W (.tuple #[.string (itx (n/(g:Int))),.string (itx (n%(g:Int))),.int .i64 0])):=fun W hW=>Ys W n g hn El fp fD (HL.o.below hW)
 have eW:Hid (∀ W,Bw_ W0 W->Kc Tryz.prog 163 #[.string (dec d),.string (dec g)] W (.tuple #[.string (dec (d/g)),.string (itx ((d:Int)%(g:Int))),.int .i64 0])):=fun W hW=>by
  have:=Ys W (d:Int) g (show Num _ from hd) El fp (show Num (d+1) from G') (HL.o.below hW)
  rw[Kh,show (d:Int)/(g:Int)=((d/g:Nat):Int) from rfl,Kh] at this;exact this
 have ho:=Zeh g
 by_cases h1:g=1
 ·have dV:Hid (itx (n/(g:Int))=itx n):=by show _=_;rw[h1];congr 1;exact Int.ediv_one n
  have dU:Hid (dec (d/g)=dec d):=by show _=_;rw[h1,Nat.div_one]
  rw[decide_eq_true h1] at ho;clear h1 F3 eW hg fp fm El hn hd fD G';obtain⟨s,hs⟩:∃ s,itx n=s:=⟨_,rfl⟩;obtain⟨t,ht⟩:∃ t,dec d=t:=⟨_,rfl⟩;rw[hs] at dV fz ⊢;rw[ht] at dU fz Gf ⊢;clear hs ht;generalize dec g=u at *;refine cm_ (Gf.o _) ?_;rintro e w1 ⟨rfl,hZ⟩;have H6:=hd_ hZ;clear hZ Gf;go_wp2_with fail;refine cm_ (fz.o w1 H6.o) ?_;rintro e w2 ⟨rfl,HU⟩;have H9:=bt_ H6 HU;clear HU H6 fz;have gm:=hd_ (Kg ge.o H9.o);have gK:=bt_ gl H9.o;obtain⟨k0,k1,f0,f1⟩:=Ka gm.o;clear H9 gl gm ge HL;go_wp2;obtain⟨c0,c1,hb3⟩:=Kl (.string s) (.string t) k0 k1 nr_ gK.o;generalize (w2.setCell ⟨w.heap.size,0,none⟩ (.string s)).setCell ⟨w.heap.size,1,none⟩ (.string t)=w9 at *;exact bodyPost_ret (v := .agg #[.string s,.string t]) (by simp[results,Tryz.results258,go_sem,c0,c1]) rfl ⟨by rw[dV.o,dU.o],hb3⟩
 ·rw[decide_eq_false h1] at ho;obtain⟨rs,hrs⟩:∃ rs,itx (n/(g:Int))=rs:=⟨_,rfl⟩;obtain⟨rt,hrt⟩:∃ rt,dec (d/g)=rt:=⟨_,rfl⟩;rw[hrs] at F3;rw[hrt] at eW;have dV:=hd_ hrs;have dU:=hd_ hrt;clear h1 hg fp fm El hn hd fD G' hrs hrt;generalize itx (n%(g:Int))=e1 at F3;generalize itx ((d:Int)%(g:Int))=e2 at eW;obtain⟨s,hs⟩:∃ s,itx n=s:=⟨_,rfl⟩;obtain⟨t,ht⟩:∃ t,dec d=t:=⟨_,rfl⟩;obtain⟨u,hu⟩:∃ u,dec g=u:=⟨_,rfl⟩;rw[hs] at F3 fz ⊢;rw[ht] at eW fz Gf ⊢;rw[hu] at F3 eW fz ho;clear hs ht hu;refine cm_ (Gf.o _) ?_;rintro e w1 ⟨rfl,hZ⟩;have H6:=hd_ hZ;clear hZ Gf;go_wp2_with fail;refine cm_ (fz.o w1 H6.o) ?_;rintro e w2 ⟨rfl,HU⟩;have H9:=bt_ H6 HU;clear HU H6 fz;go_wp2_with fail;refine cm_ (F3.o w2 H9.o) ?_;rintro e w3 ⟨rfl,hb3⟩;have gh:=bt_ H9 hb3;clear hb3 H9 F3;go_wp2_with fail;refine cm_ (eW.o w3 gh.o) ?_;rintro e w4 ⟨rfl,gz⟩;have gu:=bt_ gh gz;clear gz gh eW;have gm:=hd_ (Kg ge.o gu.o);have gK:=bt_ gl gu.o;obtain⟨k0,k1,f0,f1⟩:=Ka gm.o;clear gu gl gm ge HL;go_wp2;obtain⟨c0,c1,hb3⟩:=Kl (.string rs) (.string rt) k0 k1 nr_ gK.o;generalize (w4.setCell ⟨w.heap.size,0,none⟩ (.string rs)).setCell ⟨w.heap.size,1,none⟩ (.string rt)=w9 at *;exact bodyPost_ret (v := .agg #[.string rs,.string rt]) (by simp[results,Tryz.results258,go_sem,c0,c1]) rfl ⟨by rw[dV.o,dU.o],hb3⟩
def Zlq (n:Int) (d:Nat):Value:=fv (n/((Nat.gcd n.natAbs d:Nat):Int)) (d/Nat.gcd n.natAbs d)
structure Zio (w:World) (s t s' t':ByteArray) (W0:World):Prop where
 fa:W0.heap[w.heap.size]?=some (.cells #[.string s,.string t] 101 (0,0))
 fb:W0.heap[w.heap.size+1]?=some (.cells #[.string s',.string t'] 101 (0,0))
 fr:W0.heap[w.heap.size+1+1]?=some (.cells #[.string ⟨#[]⟩,.string ⟨#[]⟩] 101 (0,0))
 bel:Bw_ w W0
theorem Zio.mk'(w:World)(s t s' t':ByteArray):Zio w s t s' t' (((w.alloc (.cells #[.string s,.string t] 101)).alloc (.cells #[.string s',.string t'] 101)).alloc (.cells #[.string ⟨#[]⟩,.string ⟨#[]⟩] 101)):=by
 have hA:=heap_alloc_new w (.cells #[.string s,.string t] 101);have hB:=heap_alloc_new (w.alloc (.cells #[.string s,.string t] 101)) (.cells #[.string s',.string t'] 101);have hR:=heap_alloc_new ((w.alloc (.cells #[.string s,.string t] 101)).alloc (.cells #[.string s',.string t'] 101)) (.cells #[.string ⟨#[]⟩,.string ⟨#[]⟩] 101);have e1:(w.alloc (.cells #[.string s,.string t] 101)).heap.size=w.heap.size+1:=by simp
 have e2:((w.alloc (.cells #[.string s,.string t] 101)).alloc (.cells #[.string s',.string t'] 101)).heap.size=w.heap.size+1+1:=by simp
 refine⟨?_,?_,?_,?_⟩
 ·exact Kg hA (((Below.refl _ _).alloc nr_ _).alloc (by simp) _)
 ·rw[e1] at hB;exact Kg hB ((Below.refl _ _).alloc nr_ _)
 ·rw[e2] at hR;exact hR
 ·exact(((Below.refl _ _).alloc nr_ _).alloc (by simp) _).alloc (by simp;omega) _
theorem Zio.next{w W0 W:World}{s t s' t':ByteArray}(h:Zio w s t s' t' W0)(hb:Bw_ W0 W):Zio w s t s' t' W :=
 ⟨Kg h.fa hb,Kg h.fb hb,Kg h.fr hb,h.bel.trans (hb.mono h.bel.size)⟩
theorem Zjs(w:World)(n:Int)(d:Nat)(hn:Zbj n)(hd:Num d):
  (((itx n).size<=9/\(dec d).size<=9)/\Kc Tryz.prog 259 #[fv n d] w (.tuple #[.int .i64 n,.int .i64 d,.bool true])) \/
  (¬ ((itx n).size<=9/\(dec d).size<=9)/\∃ x y:Int,∀ W,Kc Tryz.prog 259 #[fv n d] W (.tuple #[.int .i64 x,.int .i64 y,.bool false])):=by
 by_cases h1:(itx n).size<=9
 ·by_cases h2:(dec d).size<=9
  ·left;have:=Zh2 w n d hn hd
   unfold Zxe at this;rw[if_pos h1,if_pos h2,decide_eq_true h1,decide_eq_true h2] at this;exact⟨⟨h1,h2⟩,this⟩
  ·right;refine⟨fun h=>h2 h.2,n,0,fun W=>?_⟩;have:=Zh2 W n d hn hd
   unfold Zxe at this;rw[if_pos h1,if_neg h2,decide_eq_false h2,Bool.and_false] at this;exact this
 ·right;refine⟨fun h=>h1 h.1,0,if (dec d).size<=9 then d else 0,fun W=>?_⟩;have:=Zh2 W n d hn hd
  unfold Zxe at this;rw[if_neg h1,decide_eq_false h1,Bool.false_and] at this;exact this
theorem Yx(n:Int)(d:Nat)(hn:Zbj n)(hd:Num d)(h:(itx n).size<=9/\(dec d).size<=9)(W:World):
  Kc Tryz.prog 259 #[fv n d] W (.tuple #[.int .i64 n,.int .i64 d,.bool true]):=by
 rcases Zjs W n d hn hd with⟨-,h2⟩|⟨h2,-⟩
 ·exact h2
 ·exact absurd h h2
theorem Yy(n:Int)(d:Nat)(hn:Zbj n)(hd:Num d)(h:¬ ((itx n).size<=9/\(dec d).size<=9)):
  ∃ x y:Int,∀ W,Kc Tryz.prog 259 #[fv n d] W (.tuple #[.int .i64 x,.int .i64 y,.bool false]):=by
 rcases Zjs default n d hn hd with⟨h2,-⟩|⟨-,h2⟩
 ·exact absurd h2 h
 ·exact h2
theorem Zy9(w:World)(n m:Int)(d e:Nat)(hn:Zbj n)(hm:Zbj m)(hd:Num d)(he:Num e)(GS:0<d)(jC:0<e)(Ej:Num ((n*m).natAbs+1))(fY:Num (d*e+1))(L:Qe w):
  Kc Tryz.prog 206 #[fv n d,fv m e] w (Zlq (n*m) (d*e)):=by
 obtain⟨rs,hrs⟩:∃ rs,itx (n*m/((Nat.gcd (n*m).natAbs (d*e):Nat):Int))=rs:=⟨_,rfl⟩;obtain⟨rt,hrt⟩:∃ rt,dec (d*e/Nat.gcd (n*m).natAbs (d*e))=rt:=⟨_,rfl⟩;have hv:Zlq (n*m) (d*e) = .agg #[.string rs,.string rt]:=by unfold Zlq fv;rw[hrs,hrt]
 have Hv:=hd_ hv;have GW:0<d*e:=Nat.mul_pos GS jC;unfold Kc;have H3:=hd_ (Zio.mk' w (itx n) (dec d) (itx m) (dec e));have HL:=hd_ (L.below H3.o.bel);clear L;have fN:Hid (∀ W,Below (((w.alloc (.cells #[.string (itx n),.string (dec d)] 101)).alloc (.cells #[.string (itx m),.string (dec e)] 101)).alloc (.cells #[.string ⟨#[]⟩,.string ⟨#[]⟩] 101)).heap.size (((w.alloc (.cells #[.string (itx n),.string (dec d)] 101)).alloc (.cells #[.string (itx m),.string (dec e)] 101)).alloc (.cells #[.string ⟨#[]⟩,.string ⟨#[]⟩] 101)) W->∀ d' os,Calls Tryz.prog 14 #[.string (itx n),.string (itx m)] (Go.Sort.grow (redrawn W d') os) fun x w''=>x = .returned (.string (itx (n*m)))/\∃ p:Regrown,w''=Go.Sort.grow (redrawn W p.d) p.os):=fun W hW d' os =>
  Calls.regrown_of (Zf _ n m hn hm (Ej.le (Nat.le_succ _)) ((HL.o.below hW).below (below_regrown W d' os)))
 have fM:Hid (∀ W,Below (((w.alloc (.cells #[.string (itx n),.string (dec d)] 101)).alloc (.cells #[.string (itx m),.string (dec e)] 101)).alloc (.cells #[.string ⟨#[]⟩,.string ⟨#[]⟩] 101)).heap.size (((w.alloc (.cells #[.string (itx n),.string (dec d)] 101)).alloc (.cells #[.string (itx m),.string (dec e)] 101)).alloc (.cells #[.string ⟨#[]⟩,.string ⟨#[]⟩] 101)) W->∀ d' os,Calls Tryz.prog 14 #[.string (dec d),.string (dec e)] (Go.Sort.grow (redrawn W d') os) fun x w''=>x = .returned (.string (dec (d*e)))/\∃ p:Regrown,w''=Go.Sort.grow (redrawn W p.d) p.os):=fun W hW d' os=>by
  have:=Zf (Go.Sort.grow (redrawn W d') os) (d:Int) (e:Int) (show Num _ from hd) (show Num _ from he) (show Num _ from by rw[Int.natAbs_mul];exact fY.le (Nat.le_succ _)) ((HL.o.below hW).below (below_regrown W d' os))
  rw[Kh,Kh,<- Int.natCast_mul,Kh] at this;exact Calls.regrown_of this
 have fL:Hid (∀ W,Below (((w.alloc (.cells #[.string (itx n),.string (dec d)] 101)).alloc (.cells #[.string (itx m),.string (dec e)] 101)).alloc (.cells #[.string ⟨#[]⟩,.string ⟨#[]⟩] 101)).heap.size (((w.alloc (.cells #[.string (itx n),.string (dec d)] 101)).alloc (.cells #[.string (itx m),.string (dec e)] 101)).alloc (.cells #[.string ⟨#[]⟩,.string ⟨#[]⟩] 101)) W->∀ d' os,Calls Tryz.prog 258 #[.string (itx (n*m)),.string (dec (d*e))] (Go.Sort.grow (redrawn W d') os) fun x w''=>x = .returned (.agg #[.string rs,.string rt])/\∃ p:Regrown,w''=Go.Sort.grow (redrawn W p.d) p.os):=fun W hW d' os=>by
  have:=Zcb (Go.Sort.grow (redrawn W d') os) (n*m) (d*e) _ (Ej.le (Nat.le_succ _)) (fY.le (Nat.le_succ _)) GW Ej fY rfl ((HL.o.below hW).below (below_regrown W d' os))
  unfold fv at this;rw[hrs,hrt] at this;exact Calls.regrown_of this
 by_cases h1:(itx n).size<=9/\(dec d).size<=9
 ·have gF:=hd_ (Yx n d hn hd h1)
  by_cases h2:(itx m).size<=9/\(dec e).size<=9
  ·have gP:=hd_ (Yx m e hm he h2);have q1:=Yq n 9 (by decide) h1.1;have q2:=Yq m 9 (by decide) h2.1;have q3:=(Ku d 9 (by decide)).1 (by rw[<- Kt];exact h1.2);have q4:=(Ku e 9 (by decide)).1 (by rw[<- Kt];exact h2.2);have q5:(n*m).natAbs<=1000000000*1000000000:=by rw[Int.natAbs_mul];exact Nat.mul_le_mul (by omega) (by omega)
   have q6:d*e<=1000000000*1000000000:=Nat.mul_le_mul (by omega) (by omega);have fh:IntKind.i64.wrap (n*m)=n*m:=iw_ _ (by omega);have fX:IntKind.i64.wrap ((d:Int)*(e:Int))=((d*e:Nat):Int):=by rw[<- Int.natCast_mul];exact iw_ _ ⟨Int.le_trans (by decide) (Int.natCast_nonneg _),Int.le_trans (Int.ofNat_le.2 q6) (by decide)⟩
   have Gb:Hid (∀ W,Below (((w.alloc (.cells #[.string (itx n),.string (dec d)] 101)).alloc (.cells #[.string (itx m),.string (dec e)] 101)).alloc (.cells #[.string ⟨#[]⟩,.string ⟨#[]⟩] 101)).heap.size (((w.alloc (.cells #[.string (itx n),.string (dec d)] 101)).alloc (.cells #[.string (itx m),.string (dec e)] 101)).alloc (.cells #[.string ⟨#[]⟩,.string ⟨#[]⟩] 101)) W->Kc Tryz.prog 260 #[.int .i64 (n*m),.int .i64 ((d*e:Nat):Int)] W (.agg #[.string rs,.string rt])):=fun W hW=>by
    have:=Zoi W (n*m) (d*e) _ (by omega) (by omega) GW rfl (HL.o.below hW)
    unfold fv at this;rw[hrs,hrt] at this;exact this
   unfold fv at gF gP ⊢;clear fN fM fL q1 q2 q3 q4 q5 q6 h1 h2 hrs hrt hv GW;go_enter Tryz.func206,Tryz.ntmps206;obtain⟨k0,k1,-,-⟩:=Ka H3.o.fa;obtain⟨k2,k3,-,-⟩:=Ka H3.o.fb;go_wp2_with fail;generalize ((w.alloc (.cells #[.string (itx n),.string (dec d)] 101)).alloc (.cells #[.string (itx m),.string (dec e)] 101)).alloc (.cells #[.string ⟨#[]⟩,.string ⟨#[]⟩] 101)=W0 at *;clear k0 k1 k2 k3;refine cm_ (gF.o _) ?_;rintro e w1 ⟨rfl,hZ⟩;have H6:=hd_ hZ;clear hZ gF;obtain⟨k0,k1,-,-⟩:=Ka (H3.o.next H6.o).fa;obtain⟨k2,k3,-,-⟩:=Ka (H3.o.next H6.o).fb;go_wp2_with fail;clear k0 k1 k2 k3;refine cm_ (gP.o _) ?_;rintro e w2 ⟨rfl,HU⟩;have H9:=bt_ H6 HU;clear HU H6 gP;go_wp2_with fail;refine cm_ (Gb.o w2 H9.o) ?_;rintro e w3 ⟨rfl,hb3⟩;have gh:=bt_ H9 hb3;clear hb3 H9 Gb;have H8:=hd_ (H3.o.next gh.o);clear H3 gh;obtain⟨k0,k1,f0,f1⟩:=Ka H8.o.fr;have gK:=hd_ H8.o.bel;clear H8;go_wp2;obtain⟨c0,c1,hb3⟩:=Kl (B:=w.heap.size) (.string rs) (.string rt) k0 k1 (by omega) gK.o;generalize (w3.setCell ⟨w.heap.size+1+1,0,none⟩ (.string rs)).setCell ⟨w.heap.size+1+1,1,none⟩ (.string rt)=w9 at *;exact bodyPost_ret (v := .agg #[.string rs,.string rt]) (by simp[results,Tryz.results206,go_sem,c0,c1]) rfl ⟨by rw[Hv.o],hb3⟩
  ·obtain⟨x,y,gR⟩:=Yy m e hm he h2;have gP:=hd_ gR;unfold fv at gF gP ⊢;clear h1 h2 hrs hrt hv GW gR;go_enter Tryz.func206,Tryz.ntmps206;obtain⟨k0,k1,-,-⟩:=Ka H3.o.fa;obtain⟨k2,k3,-,-⟩:=Ka H3.o.fb;go_wp2_with fail;generalize ((w.alloc (.cells #[.string (itx n),.string (dec d)] 101)).alloc (.cells #[.string (itx m),.string (dec e)] 101)).alloc (.cells #[.string ⟨#[]⟩,.string ⟨#[]⟩] 101)=W0 at *;clear k0 k1 k2 k3;refine cm_ (gF.o _) ?_;rintro e w1 ⟨rfl,hZ⟩;have H6:=hd_ hZ;clear hZ gF;obtain⟨k0,k1,-,-⟩:=Ka (H3.o.next H6.o).fa;obtain⟨k2,k3,-,-⟩:=Ka (H3.o.next H6.o).fb;go_wp2_with fail;clear k0 k1 k2 k3;refine cm_ (gP.o _) ?_;rintro e w2 ⟨rfl,HU⟩;have H9:=bt_ H6 HU;clear HU H6 gP;obtain⟨k0,k1,-,-⟩:=Ka (H3.o.next H9.o).fa;obtain⟨k2,k3,-,-⟩:=Ka (H3.o.next H9.o).fb;have q0:=cell_regrown k0;have q1:=cell_regrown k1;have q2:=cell_regrown k2;have q3:=cell_regrown k3;have gO:=fN.o w2 H9.o;have gQ:=fM.o w2 H9.o;have Gl:=fL.o w2 H9.o;clear k0 k1 k2 k3 fN fM fL;go_wp2_with fail;refine Kr 11 (by kernel_rfl) (by kernel_rfl) ?_;simp only[List.take_succ_cons,List.take_zero,List.drop_succ_cons,List.drop_zero]
   repeat (first | go_big_quiet_step (first | with_reducible exact gO _ _ | with_reducible exact gQ _ _ | with_reducible exact Gl _ _) | quiet_step (first | with_reducible exact gO _ _ | with_reducible exact gQ _ _ | with_reducible exact Gl _ _))
   refine wpQuiet_nil ?_;intro w8 Fm;obtain⟨⟨dq,osq⟩,rfl⟩:=Fm;have G7:=below_regrown w2 dq osq;have H8:=hd_ ((H3.o.next H9.o).next G7);clear G7 gO gQ Gl q0 q1 q2 q3 H3 H9;generalize Go.Sort.grow (redrawn w2 dq) osq=w8 at *;obtain⟨k0,k1,f0,f1⟩:=Ka H8.o.fr;have gK:=hd_ H8.o.bel;clear H8;go_wp2;obtain⟨c0,c1,hb3⟩:=Kl (B:=w.heap.size) (.string rs) (.string rt) k0 k1 (by omega) gK.o;generalize (w8.setCell ⟨w.heap.size+1+1,0,none⟩ (.string rs)).setCell ⟨w.heap.size+1+1,1,none⟩ (.string rt)=w9 at *;exact bodyPost_ret (v := .agg #[.string rs,.string rt]) (by simp[results,Tryz.results206,go_sem,c0,c1]) rfl ⟨by rw[Hv.o],hb3⟩
 ·obtain⟨x,y,gC⟩:=Yy n d hn hd h1;have gF:=hd_ gC;unfold fv at gF ⊢;clear h1 hrs hrt hv GW gC;go_enter Tryz.func206,Tryz.ntmps206;obtain⟨k0,k1,-,-⟩:=Ka H3.o.fa;obtain⟨k2,k3,-,-⟩:=Ka H3.o.fb;go_wp2_with fail;generalize ((w.alloc (.cells #[.string (itx n),.string (dec d)] 101)).alloc (.cells #[.string (itx m),.string (dec e)] 101)).alloc (.cells #[.string ⟨#[]⟩,.string ⟨#[]⟩] 101)=W0 at *;clear k0 k1 k2 k3;refine cm_ (gF.o _) ?_;rintro e w1 ⟨rfl,hZ⟩;have H6:=hd_ hZ;clear hZ gF;obtain⟨k0,k1,-,-⟩:=Ka (H3.o.next H6.o).fa;obtain⟨k2,k3,-,-⟩:=Ka (H3.o.next H6.o).fb;have q0:=cell_regrown k0;have q1:=cell_regrown k1;have q2:=cell_regrown k2;have q3:=cell_regrown k3;have gO:=fN.o w1 H6.o;have gQ:=fM.o w1 H6.o;have Gl:=fL.o w1 H6.o;clear k0 k1 k2 k3 fN fM fL;go_wp2_with fail;refine Kr 11 (by kernel_rfl) (by kernel_rfl) ?_;simp only[List.take_succ_cons,List.take_zero,List.drop_succ_cons,List.drop_zero]
  repeat (first | go_big_quiet_step (first | with_reducible exact gO _ _ | with_reducible exact gQ _ _ | with_reducible exact Gl _ _) | quiet_step (first | with_reducible exact gO _ _ | with_reducible exact gQ _ _ | with_reducible exact Gl _ _))
  refine wpQuiet_nil ?_;intro w8 Fm;obtain⟨⟨dq,osq⟩,rfl⟩:=Fm;have G7:=below_regrown w1 dq osq;have H8:=hd_ ((H3.o.next H6.o).next G7);clear G7 gO gQ Gl q0 q1 q2 q3 H3 H6;generalize Go.Sort.grow (redrawn w1 dq) osq=w8 at *;obtain⟨k0,k1,f0,f1⟩:=Ka H8.o.fr;have gK:=hd_ H8.o.bel;clear H8;go_wp2;obtain⟨c0,c1,hb3⟩:=Kl (B:=w.heap.size) (.string rs) (.string rt) k0 k1 (by omega) gK.o;generalize (w8.setCell ⟨w.heap.size+1+1,0,none⟩ (.string rs)).setCell ⟨w.heap.size+1+1,1,none⟩ (.string rt)=w9 at *;exact bodyPost_ret (v := .agg #[.string rs,.string rt]) (by simp[results,Tryz.results206,go_sem,c0,c1]) rfl ⟨by rw[Hv.o],hb3⟩
theorem Zyq(x:Int):Zlq x 1=fv x 1:=by
 unfold Zlq;rw[Nat.gcd_one_right,show ((1:Nat):Int)=1 from rfl,Int.ediv_one]
theorem Qau(w:World)(n m:Int)(d e:Nat)(hn:Zbj n)(hm:Zbj m)(hd:Num d)(he:Num e)(GS:0<d)(jC:0<e)
  (Ej:Num ((n*e).natAbs+(m*d).natAbs+1)) (hnp:Num (n.natAbs+m.natAbs)) (fY:Num (d*e+1)) (L:Qe w) :
  Kc Tryz.prog 207 #[fv n d,fv m e] w (Zlq (n*e+m*d) (d*e)):=by
 have GW:0<d*e:=Nat.mul_pos GS jC;have fH:(n*e+m*d).natAbs<=(n*e).natAbs+(m*d).natAbs:=Int.natAbs_add_le _ _;have FT:Num ((n*e+m*d).natAbs+1):=Ej.le (by omega);have gj:Num (n*e).natAbs:=Ej.le (by omega);have Cx:Num (m*d).natAbs:=Ej.le (by omega);have H3:=hd_ (Zio.mk' w (itx n) (dec d) (itx m) (dec e));have HL:=hd_ (L.below H3.o.bel);clear L;have o1:=Zeh d;have o2:=Zeh e
 by_cases fw:d=1/\e=1
 ·obtain⟨rfl,rfl⟩:=fw;obtain⟨rs,hrs⟩:∃ rs,itx (n+m)=rs:=⟨_,rfl⟩;obtain⟨rt,hrt⟩:∃ rt,dec 1=rt:=⟨_,rfl⟩;have lP:=hd_ (hrt.symm.trans Zt);have hv:Zlq (n*(1:Nat)+m*(1:Nat)) (1*1) = .agg #[.string rs,.string rt]:=by
   rw[show (1*1:Nat)=1 from rfl,Zyq,show ((1:Nat):Int)=1 from rfl,Int.mul_one,Int.mul_one];unfold fv;rw[hrs,hrt]
  have Hv:=hd_ hv;unfold Kc;have Gz:Hid (∀ W,Below (((w.alloc (.cells #[.string (itx n),.string (dec 1)] 101)).alloc (.cells #[.string (itx m),.string (dec 1)] 101)).alloc (.cells #[.string ⟨#[]⟩,.string ⟨#[]⟩] 101)).heap.size (((w.alloc (.cells #[.string (itx n),.string (dec 1)] 101)).alloc (.cells #[.string (itx m),.string (dec 1)] 101)).alloc (.cells #[.string ⟨#[]⟩,.string ⟨#[]⟩] 101)) W->Kc Tryz.prog 205 #[.string (itx n),.string (itx m)] W (.string rs)):=fun W hW=>by
   have:=Zll W n m hn hm hnp (HL.o.below hW)
   rw[hrs] at this;exact this
  rw[decide_eq_true rfl] at o1 o2;unfold fv;rw[hrt] at H3 HL Gz o1 o2 ⊢;clear hv hrs hrt gj Cx FT fH Ej fY GW hd he;go_enter Tryz.func207,Tryz.ntmps207;obtain⟨k0,k1,-,-⟩:=Ka H3.o.fa;obtain⟨k2,k3,-,-⟩:=Ka H3.o.fb;go_wp2_with fail;generalize ((w.alloc (.cells #[.string (itx n),.string (rt)] 101)).alloc (.cells #[.string (itx m),.string (rt)] 101)).alloc (.cells #[.string ⟨#[]⟩,.string ⟨#[]⟩] 101)=W0 at *;clear k0 k1 k2 k3;refine cm_ (Gz.o _ (Below.refl _ _)) ?_;rintro e w1 ⟨rfl,hZ⟩;have H6:=hd_ hZ;clear hZ Gz;have H8:=hd_ (H3.o.next H6.o);clear H3 H6;rw[lP.o] at *
  obtain⟨k0,k1,f0,f1⟩:=Ka H8.o.fr;have gK:=hd_ H8.o.bel;clear H8;go_wp2;obtain⟨c0,c1,hb3⟩:=Kl (B:=w.heap.size) (.string rs) (.string ⟨#[49]⟩) k0 k1 (by omega) gK.o;generalize (w1.setCell ⟨w.heap.size+1+1,0,none⟩ (.string rs)).setCell ⟨w.heap.size+1+1,1,none⟩ (.string ⟨#[49]⟩)=w9 at *;exact bodyPost_ret (v := .agg #[.string rs,.string ⟨#[49]⟩]) (by simp[results,Tryz.results207,go_sem,c0,c1]) rfl ⟨by rw[Hv.o],hb3⟩
 ·obtain⟨rs,hrs⟩:∃ rs,itx ((n*e+m*d)/((Nat.gcd (n*e+m*d).natAbs (d*e):Nat):Int))=rs:=⟨_,rfl⟩;obtain⟨rt,hrt⟩:∃ rt,dec (d*e/Nat.gcd (n*e+m*d).natAbs (d*e))=rt:=⟨_,rfl⟩;have hv:Zlq (n*e+m*d) (d*e) = .agg #[.string rs,.string rt]:=by unfold Zlq fv;rw[hrs,hrt]
  have Hv:=hd_ hv;unfold Kc;have fN:Hid (∀ W,Below (((w.alloc (.cells #[.string (itx n),.string (dec d)] 101)).alloc (.cells #[.string (itx m),.string (dec e)] 101)).alloc (.cells #[.string ⟨#[]⟩,.string ⟨#[]⟩] 101)).heap.size (((w.alloc (.cells #[.string (itx n),.string (dec d)] 101)).alloc (.cells #[.string (itx m),.string (dec e)] 101)).alloc (.cells #[.string ⟨#[]⟩,.string ⟨#[]⟩] 101)) W->∀ d' os,Calls Tryz.prog 14 #[.string (itx n),.string (dec e)] (Go.Sort.grow (redrawn W d') os) fun x w''=>x = .returned (.string (itx (n*e)))/\∃ p:Regrown,w''=Go.Sort.grow (redrawn W p.d) p.os):=fun W hW d' os=>by
   have:=Zf (Go.Sort.grow (redrawn W d') os) n (e:Int) hn (show Num _ from he) gj ((HL.o.below hW).below (below_regrown W d' os))
   rw[Kh] at this;exact Calls.regrown_of this
  have fM:Hid (∀ W,Below (((w.alloc (.cells #[.string (itx n),.string (dec d)] 101)).alloc (.cells #[.string (itx m),.string (dec e)] 101)).alloc (.cells #[.string ⟨#[]⟩,.string ⟨#[]⟩] 101)).heap.size (((w.alloc (.cells #[.string (itx n),.string (dec d)] 101)).alloc (.cells #[.string (itx m),.string (dec e)] 101)).alloc (.cells #[.string ⟨#[]⟩,.string ⟨#[]⟩] 101)) W->∀ d' os,Calls Tryz.prog 14 #[.string (itx m),.string (dec d)] (Go.Sort.grow (redrawn W d') os) fun x w''=>x = .returned (.string (itx (m*d)))/\∃ p:Regrown,w''=Go.Sort.grow (redrawn W p.d) p.os):=fun W hW d' os=>by
   have:=Zf (Go.Sort.grow (redrawn W d') os) m (d:Int) hm (show Num _ from hd) Cx ((HL.o.below hW).below (below_regrown W d' os))
   rw[Kh] at this;exact Calls.regrown_of this
  have fL:Hid (∀ W,Below (((w.alloc (.cells #[.string (itx n),.string (dec d)] 101)).alloc (.cells #[.string (itx m),.string (dec e)] 101)).alloc (.cells #[.string ⟨#[]⟩,.string ⟨#[]⟩] 101)).heap.size (((w.alloc (.cells #[.string (itx n),.string (dec d)] 101)).alloc (.cells #[.string (itx m),.string (dec e)] 101)).alloc (.cells #[.string ⟨#[]⟩,.string ⟨#[]⟩] 101)) W->∀ d' os,Calls Tryz.prog 205 #[.string (itx (n*e)),.string (itx (m*d))] (Go.Sort.grow (redrawn W d') os) fun x w''=>x = .returned (.string (itx (n*e+m*d)))/\∃ p:Regrown,w''=Go.Sort.grow (redrawn W p.d) p.os):=fun W hW d' os=>by
   exact Calls.regrown_of (Zll (Go.Sort.grow (redrawn W d') os) (n*e) (m*d) gj Cx (Ej.le (Nat.le_succ _)) ((HL.o.below hW).below (below_regrown W d' os)))
  have eh:Hid (∀ W,Below (((w.alloc (.cells #[.string (itx n),.string (dec d)] 101)).alloc (.cells #[.string (itx m),.string (dec e)] 101)).alloc (.cells #[.string ⟨#[]⟩,.string ⟨#[]⟩] 101)).heap.size (((w.alloc (.cells #[.string (itx n),.string (dec d)] 101)).alloc (.cells #[.string (itx m),.string (dec e)] 101)).alloc (.cells #[.string ⟨#[]⟩,.string ⟨#[]⟩] 101)) W->∀ d' os,Calls Tryz.prog 14 #[.string (dec d),.string (dec e)] (Go.Sort.grow (redrawn W d') os) fun x w''=>x = .returned (.string (dec (d*e)))/\∃ p:Regrown,w''=Go.Sort.grow (redrawn W p.d) p.os):=fun W hW d' os=>by
   have:=Zf (Go.Sort.grow (redrawn W d') os) (d:Int) (e:Int) (show Num _ from hd) (show Num _ from he) (show Num _ from by rw[Int.natAbs_mul];exact fY.le (Nat.le_succ _)) ((HL.o.below hW).below (below_regrown W d' os))
   rw[Kh,Kh,<- Int.natCast_mul,Kh] at this;exact Calls.regrown_of this
  have Cj:Hid (∀ W,Below (((w.alloc (.cells #[.string (itx n),.string (dec d)] 101)).alloc (.cells #[.string (itx m),.string (dec e)] 101)).alloc (.cells #[.string ⟨#[]⟩,.string ⟨#[]⟩] 101)).heap.size (((w.alloc (.cells #[.string (itx n),.string (dec d)] 101)).alloc (.cells #[.string (itx m),.string (dec e)] 101)).alloc (.cells #[.string ⟨#[]⟩,.string ⟨#[]⟩] 101)) W->∀ d' os,Calls Tryz.prog 258 #[.string (itx (n*e+m*d)),.string (dec (d*e))] (Go.Sort.grow (redrawn W d') os) fun x w''=>x = .returned (.agg #[.string rs,.string rt])/\∃ p:Regrown,w''=Go.Sort.grow (redrawn W p.d) p.os):=fun W hW d' os=>by
   have:=Zcb (Go.Sort.grow (redrawn W d') os) (n*e+m*d) (d*e) _ (FT.le (Nat.le_succ _)) (fY.le (Nat.le_succ _)) GW FT fY rfl ((HL.o.below hW).below (below_regrown W d' os))
   unfold fv at this;rw[hrs,hrt] at this;exact Calls.regrown_of this
  by_cases G':d=1
  ·rw[decide_eq_true G'] at o1;rw[decide_eq_false (fun h=>fw ⟨G',h⟩)] at o2;clear G' fw
   by_cases h1:(itx n).size<=9/\(dec d).size<=9
   ·have gF:=hd_ (Yx n d hn hd h1)
    by_cases h2:(itx m).size<=9/\(dec e).size<=9
    ·have gP:=hd_ (Yx m e hm he h2);have q1:=Yq n 9 (by decide) h1.1;have q2:=Yq m 9 (by decide) h2.1;have q3:=(Ku d 9 (by decide)).1 (by rw[<- Kt];exact h1.2);have q4:=(Ku e 9 (by decide)).1 (by rw[<- Kt];exact h2.2);have q5:(n*e).natAbs<=1000000000*1000000000:=by rw[Int.natAbs_mul];exact Nat.mul_le_mul (by omega) (by omega)
     have q7:(m*d).natAbs<=1000000000*1000000000:=by rw[Int.natAbs_mul];exact Nat.mul_le_mul (by omega) (by omega)
     have q6:d*e<=1000000000*1000000000:=Nat.mul_le_mul (by omega) (by omega);have fh:IntKind.i64.wrap (n*e)=n*e:=iw_ _ (by omega);have Dc:IntKind.i64.wrap (m*d)=m*d:=iw_ _ (by omega);have f8:IntKind.i64.wrap (n*e+m*d)=n*e+m*d:=iw_ _ (by omega);have fX:IntKind.i64.wrap ((d:Int)*(e:Int))=((d*e:Nat):Int):=by rw[<- Int.natCast_mul];exact iw_ _ ⟨Int.le_trans (by decide) (Int.natCast_nonneg _),Int.le_trans (Int.ofNat_le.2 q6) (by decide)⟩
     have Gb:Hid (∀ W,Below (((w.alloc (.cells #[.string (itx n),.string (dec d)] 101)).alloc (.cells #[.string (itx m),.string (dec e)] 101)).alloc (.cells #[.string ⟨#[]⟩,.string ⟨#[]⟩] 101)).heap.size (((w.alloc (.cells #[.string (itx n),.string (dec d)] 101)).alloc (.cells #[.string (itx m),.string (dec e)] 101)).alloc (.cells #[.string ⟨#[]⟩,.string ⟨#[]⟩] 101)) W->Kc Tryz.prog 260 #[.int .i64 (n*e+m*d),.int .i64 ((d*e:Nat):Int)] W (.agg #[.string rs,.string rt])):=fun W hW=>by
      have:=Zoi W (n*e+m*d) (d*e) _ (by omega) (by omega) GW rfl (HL.o.below hW)
      unfold fv at this;rw[hrs,hrt] at this;exact this
     unfold fv at gF gP ⊢;clear fN fM fL eh Cj q1 q2 q3 q4 q5 q6 q7 h1 h2 hrs hrt hv GW fH;go_enter Tryz.func207,Tryz.ntmps207;obtain⟨k0,k1,-,-⟩:=Ka H3.o.fa;obtain⟨k2,k3,-,-⟩:=Ka H3.o.fb;go_wp2_with fail;generalize ((w.alloc (.cells #[.string (itx n),.string (dec d)] 101)).alloc (.cells #[.string (itx m),.string (dec e)] 101)).alloc (.cells #[.string ⟨#[]⟩,.string ⟨#[]⟩] 101)=W0 at *;clear k0 k1 k2 k3;refine cm_ (gF.o _) ?_;rintro e w1 ⟨rfl,hZ⟩;have H6:=hd_ hZ;clear hZ gF;obtain⟨k0,k1,-,-⟩:=Ka (H3.o.next H6.o).fa;obtain⟨k2,k3,-,-⟩:=Ka (H3.o.next H6.o).fb;go_wp2_with fail;clear k0 k1 k2 k3;refine cm_ (gP.o _) ?_;rintro e w2 ⟨rfl,HU⟩;have H9:=bt_ H6 HU;clear HU H6 gP;go_wp2_with fail;refine cm_ (Gb.o w2 H9.o) ?_;rintro e w3 ⟨rfl,hb3⟩;have gh:=bt_ H9 hb3;clear hb3 H9 Gb;have H8:=hd_ (H3.o.next gh.o);clear H3 gh;obtain⟨k0,k1,f0,f1⟩:=Ka H8.o.fr;have gK:=hd_ H8.o.bel;clear H8;go_wp2;obtain⟨c0,c1,hb3⟩:=Kl (B:=w.heap.size) (.string rs) (.string rt) k0 k1 (by omega) gK.o;generalize (w3.setCell ⟨w.heap.size+1+1,0,none⟩ (.string rs)).setCell ⟨w.heap.size+1+1,1,none⟩ (.string rt)=w9 at *;exact bodyPost_ret (v := .agg #[.string rs,.string rt]) (by simp[results,Tryz.results207,go_sem,c0,c1]) rfl ⟨by rw[Hv.o],hb3⟩
    ·obtain⟨x,y,gR⟩:=Yy m e hm he h2;have gP:=hd_ gR;unfold fv at gF gP ⊢;clear h1 h2 hrs hrt hv GW gR fH;go_enter Tryz.func207,Tryz.ntmps207;obtain⟨k0,k1,-,-⟩:=Ka H3.o.fa;obtain⟨k2,k3,-,-⟩:=Ka H3.o.fb;go_wp2_with fail;generalize ((w.alloc (.cells #[.string (itx n),.string (dec d)] 101)).alloc (.cells #[.string (itx m),.string (dec e)] 101)).alloc (.cells #[.string ⟨#[]⟩,.string ⟨#[]⟩] 101)=W0 at *;clear k0 k1 k2 k3;refine cm_ (gF.o _) ?_;rintro e w1 ⟨rfl,hZ⟩;have H6:=hd_ hZ;clear hZ gF;obtain⟨k0,k1,-,-⟩:=Ka (H3.o.next H6.o).fa;obtain⟨k2,k3,-,-⟩:=Ka (H3.o.next H6.o).fb;go_wp2_with fail;clear k0 k1 k2 k3;refine cm_ (gP.o _) ?_;rintro e w2 ⟨rfl,HU⟩;have H9:=bt_ H6 HU;clear HU H6 gP;obtain⟨k0,k1,-,-⟩:=Ka (H3.o.next H9.o).fa;obtain⟨k2,k3,-,-⟩:=Ka (H3.o.next H9.o).fb;have q0:=cell_regrown k0;have q1:=cell_regrown k1;have q2:=cell_regrown k2;have q3:=cell_regrown k3;have gO:=fN.o w2 H9.o;have gQ:=fM.o w2 H9.o;have Gl:=fL.o w2 H9.o;have GF:=eh.o w2 H9.o;have fU:=Cj.o w2 H9.o;clear k0 k1 k2 k3 fN fM fL eh Cj;go_wp2_with fail;refine Kr 17 (by kernel_rfl) (by kernel_rfl) ?_;simp only[List.take_succ_cons,List.take_zero,List.drop_succ_cons,List.drop_zero]
     repeat (first | go_big_quiet_step (first | with_reducible exact gO _ _ | with_reducible exact gQ _ _ | with_reducible exact Gl _ _ | with_reducible exact GF _ _ | with_reducible exact fU _ _) | quiet_step (first | with_reducible exact gO _ _ | with_reducible exact gQ _ _ | with_reducible exact Gl _ _ | with_reducible exact GF _ _ | with_reducible exact fU _ _))
     refine wpQuiet_nil ?_;intro w8 Fm;obtain⟨⟨dq,osq⟩,rfl⟩:=Fm;have G7:=below_regrown w2 dq osq;have H8:=hd_ ((H3.o.next H9.o).next G7);clear G7 gO gQ Gl GF fU q0 q1 q2 q3 H3 H9;generalize Go.Sort.grow (redrawn w2 dq) osq=w8 at *;obtain⟨k0,k1,f0,f1⟩:=Ka H8.o.fr;have gK:=hd_ H8.o.bel;clear H8;go_wp2;obtain⟨c0,c1,hb3⟩:=Kl (B:=w.heap.size) (.string rs) (.string rt) k0 k1 (by omega) gK.o;generalize (w8.setCell ⟨w.heap.size+1+1,0,none⟩ (.string rs)).setCell ⟨w.heap.size+1+1,1,none⟩ (.string rt)=w9 at *;exact bodyPost_ret (v := .agg #[.string rs,.string rt]) (by simp[results,Tryz.results207,go_sem,c0,c1]) rfl ⟨by rw[Hv.o],hb3⟩
   ·obtain⟨x,y,gC⟩:=Yy n d hn hd h1;have gF:=hd_ gC;unfold fv at gF ⊢;clear h1 hrs hrt hv GW gC fH;go_enter Tryz.func207,Tryz.ntmps207;obtain⟨k0,k1,-,-⟩:=Ka H3.o.fa;obtain⟨k2,k3,-,-⟩:=Ka H3.o.fb;go_wp2_with fail;generalize ((w.alloc (.cells #[.string (itx n),.string (dec d)] 101)).alloc (.cells #[.string (itx m),.string (dec e)] 101)).alloc (.cells #[.string ⟨#[]⟩,.string ⟨#[]⟩] 101)=W0 at *;clear k0 k1 k2 k3;refine cm_ (gF.o _) ?_;rintro e w1 ⟨rfl,hZ⟩;have H6:=hd_ hZ;clear hZ gF;obtain⟨k0,k1,-,-⟩:=Ka (H3.o.next H6.o).fa;obtain⟨k2,k3,-,-⟩:=Ka (H3.o.next H6.o).fb;have q0:=cell_regrown k0;have q1:=cell_regrown k1;have q2:=cell_regrown k2;have q3:=cell_regrown k3;have gO:=fN.o w1 H6.o;have gQ:=fM.o w1 H6.o;have Gl:=fL.o w1 H6.o;have GF:=eh.o w1 H6.o;have fU:=Cj.o w1 H6.o;clear k0 k1 k2 k3 fN fM fL eh Cj;go_wp2_with fail;refine Kr 17 (by kernel_rfl) (by kernel_rfl) ?_;simp only[List.take_succ_cons,List.take_zero,List.drop_succ_cons,List.drop_zero]
    repeat (first | go_big_quiet_step (first | with_reducible exact gO _ _ | with_reducible exact gQ _ _ | with_reducible exact Gl _ _ | with_reducible exact GF _ _ | with_reducible exact fU _ _) | quiet_step (first | with_reducible exact gO _ _ | with_reducible exact gQ _ _ | with_reducible exact Gl _ _ | with_reducible exact GF _ _ | with_reducible exact fU _ _))
    refine wpQuiet_nil ?_;intro w8 Fm;obtain⟨⟨dq,osq⟩,rfl⟩:=Fm;have G7:=below_regrown w1 dq osq;have H8:=hd_ ((H3.o.next H6.o).next G7);clear G7 gO gQ Gl GF fU q0 q1 q2 q3 H3 H6;generalize Go.Sort.grow (redrawn w1 dq) osq=w8 at *;obtain⟨k0,k1,f0,f1⟩:=Ka H8.o.fr;have gK:=hd_ H8.o.bel;clear H8;go_wp2;obtain⟨c0,c1,hb3⟩:=Kl (B:=w.heap.size) (.string rs) (.string rt) k0 k1 (by omega) gK.o;generalize (w8.setCell ⟨w.heap.size+1+1,0,none⟩ (.string rs)).setCell ⟨w.heap.size+1+1,1,none⟩ (.string rt)=w9 at *;exact bodyPost_ret (v := .agg #[.string rs,.string rt]) (by simp[results,Tryz.results207,go_sem,c0,c1]) rfl ⟨by rw[Hv.o],hb3⟩
  ·rw[decide_eq_false G'] at o1;clear G' fw o2
   by_cases h1:(itx n).size<=9/\(dec d).size<=9
   ·have gF:=hd_ (Yx n d hn hd h1)
    by_cases h2:(itx m).size<=9/\(dec e).size<=9
    ·have gP:=hd_ (Yx m e hm he h2);have q1:=Yq n 9 (by decide) h1.1;have q2:=Yq m 9 (by decide) h2.1;have q3:=(Ku d 9 (by decide)).1 (by rw[<- Kt];exact h1.2);have q4:=(Ku e 9 (by decide)).1 (by rw[<- Kt];exact h2.2);have q5:(n*e).natAbs<=1000000000*1000000000:=by rw[Int.natAbs_mul];exact Nat.mul_le_mul (by omega) (by omega)
     have q7:(m*d).natAbs<=1000000000*1000000000:=by rw[Int.natAbs_mul];exact Nat.mul_le_mul (by omega) (by omega)
     have q6:d*e<=1000000000*1000000000:=Nat.mul_le_mul (by omega) (by omega);have fh:IntKind.i64.wrap (n*e)=n*e:=iw_ _ (by omega);have Dc:IntKind.i64.wrap (m*d)=m*d:=iw_ _ (by omega);have f8:IntKind.i64.wrap (n*e+m*d)=n*e+m*d:=iw_ _ (by omega);have fX:IntKind.i64.wrap ((d:Int)*(e:Int))=((d*e:Nat):Int):=by rw[<- Int.natCast_mul];exact iw_ _ ⟨Int.le_trans (by decide) (Int.natCast_nonneg _),Int.le_trans (Int.ofNat_le.2 q6) (by decide)⟩
     have Gb:Hid (∀ W,Below (((w.alloc (.cells #[.string (itx n),.string (dec d)] 101)).alloc (.cells #[.string (itx m),.string (dec e)] 101)).alloc (.cells #[.string ⟨#[]⟩,.string ⟨#[]⟩] 101)).heap.size (((w.alloc (.cells #[.string (itx n),.string (dec d)] 101)).alloc (.cells #[.string (itx m),.string (dec e)] 101)).alloc (.cells #[.string ⟨#[]⟩,.string ⟨#[]⟩] 101)) W->Kc Tryz.prog 260 #[.int .i64 (n*e+m*d),.int .i64 ((d*e:Nat):Int)] W (.agg #[.string rs,.string rt])):=fun W hW=>by
      have:=Zoi W (n*e+m*d) (d*e) _ (by omega) (by omega) GW rfl (HL.o.below hW)
      unfold fv at this;rw[hrs,hrt] at this;exact this
     unfold fv at gF gP ⊢;clear fN fM fL eh Cj q1 q2 q3 q4 q5 q6 q7 h1 h2 hrs hrt hv GW fH;go_enter Tryz.func207,Tryz.ntmps207;obtain⟨k0,k1,-,-⟩:=Ka H3.o.fa;obtain⟨k2,k3,-,-⟩:=Ka H3.o.fb;go_wp2_with fail;generalize ((w.alloc (.cells #[.string (itx n),.string (dec d)] 101)).alloc (.cells #[.string (itx m),.string (dec e)] 101)).alloc (.cells #[.string ⟨#[]⟩,.string ⟨#[]⟩] 101)=W0 at *;clear k0 k1 k2 k3;refine cm_ (gF.o _) ?_;rintro e w1 ⟨rfl,hZ⟩;have H6:=hd_ hZ;clear hZ gF;obtain⟨k0,k1,-,-⟩:=Ka (H3.o.next H6.o).fa;obtain⟨k2,k3,-,-⟩:=Ka (H3.o.next H6.o).fb;go_wp2_with fail;clear k0 k1 k2 k3;refine cm_ (gP.o _) ?_;rintro e w2 ⟨rfl,HU⟩;have H9:=bt_ H6 HU;clear HU H6 gP;go_wp2_with fail;refine cm_ (Gb.o w2 H9.o) ?_;rintro e w3 ⟨rfl,hb3⟩;have gh:=bt_ H9 hb3;clear hb3 H9 Gb;have H8:=hd_ (H3.o.next gh.o);clear H3 gh;obtain⟨k0,k1,f0,f1⟩:=Ka H8.o.fr;have gK:=hd_ H8.o.bel;clear H8;go_wp2;obtain⟨c0,c1,hb3⟩:=Kl (B:=w.heap.size) (.string rs) (.string rt) k0 k1 (by omega) gK.o;generalize (w3.setCell ⟨w.heap.size+1+1,0,none⟩ (.string rs)).setCell ⟨w.heap.size+1+1,1,none⟩ (.string rt)=w9 at *;exact bodyPost_ret (v := .agg #[.string rs,.string rt]) (by simp[results,Tryz.results207,go_sem,c0,c1]) rfl ⟨by rw[Hv.o],hb3⟩
    ·obtain⟨x,y,gR⟩:=Yy m e hm he h2;have gP:=hd_ gR;unfold fv at gF gP ⊢;clear h1 h2 hrs hrt hv GW gR fH;go_enter Tryz.func207,Tryz.ntmps207;obtain⟨k0,k1,-,-⟩:=Ka H3.o.fa;obtain⟨k2,k3,-,-⟩:=Ka H3.o.fb;go_wp2_with fail;generalize ((w.alloc (.cells #[.string (itx n),.string (dec d)] 101)).alloc (.cells #[.string (itx m),.string (dec e)] 101)).alloc (.cells #[.string ⟨#[]⟩,.string ⟨#[]⟩] 101)=W0 at *;clear k0 k1 k2 k3;refine cm_ (gF.o _) ?_;rintro e w1 ⟨rfl,hZ⟩;have H6:=hd_ hZ;clear hZ gF;obtain⟨k0,k1,-,-⟩:=Ka (H3.o.next H6.o).fa;obtain⟨k2,k3,-,-⟩:=Ka (H3.o.next H6.o).fb;go_wp2_with fail;clear k0 k1 k2 k3;refine cm_ (gP.o _) ?_;rintro e w2 ⟨rfl,HU⟩;have H9:=bt_ H6 HU;clear HU H6 gP;obtain⟨k0,k1,-,-⟩:=Ka (H3.o.next H9.o).fa;obtain⟨k2,k3,-,-⟩:=Ka (H3.o.next H9.o).fb;have q0:=cell_regrown k0;have q1:=cell_regrown k1;have q2:=cell_regrown k2;have q3:=cell_regrown k3;have gO:=fN.o w2 H9.o;have gQ:=fM.o w2 H9.o;have Gl:=fL.o w2 H9.o;have GF:=eh.o w2 H9.o;have fU:=Cj.o w2 H9.o;clear k0 k1 k2 k3 fN fM fL eh Cj;go_wp2_with fail;refine Kr 17 (by kernel_rfl) (by kernel_rfl) ?_;simp only[List.take_succ_cons,List.take_zero,List.drop_succ_cons,List.drop_zero]
     repeat (first | go_big_quiet_step (first | with_reducible exact gO _ _ | with_reducible exact gQ _ _ | with_reducible exact Gl _ _ | with_reducible exact GF _ _ | with_reducible exact fU _ _) | quiet_step (first | with_reducible exact gO _ _ | with_reducible exact gQ _ _ | with_reducible exact Gl _ _ | with_reducible exact GF _ _ | with_reducible exact fU _ _))
     refine wpQuiet_nil ?_;intro w8 Fm;obtain⟨⟨dq,osq⟩,rfl⟩:=Fm;have G7:=below_regrown w2 dq osq;have H8:=hd_ ((H3.o.next H9.o).next G7);clear G7 gO gQ Gl GF fU q0 q1 q2 q3 H3 H9;generalize Go.Sort.grow (redrawn w2 dq) osq=w8 at *;obtain⟨k0,k1,f0,f1⟩:=Ka H8.o.fr;have gK:=hd_ H8.o.bel;clear H8;go_wp2;obtain⟨c0,c1,hb3⟩:=Kl (B:=w.heap.size) (.string rs) (.string rt) k0 k1 (by omega) gK.o;generalize (w8.setCell ⟨w.heap.size+1+1,0,none⟩ (.string rs)).setCell ⟨w.heap.size+1+1,1,none⟩ (.string rt)=w9 at *;exact bodyPost_ret (v := .agg #[.string rs,.string rt]) (by simp[results,Tryz.results207,go_sem,c0,c1]) rfl ⟨by rw[Hv.o],hb3⟩
   ·obtain⟨x,y,gC⟩:=Yy n d hn hd h1;have gF:=hd_ gC;unfold fv at gF ⊢;clear h1 hrs hrt hv GW gC fH;go_enter Tryz.func207,Tryz.ntmps207;obtain⟨k0,k1,-,-⟩:=Ka H3.o.fa;obtain⟨k2,k3,-,-⟩:=Ka H3.o.fb;go_wp2_with fail;generalize ((w.alloc (.cells #[.string (itx n),.string (dec d)] 101)).alloc (.cells #[.string (itx m),.string (dec e)] 101)).alloc (.cells #[.string ⟨#[]⟩,.string ⟨#[]⟩] 101)=W0 at *;clear k0 k1 k2 k3;refine cm_ (gF.o _) ?_;rintro e w1 ⟨rfl,hZ⟩;have H6:=hd_ hZ;clear hZ gF;obtain⟨k0,k1,-,-⟩:=Ka (H3.o.next H6.o).fa;obtain⟨k2,k3,-,-⟩:=Ka (H3.o.next H6.o).fb;have q0:=cell_regrown k0;have q1:=cell_regrown k1;have q2:=cell_regrown k2;have q3:=cell_regrown k3;have gO:=fN.o w1 H6.o;have gQ:=fM.o w1 H6.o;have Gl:=fL.o w1 H6.o;have GF:=eh.o w1 H6.o;have fU:=Cj.o w1 H6.o;clear k0 k1 k2 k3 fN fM fL eh Cj;go_wp2_with fail;refine Kr 17 (by kernel_rfl) (by kernel_rfl) ?_;simp only[List.take_succ_cons,List.take_zero,List.drop_succ_cons,List.drop_zero]
    repeat (first | go_big_quiet_step (first | with_reducible exact gO _ _ | with_reducible exact gQ _ _ | with_reducible exact Gl _ _ | with_reducible exact GF _ _ | with_reducible exact fU _ _) | quiet_step (first | with_reducible exact gO _ _ | with_reducible exact gQ _ _ | with_reducible exact Gl _ _ | with_reducible exact GF _ _ | with_reducible exact fU _ _))
    refine wpQuiet_nil ?_;intro w8 Fm;obtain⟨⟨dq,osq⟩,rfl⟩:=Fm;have G7:=below_regrown w1 dq osq;have H8:=hd_ ((H3.o.next H6.o).next G7);clear G7 gO gQ Gl GF fU q0 q1 q2 q3 H3 H6;generalize Go.Sort.grow (redrawn w1 dq) osq=w8 at *;obtain⟨k0,k1,f0,f1⟩:=Ka H8.o.fr;have gK:=hd_ H8.o.bel;clear H8;go_wp2;obtain⟨c0,c1,hb3⟩:=Kl (B:=w.heap.size) (.string rs) (.string rt) k0 k1 (by omega) gK.o;generalize (w8.setCell ⟨w.heap.size+1+1,0,none⟩ (.string rs)).setCell ⟨w.heap.size+1+1,1,none⟩ (.string rt)=w9 at *;exact bodyPost_ret (v := .agg #[.string rs,.string rt]) (by simp[results,Tryz.results207,go_sem,c0,c1]) rfl ⟨by rw[Hv.o],hb3⟩
theorem Zjo(w:World)(n:Int)(d:Nat)(hn:Zbj n)(hd:Num d)(GS:0<d)(L:Qe w):
  Kc Tryz.prog 139 #[fv n d] w (.int .i64 (if ((dec n.natAbs).size<=400/\(dec d).size<=400)/\Nat.gcd n.natAbs d=1 then 0 else 2)):=by
 unfold Kc fv;have gl:=hd_ ((Below.refl w.heap.size w).alloc nr_ (.cells #[.string (itx n),.string (dec d)] 101));have ge:Hid ((w.alloc (.cells #[.string (itx n),.string (dec d)] 101)).heap[w.heap.size]?=some (.cells #[.string (itx n),.string (dec d)] 101 (0,0))):=heap_alloc_new w _;have HL:=hd_ (L.below gl.o);have gF:=hd_ (fun W=>Zfe W n hn);have gP:Hid (∀ W,Kc Tryz.prog 218 #[.string (dec d)] W (.int .i64 (if (dec d).size<=400 then 0 else 2))):=fun W=>by
  have:=Zfe W (d:Int) (show Num _ from hd)
  rw[Kh] at this;exact this
 have Gf:Hid (∀ W,Kc Tryz.prog 59 #[.string (dec d)] W (.int .i64 1)):=fun W=>by
  have:=Zx W (d:Int)
  rw[Kh,Zf8 GS] at this;exact this
 have fz:Hid (∀ W,Below (w.alloc (.cells #[.string (itx n),.string (dec d)] 101)).heap.size (w.alloc (.cells #[.string (itx n),.string (dec d)] 101)) W->Kc Tryz.prog 219 #[.string (itx n),.string (dec d)] W (.string (dec (Nat.gcd n.natAbs d)))):=fun W hW=>by
  have:=Zkz W n (d:Int) hn (show Num _ from hd) (HL.o.below hW)
  rw[Kh] at this;exact this
 have ho:=Zeh (Nat.gcd n.natAbs d);clear L HL hn hd GS
 by_cases h1:(dec n.natAbs).size<=400
 ·rw[if_pos h1] at gF
  by_cases h2:(dec d).size<=400
  ·rw[if_pos h2] at gP
   by_cases h3:Nat.gcd n.natAbs d=1
   ·rw[if_pos ⟨⟨h1,h2⟩,h3⟩];rw[decide_eq_true h3] at ho;clear h1 h2 h3;generalize dec (Nat.gcd n.natAbs d)=u at *;go_enter Tryz.func139,Tryz.ntmps139;obtain⟨k0,k1,-,-⟩:=Ka ge.o;go_wp2_with fail;generalize w.alloc (.cells #[.string (itx n),.string (dec d)] 101)=W0 at *;clear k0 k1;refine cm_ (gF.o _) ?_;rintro e w1 ⟨rfl,hZ⟩;have H6:=hd_ hZ;clear hZ gF;obtain⟨k0,k1,-,-⟩:=Ka (Kg ge.o H6.o);go_wp2_with fail;clear k0 k1;refine cm_ (gP.o _) ?_;rintro e w2 ⟨rfl,HU⟩;have H9:=bt_ H6 HU;clear HU H6 gP;obtain⟨k0,k1,-,-⟩:=Ka (Kg ge.o H9.o);go_wp2_with fail;clear k0 k1;refine cm_ (Gf.o _) ?_;rintro e w3 ⟨rfl,hb3⟩;have gh:=bt_ H9 hb3;clear hb3 H9 Gf;obtain⟨k0,k1,-,-⟩:=Ka (Kg ge.o gh.o);go_wp2_with fail;clear k0 k1;refine cm_ (fz.o _ gh.o) ?_;rintro e w4 ⟨rfl,gz⟩;have gu:=bt_ gh gz;clear gz gh fz;have gK:=bt_ gl gu.o;obtain⟨k0,k1,-,-⟩:=Ka (Kg ge.o gu.o);go_wp2;go_ret;exact⟨rfl,gK.o⟩
   ·rw[if_neg (fun h=>h3 h.2)];rw[decide_eq_false h3] at ho;clear h1 h2 h3;generalize dec (Nat.gcd n.natAbs d)=u at *;go_enter Tryz.func139,Tryz.ntmps139;obtain⟨k0,k1,-,-⟩:=Ka ge.o;go_wp2_with fail;generalize w.alloc (.cells #[.string (itx n),.string (dec d)] 101)=W0 at *;clear k0 k1;refine cm_ (gF.o _) ?_;rintro e w1 ⟨rfl,hZ⟩;have H6:=hd_ hZ;clear hZ gF;obtain⟨k0,k1,-,-⟩:=Ka (Kg ge.o H6.o);go_wp2_with fail;clear k0 k1;refine cm_ (gP.o _) ?_;rintro e w2 ⟨rfl,HU⟩;have H9:=bt_ H6 HU;clear HU H6 gP;obtain⟨k0,k1,-,-⟩:=Ka (Kg ge.o H9.o);go_wp2_with fail;clear k0 k1;refine cm_ (Gf.o _) ?_;rintro e w3 ⟨rfl,hb3⟩;have gh:=bt_ H9 hb3;clear hb3 H9 Gf;obtain⟨k0,k1,-,-⟩:=Ka (Kg ge.o gh.o);go_wp2_with fail;clear k0 k1;refine cm_ (fz.o _ gh.o) ?_;rintro e w4 ⟨rfl,gz⟩;have gu:=bt_ gh gz;clear gz gh fz;have gK:=bt_ gl gu.o;obtain⟨k0,k1,-,-⟩:=Ka (Kg ge.o gu.o);go_wp2;go_ret;exact⟨rfl,gK.o⟩
  ·rw[if_neg h2] at gP;rw[if_neg (fun h=>h2 h.1.2)];clear h1 h2 fz ho;go_enter Tryz.func139,Tryz.ntmps139;obtain⟨k0,k1,-,-⟩:=Ka ge.o;go_wp2_with fail;generalize w.alloc (.cells #[.string (itx n),.string (dec d)] 101)=W0 at *;clear k0 k1;refine cm_ (gF.o _) ?_;rintro e w1 ⟨rfl,hZ⟩;have H6:=hd_ hZ;clear hZ gF;obtain⟨k0,k1,-,-⟩:=Ka (Kg ge.o H6.o);go_wp2_with fail;clear k0 k1;refine cm_ (gP.o _) ?_;rintro e w2 ⟨rfl,HU⟩;have H9:=bt_ H6 HU;clear HU H6 gP;have gK:=bt_ gl H9.o;obtain⟨k0,k1,-,-⟩:=Ka (Kg ge.o H9.o);go_wp2;go_ret;exact⟨rfl,gK.o⟩
 ·rw[if_neg h1] at gF;rw[if_neg (fun h=>h1 h.1.1)];clear h1 fz ho gP;go_enter Tryz.func139,Tryz.ntmps139;obtain⟨k0,k1,-,-⟩:=Ka ge.o;go_wp2_with fail;generalize w.alloc (.cells #[.string (itx n),.string (dec d)] 101)=W0 at *;clear k0 k1;refine cm_ (gF.o _) ?_;rintro e w1 ⟨rfl,hZ⟩;have H6:=hd_ hZ;clear hZ gF;have gK:=bt_ gl H6.o;obtain⟨k0,k1,-,-⟩:=Ka (Kg ge.o H6.o);go_wp2;go_ret;exact⟨rfl,gK.o⟩
theorem Zma(w:World)(n:Int)(d:Nat):
  Kc Tryz.prog 121 #[fv n d] w (.int .i64 n.sign):=by
 unfold Kc fv;have gl:=hd_ ((Below.refl w.heap.size w).alloc nr_ (.cells #[.string (itx n),.string (dec d)] 101));have ge:Hid ((w.alloc (.cells #[.string (itx n),.string (dec d)] 101)).heap[w.heap.size]?=some (.cells #[.string (itx n),.string (dec d)] 101 (0,0))):=heap_alloc_new w _;have Gf:=hd_ (fun W=>Zx W n);go_enter Tryz.func121,Tryz.ntmps121;obtain⟨k0,k1,-,-⟩:=Ka ge.o;go_wp2_with fail;generalize w.alloc (.cells #[.string (itx n),.string (dec d)] 101)=W0 at *;clear k0 k1;refine cm_ (Gf.o _) ?_;rintro e w1 ⟨rfl,hZ⟩;have H6:=hd_ hZ;clear hZ Gf;have gK:=bt_ gl H6.o;obtain⟨k0,k1,-,-⟩:=Ka (Kg ge.o H6.o);go_wp2;go_ret;exact⟨rfl,gK.o⟩
theorem Ztc(w:World)(n:Int)(d:Nat)(hn:Zbj n)(hd:Num d)(GS:0<d)(fD:Num (n.natAbs+1))(L:Qe w):
  Kc Tryz.prog 239 #[fv n d] w (.string (itx (n/(d:Int)))):=by
 unfold Kc fv;have gl:=hd_ ((Below.refl w.heap.size w).alloc nr_ (.cells #[.string (itx n),.string (dec d)] 101));have ge:Hid ((w.alloc (.cells #[.string (itx n),.string (dec d)] 101)).heap[w.heap.size]?=some (.cells #[.string (itx n),.string (dec d)] 101 (0,0))):=heap_alloc_new w _;have HL:=hd_ (L.below gl.o);have fF:Hid (∀ W,Below (w.alloc (.cells #[.string (itx n),.string (dec d)] 101)).heap.size (w.alloc (.cells #[.string (itx n),.string (dec d)] 101)) W->Kc Tryz.prog 163 #[.string (itx n),.string (dec d)] W (.tuple #[.string (itx (n/(d:Int))),.string (itx (n%(d:Int))),.int .i64 0])):=fun W hW=>Ys W n d hn hd GS fD (HL.o.below hW)
 clear L;go_enter Tryz.func239,Tryz.ntmps239;obtain⟨k0,k1,-,-⟩:=Ka ge.o;go_wp2_with fail;generalize w.alloc (.cells #[.string (itx n),.string (dec d)] 101)=W0 at *;clear k0 k1;refine cm_ (fF.o _ (Below.refl _ _)) ?_;rintro e w1 ⟨rfl,hZ⟩;have H6:=hd_ hZ;clear hZ fF;have gK:=bt_ gl H6.o;obtain⟨k0,k1,-,-⟩:=Ka (Kg ge.o H6.o);go_wp2;go_ret;exact⟨rfl,gK.o⟩
theorem Zqt(w:World)(n:Int)(d:Nat)(hn:Zbj n)(hd:Num d)(GS:0<d)(fD:Num (n.natAbs+1))(G':Num (d+1))(L:Qe w):
  Kc Tryz.prog 204 #[.string (itx n),.string (dec d)] w (.tuple #[Zlq n d,.int .i64 0]):=by
 obtain⟨rs,hrs⟩:∃ rs,itx (n/((Nat.gcd n.natAbs d:Nat):Int))=rs:=⟨_,rfl⟩;obtain⟨rt,hrt⟩:∃ rt,dec (d/Nat.gcd n.natAbs d)=rt:=⟨_,rfl⟩;have hv:Zlq n d = .agg #[.string rs,.string rt]:=by unfold Zlq fv;rw[hrs,hrt]
 have Hv:=hd_ hv;unfold Kc;have gl:=hd_ ((Below.refl w.heap.size w).alloc nr_ (.cells #[.string ⟨#[]⟩,.string ⟨#[]⟩] 101));have ge:Hid ((w.alloc (.cells #[.string ⟨#[]⟩,.string ⟨#[]⟩] 101)).heap[w.heap.size]?=some (.cells #[.string ⟨#[]⟩,.string ⟨#[]⟩] 101 (0,0))):=heap_alloc_new w _;have HL:=hd_ (L.below gl.o);clear L;have Gf:Hid (∀ W,Kc Tryz.prog 59 #[.string (dec d)] W (.int .i64 1)):=fun W=>by
  have:=Zx W (d:Int)
  rw[Kh,Zf8 GS] at this;exact this
 have bK:Hid (∀ W,Below (w.alloc (.cells #[.string ⟨#[]⟩,.string ⟨#[]⟩] 101)).heap.size (w.alloc (.cells #[.string ⟨#[]⟩,.string ⟨#[]⟩] 101)) W->Kc Tryz.prog 258 #[.string (itx n),.string (dec d)] W (.agg #[.string rs,.string rt])):=fun W hW=>by
  have:=Zcb W n d _ hn hd GS fD G' rfl (HL.o.below hW)
  unfold fv at this;rw[hrs,hrt] at this;exact this
 clear hrs hrt hv;go_enter Tryz.func204,Tryz.ntmps204;go_wp2_with fail;generalize w.alloc (.cells #[.string ⟨#[]⟩,.string ⟨#[]⟩] 101)=W0 at *;refine cm_ (Gf.o _) ?_;rintro e w1 ⟨rfl,hZ⟩;have H6:=hd_ hZ;clear hZ Gf;go_wp2_with fail;refine cm_ (bK.o _ H6.o) ?_;rintro e w2 ⟨rfl,HU⟩;have H9:=bt_ H6 HU;clear HU H6 bK;have gm:=hd_ (Kg ge.o H9.o);have gK:=bt_ gl H9.o;obtain⟨k0,k1,f0,f1⟩:=Ka gm.o;clear H9 gl gm ge HL;go_wp2;obtain⟨c0,c1,hb3⟩:=Kl (.string rs) (.string rt) k0 k1 nr_ gK.o;generalize (w2.setCell ⟨w.heap.size,0,none⟩ (.string rs)).setCell ⟨w.heap.size,1,none⟩ (.string rt)=w9 at *;exact bodyPost_ret (v := .tuple #[.agg #[.string rs,.string rt],.int .i64 0]) (by simp[results,Tryz.results204,go_sem,c0,c1]) rfl ⟨by rw[Hv.o],hb3⟩
theorem Zqr(w:World)(n:Int)(d:Nat)(q1 : -9223372036854775808<=n)(q2:n<=9223372036854775807)(q3:d<=9223372036854775807)(hn:Zbj n)(hd:Num d)(GS:0<d)(fD:Num (n.natAbs+1))(G':Num (d+1))(L:Qe w):
  Kc Tryz.prog 126 #[.int .i64 n,.int .i64 d] w (.tuple #[Zlq n d,.int .i64 0]):=by
 obtain⟨rs,hrs⟩:∃ rs,itx (n/((Nat.gcd n.natAbs d:Nat):Int))=rs:=⟨_,rfl⟩;obtain⟨rt,hrt⟩:∃ rt,dec (d/Nat.gcd n.natAbs d)=rt:=⟨_,rfl⟩;have hv:Zlq n d = .agg #[.string rs,.string rt]:=by unfold Zlq fv;rw[hrs,hrt]
 have Hv:=hd_ hv;unfold Kc;have gl:=hd_ ((Below.refl w.heap.size w).alloc nr_ (.cells #[.string ⟨#[]⟩,.string ⟨#[]⟩] 101));have ge:Hid ((w.alloc (.cells #[.string ⟨#[]⟩,.string ⟨#[]⟩] 101)).heap[w.heap.size]?=some (.cells #[.string ⟨#[]⟩,.string ⟨#[]⟩] 101 (0,0))):=heap_alloc_new w _;have HL:=hd_ (L.below gl.o);clear L;have Fw:Hid (∀ W,Below (w.alloc (.cells #[.string ⟨#[]⟩,.string ⟨#[]⟩] 101)).heap.size (w.alloc (.cells #[.string ⟨#[]⟩,.string ⟨#[]⟩] 101)) W->Kc Tryz.prog 13 #[.int .i64 n] W (.string (itx n))):=fun W hW=>Zaz W n q1 q2 (HL.o.below hW)
 have ni:Hid (∀ W,Below (w.alloc (.cells #[.string ⟨#[]⟩,.string ⟨#[]⟩] 101)).heap.size (w.alloc (.cells #[.string ⟨#[]⟩,.string ⟨#[]⟩] 101)) W->Kc Tryz.prog 13 #[.int .i64 d] W (.string (dec d))):=fun W hW=>by
  have:=Zaz W (d:Int) (by omega) (by omega) (HL.o.below hW)
  rw[Kh] at this;exact this
 have bJ:Hid (∀ W,Below (w.alloc (.cells #[.string ⟨#[]⟩,.string ⟨#[]⟩] 101)).heap.size (w.alloc (.cells #[.string ⟨#[]⟩,.string ⟨#[]⟩] 101)) W->Kc Tryz.prog 204 #[.string (itx n),.string (dec d)] W (.tuple #[.agg #[.string rs,.string rt],.int .i64 0])):=fun W hW=>by
  have:=Zqt W n d hn hd GS fD G' (HL.o.below hW)
  rw[hv] at this;exact this
 clear hrs hrt hv;go_enter Tryz.func126,Tryz.ntmps126;go_wp2_with fail;generalize w.alloc (.cells #[.string ⟨#[]⟩,.string ⟨#[]⟩] 101)=W0 at *;refine cm_ (Fw.o _ (Below.refl _ _)) ?_;rintro e w1 ⟨rfl,hZ⟩;have H6:=hd_ hZ;clear hZ Fw;go_wp2_with fail;refine cm_ (ni.o _ H6.o) ?_;rintro e w2 ⟨rfl,HU⟩;have H9:=bt_ H6 HU;clear HU H6 ni;go_wp2_with fail;refine cm_ (bJ.o _ H9.o) ?_;rintro e w3 ⟨rfl,hb3⟩;have gh:=bt_ H9 hb3;clear hb3 H9 bJ;have gm:=hd_ (Kg ge.o gh.o);have gK:=bt_ gl gh.o;obtain⟨k0,k1,f0,f1⟩:=Ka gm.o;clear gh gl gm ge HL;go_wp2;obtain⟨c0,c1,hb3⟩:=Kl (.string rs) (.string rt) k0 k1 nr_ gK.o;generalize (w3.setCell ⟨w.heap.size,0,none⟩ (.string rs)).setCell ⟨w.heap.size,1,none⟩ (.string rt)=w9 at *;exact bodyPost_ret (v := .tuple #[.agg #[.string rs,.string rt],.int .i64 0]) (by simp[results,Tryz.results126,go_sem,c0,c1]) rfl ⟨by rw[Hv.o],hb3⟩
theorem Zq(w:World)(z:Int)(q1 : -9223372036854775808<=z)(q2:z<=9223372036854775807)(L:Qe w):
  Kc Tryz.prog 58 #[.int .i64 z] w (fv z 1):=by
 obtain⟨rs,hrs⟩:∃ rs,itx z=rs:=⟨_,rfl⟩;have hv:fv z 1 = .agg #[.string rs,.string ⟨#[49]⟩]:=by unfold fv;rw[hrs,Zt]
 have Hv:=hd_ hv;unfold Kc;have gl:=hd_ ((Below.refl w.heap.size w).alloc nr_ (.cells #[.string ⟨#[]⟩,.string ⟨#[]⟩] 101));have ge:Hid ((w.alloc (.cells #[.string ⟨#[]⟩,.string ⟨#[]⟩] 101)).heap[w.heap.size]?=some (.cells #[.string ⟨#[]⟩,.string ⟨#[]⟩] 101 (0,0))):=heap_alloc_new w _;have HL:=hd_ (L.below gl.o);clear L;have Fw:Hid (∀ W,Below (w.alloc (.cells #[.string ⟨#[]⟩,.string ⟨#[]⟩] 101)).heap.size (w.alloc (.cells #[.string ⟨#[]⟩,.string ⟨#[]⟩] 101)) W->Kc Tryz.prog 13 #[.int .i64 z] W (.string rs)):=fun W hW=>by
  have:=Zaz W z q1 q2 (HL.o.below hW)
  rw[hrs] at this;exact this
 clear hrs hv;go_enter Tryz.func58,Tryz.ntmps58;go_wp2_with fail;generalize w.alloc (.cells #[.string ⟨#[]⟩,.string ⟨#[]⟩] 101)=W0 at *;refine cm_ (Fw.o _ (Below.refl _ _)) ?_;rintro e w1 ⟨rfl,hZ⟩;have H6:=hd_ hZ;clear hZ Fw;have gm:=hd_ (Kg ge.o H6.o);have gK:=bt_ gl H6.o;obtain⟨k0,k1,f0,f1⟩:=Ka gm.o;clear H6 gl gm ge HL;go_wp2;obtain⟨c0,c1,hb3⟩:=Kl (.string rs) (.string ⟨#[49]⟩) k0 k1 nr_ gK.o;generalize (w1.setCell ⟨w.heap.size,0,none⟩ (.string rs)).setCell ⟨w.heap.size,1,none⟩ (.string ⟨#[49]⟩)=w9 at *;exact bodyPost_ret (v := .agg #[.string rs,.string ⟨#[49]⟩]) (by simp[results,Tryz.results58,go_sem,c0,c1]) rfl ⟨by rw[Hv.o],hb3⟩
theorem Zut(w:World)(n:Int)(d:Nat):
  Kc Tryz.prog 161 #[fv n d] w (.bool (decide ((dec n.natAbs).size<=30/\(dec d).size<=30))):=by
 unfold Kc fv;have gl:=hd_ ((Below.refl w.heap.size w).alloc nr_ (.cells #[.string (itx n),.string (dec d)] 101));have ge:Hid ((w.alloc (.cells #[.string (itx n),.string (dec d)] 101)).heap[w.heap.size]?=some (.cells #[.string (itx n),.string (dec d)] 101 (0,0))):=heap_alloc_new w _;have Ar:=hd_ (fun W=>Zfi W n)
 by_cases h1:(dec n.natAbs).size<=30
 ·have E0:((dec n.natAbs).size:Int)<=30:=by omega
  by_cases h2:(dec d).size<=30
  ·have EZ:((dec d).size:Int)<=30:=by omega
   rw[decide_eq_true (show _/\_ from ⟨h1,h2⟩)];clear h1 h2;go_enter Tryz.func161,Tryz.ntmps161;obtain⟨k0,k1,-,-⟩:=Ka ge.o;go_wp2_with fail;generalize w.alloc (.cells #[.string (itx n),.string (dec d)] 101)=W0 at *;clear k0 k1;refine cm_ (Ar.o _) ?_;rintro e w1 ⟨rfl,hZ⟩;have H6:=hd_ hZ;clear hZ Ar;have gK:=bt_ gl H6.o;obtain⟨k0,k1,-,-⟩:=Ka (Kg ge.o H6.o);go_wp2;go_ret;exact⟨rfl,gK.o⟩
  ·have EZ:¬ ((dec d).size:Int)<=30:=by omega
   have pb:=hd_ (decide_eq_false EZ);rw[decide_eq_false (fun h:_/\_=>h2 h.2)];clear h1 h2;go_enter Tryz.func161,Tryz.ntmps161;obtain⟨k0,k1,-,-⟩:=Ka ge.o;go_wp2_with fail;generalize w.alloc (.cells #[.string (itx n),.string (dec d)] 101)=W0 at *;clear k0 k1;refine cm_ (Ar.o _) ?_;rintro e w1 ⟨rfl,hZ⟩;have H6:=hd_ hZ;clear hZ Ar;have gK:=bt_ gl H6.o;obtain⟨k0,k1,-,-⟩:=Ka (Kg ge.o H6.o);go_wp2;go_ret;exact⟨by rw[pb.o];rfl,gK.o⟩
 ·have E0:¬ ((dec n.natAbs).size:Int)<=30:=by omega
  rw[decide_eq_false (fun h:_/\_=>h1 h.1)];clear h1;go_enter Tryz.func161,Tryz.ntmps161;obtain⟨k0,k1,-,-⟩:=Ka ge.o;go_wp2_with fail;generalize w.alloc (.cells #[.string (itx n),.string (dec d)] 101)=W0 at *;clear k0 k1;refine cm_ (Ar.o _) ?_;rintro e w1 ⟨rfl,hZ⟩;have H6:=hd_ hZ;clear hZ Ar;have gK:=bt_ gl H6.o;obtain⟨k0,k1,-,-⟩:=Ka (Kg ge.o H6.o);go_wp2;go_ret;exact⟨rfl,gK.o⟩
def IsP (n:Nat):Prop:=2<=n/\n<=97/\∀ j,j<10->2<=j->j*j<=n->n%j≠0
instance (n:Nat):Decidable (IsP n):=by unfold IsP;infer_instance
theorem Zov(w:World)(n:Nat)(hn:n<=9223372036854775807):
  Kc Tryz.prog 160 #[.int .i64 n] w (.bool (decide (IsP n))):=by
 unfold Kc
 by_cases h2:2<=n
 ·by_cases jM:n<=97
  ·have EZ:¬ (n:Int)<2:=by omega
   have lz:¬ (97:Int)<n:=by omega
   have H2:=hd_ h2;go_enter Tryz.func160,Tryz.ntmps160;go_wp2_with fail
   go_loopw [3] (fun i wr=>∃ k:Nat,2<=k/\k<=10/\i = .int .i64 k/\Hid (∀ j,2<=j->j<k->j*j<=n->n%j≠0)/\Hid (Bw_ w wr)) (fun i _=>10-(intOf i).toNat)
   case atStart=>exact⟨2,by omega,by omega,rfl,fun j h1 h2=>by omega,Below.refl _ _⟩
   case round =>
    obtain⟨k,hk,FV,rfl,Hj,Hb⟩:=hrel;have JM:k*k<=100:=Nat.mul_le_mul FV FV;have fW:IntKind.i64.wrap ((k:Int)*(k:Int))=((k*k:Nat):Int):=by rw[<- Int.natCast_mul];exact iw_ _ (by omega)
    by_cases G9:k*k<=n
    ·have Dn:((k*k:Nat):Int)<=n:=by omega
     have AV:k<10:=by
      rcases Nat.lt_or_ge k 10 with h|h
      ·exact h
      ·have:k=10:=by omega
       subst this;omega
     have m8:((k:Int)==0)=false:=by rw[beq_eq_false_iff_ne];omega
     have F9:Int.tmod (n:Int) (k:Int)=((n%k:Nat):Int):=by rw[<- Int.ofNat_tmod]
     have Ec:=Nat.mod_lt n (show 0<k by omega);have EA:=hd_ G9
     by_cases hz:n%k=0
     ·have Hv:Hid (decide (IsP n)=false):=by
       show _=_
       rw[decide_eq_false_iff_not];exact fun h=>h.2.2 k AV hk G9 hz
      rw[hz] at F9;rw[show ((0:Nat):Int)=0 from rfl] at F9;have cW:IntKind.i64.wrap 0=0:=iw_ _ (by omega);clear hz G9 Ec JM;generalize k*k=q at *;go_wp2;go_ret;exact⟨by rw[Hv.o];rfl,Hb.o⟩
     ·have GP:Hid (∀ j,2<=j->j<k+1->j*j<=n->n%j≠0):=fun j h1 h2 h3=>by
       rcases Nat.lt_or_ge j k with h|h
       ·exact Hj.o j h1 h h3
       ·have:j=k:=by omega
        subst this;exact hz
      have fh:IntKind.i64.wrap ((n%k:Nat):Int)=((n%k:Nat):Int):=iw_ _ (by omega);have gj:(((n%k:Nat):Int)==0)=false:=by rw[beq_eq_false_iff_ne];omega
      clear hz G9 JM;generalize n%k=r at *;generalize k*k=q at *;go_wp2
      go_roundw
      case rel=>exact⟨k+1,by omega,by omega,by go_num,GP,Hb⟩
      case measure=>simp[intOf];omega
    ·have Dn:¬ ((k*k:Nat):Int)<=n:=by omega
     have Hv:Hid (decide (IsP n)=true):=by
      show _=_
      rw[decide_eq_true_eq];refine⟨H2.o,jM,fun j h2 h1 h3=>?_⟩;rcases Nat.lt_or_ge j k with h|h
      ·exact Hj.o j h1 h h3
      ·have:=Nat.mul_le_mul h h;omega
     clear G9 JM;generalize k*k=q at *;go_wp2;go_ret;exact⟨by rw[Hv.o];rfl,Hb.o⟩
  ·have Hv:Hid (decide (IsP n)=false):=by
    show _=_
    rw[decide_eq_false_iff_not];exact fun h=>jM h.2.1
   have lz:(97:Int)<n:=by omega
   have EZ:¬ (n:Int)<2:=by omega
   go_enter Tryz.func160,Tryz.ntmps160;go_wp2;go_ret;exact⟨by rw[Hv.o];rfl,Below.refl _ _⟩
 ·have Hv:Hid (decide (IsP n)=false):=by
   show _=_
   rw[decide_eq_false_iff_not];exact fun h=>h2 h.1
  have EZ:(n:Int)<2:=by omega
  go_enter Tryz.func160,Tryz.ntmps160;go_wp2;go_ret;exact⟨by rw[Hv.o];rfl,Below.refl _ _⟩
def Rd (w:World) (a:OA_) (vs:List Value):Prop :=
 vs=[]\/∃ b off,a=some ⟨b,off,none⟩/\b<w.heap.size/\∀ i v,vs[i]?=some v->w.cell? ⟨b,off+i,none⟩=some v
theorem Rd.below{w w':World}{a:OA_}{vs:List Value}{B:Nat}(h:Rd w a vs)(hb:Below B w w')(hB:w.heap.size<=B):Rd w' a vs:=by
 rcases h with h|⟨b,off,h1,h2,h3⟩
 ·exact .inl h
 ·exact .inr ⟨b,off,h1,Nat.lt_of_lt_of_le h2 hb.size,fun i v hi=>by rw[hb.cell (p:=⟨b,off+i,none⟩) (by show b<B;omega)];exact h3 i v hi⟩
theorem Rd.kept{w w':World}{a:OA_}{vs:List Value}(h:Rd w a vs)(hb:Bw_ w w'):Rd w' a vs:=h.below hb nr_
theorem Rd.open{w:World}{a:OA_}{vs:List Value}(h:Rd w a vs)(h0:0<vs.length):
  ∃ b off,a=some ⟨b,off,none⟩/\b<w.heap.size/\∀ i v,vs[i]?=some v->w.cell? ⟨b,off+i,none⟩=some v:=by
 rcases h with h|h
 ·subst h;simp at h0
 ·exact h
theorem Rd.nil(w:World)(a:OA_):Rd w a [] := .inl rfl
def Zty (n:Int):Prop:=0<=n/\IsP n.toNat
instance (n:Int):Decidable (Zty n):=by unfold Zty;infer_instance
theorem Zfr(w:World)(n:Int)(h0 : -9223372036854775808<=n)(h1:n<=9223372036854775807):
  Kc Tryz.prog 160 #[.int .i64 n] w (.bool (decide (Zty n))):=by
 by_cases hn:0<=n
 ·obtain⟨m,rfl⟩:=Int.eq_ofNat_of_zero_le hn;have:=Zov w m (by omega)
  have e:decide (Zty (m:Int))=decide (IsP m):=by
   rw[decide_eq_decide];unfold Zty;simp
  rw[e];exact this
 ·have e:decide (Zty n)=false:=decide_eq_false (fun h=>hn h.1);rw[e];have EZ:n<2:=by omega
  unfold Kc;go_enter Tryz.func160,Tryz.ntmps160;go_wp2;go_ret;exact⟨rfl,Below.refl _ _⟩
def pgo:Option Int->List Int->Int
 | _,[]=>0
 | prev,n::l=>if ¬ Zty n then 25 else if prev.any (fun m=>decide (n<=m))=true then 6 else pgo (some n) l
def Zql (ps:List Int):Nat->Option Int
 | 0=>none
 | m+1=>ps[m]?
def Qz (ps:List Int):Int:=if ps.length=0 then 13 else if 6<ps.length then 4 else pgo none ps
def Zlo (l:List Int):Prop:=∀ x∈l,-9223372036854775808<=x/\x<=9223372036854775807
theorem Zlo.get{l:List Int}(h:Zlo l)(k:Nat)(hk:k<l.length): -9223372036854775808<=l[k]/\l[k]<=9223372036854775807:=h _ (List.getElem_mem hk)
theorem Zdo(w:World)(a:OA_)(c:Nat)(ps:List Int)(hr:Rd w a (Vk ps))(hi:Zlo ps)(hl:ps.length<=1000000):
  Kc Tryz.prog 76 #[.slice a ps.length c] w (.int .i64 (Qz ps)):=by
 unfold Kc;have Hr:=hd_ hr;have Hi:=hd_ hi;have Hp:=hd_ (fun W (z:Int) q1 q2=>Zfr W z q1 q2);clear hr hi
 by_cases h0:ps.length=0
 ·have hv:Qz ps=13:=by unfold Qz;rw[if_pos h0]
  rw[hv,h0];go_enter Tryz.func76,Tryz.ntmps76;go_wp2;go_ret;exact⟨rfl,Below.refl _ _⟩
 by_cases h6:6<ps.length
 ·have hv:Qz ps=4:=by unfold Qz;rw[if_neg h0,if_pos h6]
  rw[hv];have iy:((ps.length:Int)==0)=false:=by rw[beq_eq_false_iff_ne];omega
  have o9:(6:Int)<ps.length:=by omega
  clear hv;generalize ps.length=n at *;go_enter Tryz.func76,Tryz.ntmps76;go_wp2;go_ret;exact⟨rfl,Below.refl _ _⟩
 have Hv:Hid (Qz ps=pgo none ps):=by
  show _=_
  unfold Qz;rw[if_neg h0,if_neg h6]
 have iy:((ps.length:Int)==0)=false:=by rw[beq_eq_false_iff_ne];omega
 have o9:¬ (6:Int)<ps.length:=by omega
 obtain⟨b,off,rfl,hb,hcells⟩:=Hr.o.open (by rw[Qp];omega);have Gp:Hid (∀ k,k<ps.length->w.cell? ⟨b,off+k,none⟩=some (.int .i64 (ps.getD k 0))):=fun k hk=>by
  rw[List.getD_eq_getElem?_getD,List.getElem?_eq_getElem hk];exact hcells k _ (Ym ps k hk)
 clear hcells Hr;generalize hn:ps.length=n at *;have Hn:=hd_ hn;clear hn;go_enter Tryz.func76,Tryz.ntmps76;go_wp2_with fail
 go_loopw [15] (fun i wr=>∃ k:Nat,k<=n/\i = .int .i64 k/\Hid (pgo none ps=pgo (Zql ps k) (ps.drop k))/\Hid (Bw_ w wr)) (fun i _=>n-(intOf i).toNat)
 case atStart=>exact⟨0,Nat.zero_le _,rfl,rfl,Below.refl _ _⟩
 case round =>
  obtain⟨k,hk,rfl,Hg,Hb⟩:=hrel
  by_cases H7:k<n
  ·have gi:(k:Int)<n:=by omega
   have gU:k<ps.length:=by rw[Hn.o];exact H7
   have cx:wr.cell? ⟨b,off+k,none⟩=some (.int .i64 (ps.getD k 0)):=by
    rw[Hb.o.cell (p:=⟨b,off+k,none⟩) hb];exact Gp.o k H7
   have hd:ps.drop k=ps[k]::ps.drop (k+1):=List.drop_eq_getElem_cons gU;have Hd:=hd_ hd;have Mg:ps.getD k 0=ps[k]:=by rw[List.getD_eq_getElem?_getD,List.getElem?_eq_getElem gU];rfl
   rw[Mg] at cx;clear Mg;have hz:=Hi.o.get k gU;obtain⟨z,e9⟩:∃ z,ps[k]=z:=⟨_,rfl⟩;have iH:=hd_ e9;rw[e9] at cx hz;have F':=Hp.o wr z hz.1 hz.2;clear hd e9
   by_cases hp:Zty z
   ·rw[decide_eq_true hp] at F'
    by_cases Ee:k=0
    ·subst Ee;rw[Nat.add_zero] at cx;have FW:¬ (0:Int)<0:=by omega
     go_wp2_with fail;refine cm_ F' ?_;rintro e w1 ⟨rfl,hZ⟩;have H6:=bt_ Hb hZ;clear hZ F' Hb;go_wp2
     go_roundw
     case rel =>
      refine⟨1,by omega,by go_num,?_,H6⟩
      show _=_
      rw[Hg.o,Hd.o];simp only[pgo,Zql,iH.o];rw[if_neg (fun h=>h hp),if_neg (by simp)];have:ps[0]?=some z:=by rw[List.getElem?_eq_getElem gU,iH.o]
      rw[this]
     case measure=>simp[intOf];omega
    ·obtain⟨m,rfl⟩:∃ m,k=m+1:=⟨k-1,by omega⟩;have FW:(0:Int)<((m+1:Nat):Int):=by omega
     have Ec:m<ps.length:=by omega
     have fh:IntKind.i64.wrap (((m+1:Nat):Int)-1)=(m:Int):=by
      rw[show ((m+1:Nat):Int)-1=(m:Int) by omega];exact iw_ _ (by omega)
     obtain⟨y,hyy⟩:∃ y,ps[m]=y:=⟨_,rfl⟩;have Pv:=hd_ hyy;have OS:Hid (w.cell? ⟨b,off+m,none⟩=some (.int .i64 y)):=by
      show _=_
      rw[Gp.o m (by omega),<- hyy,List.getD_eq_getElem?_getD,List.getElem?_eq_getElem Ec];rfl
     have bM:Hid (pgo none ps=if z<=y then 6 else pgo (some z) (ps.drop (m+1+1))):=by
      show _=_
      rw[Hg.o,Hd.o];have:ps[m]?=some y:=by rw[List.getElem?_eq_getElem Ec,hyy]
      simp only[pgo,Zql,iH.o,this,Option.any_some,decide_eq_true_eq];rw[if_neg (fun h=>h hp)]
     have ET:0<=(m:Int):=by omega
     have jw:(m:Int)<n:=by omega
     clear hyy Hg;go_wp2_with fail;refine cm_ F' ?_;rintro e w1 ⟨rfl,hZ⟩;have H6:=bt_ Hb hZ;clear hZ F' Hb cx;have cy:w1.cell? ⟨b,off+m,none⟩=some (.int .i64 y):=by
      rw[H6.o.cell (p:=⟨b,off+m,none⟩) hb];exact OS.o
     by_cases hzy:z<=y
     ·have fZ:Hid (Qz ps=6):=by
       show _=_
       rw[Hv.o,bM.o,if_pos hzy]
      go_wp2;go_ret;exact⟨by rw[fZ.o];rfl,H6.o⟩
     ·have dK:Hid (pgo none ps=pgo (some z) (ps.drop (m+1+1))):=by
       show _=_
       rw[bM.o,if_neg hzy]
      clear bM;go_wp2
      go_roundw
      case rel =>
       refine⟨m+1+1,by omega,by go_num,?_,H6⟩
       show _=_
       rw[dK.o];have:ps[m+1]?=some z:=by rw[List.getElem?_eq_getElem gU,iH.o]
       simp only[Zql,this]
      case measure=>simp[intOf];omega
   ·rw[decide_eq_false hp] at F';have fZ:Hid (Qz ps=25):=by
     show _=_
     rw[Hv.o,Hg.o,Hd.o];simp only[pgo,iH.o];rw[if_pos hp]
    go_wp2_with fail;refine cm_ F' ?_;rintro e w1 ⟨rfl,hZ⟩;have H6:=bt_ Hb hZ;clear hZ F' Hb;go_wp2;go_ret;exact⟨by rw[fZ.o];rfl,H6.o⟩
  ·have gi:¬ (k:Int)<n:=by omega
   have fZ:Hid (Qz ps=0):=by
    show _=_
    rw[Hv.o,Hg.o,List.drop_of_length_le (by rw[Hn.o];omega)];rfl
   go_wp2;go_ret;exact⟨by rw[fZ.o];rfl,Hb.o⟩
end Go.Proofs.YtbielfplgbammaaGreatDoor

namespace Go.Proofs.YtbielfplgbammaaGreatDoor
open Go.ChangeShapes Go.WideShapes Go.ChangeAt Go.RowKit
theorem Qc2:laidOutB Tryz.prog=true:=by kernel_rfl
theorem own:ownKnob Tryz.prog.godebug=none:=by kernel_rfl
def Zwa {H : Type} : List (String × DataW H) := [("math/bits.deBruijn32tab", Rows.laid_math_bits_deBruijn32tab), ("math/bits.deBruijn64tab", Rows.laid_math_bits_deBruijn64tab), ("internal/strconv.uint64pow10", Rows.laid_internal_strconv_uint64pow10), ("strconv.ErrRange", Rows.laid_strconv_ErrRange), ("strconv.ErrSyntax", Rows.laid_strconv_ErrSyntax)]
theorem gER : Tryz.prog.globalNamed "strconv.ErrRange" = some 1 := by kernel_rfl
theorem gES : Tryz.prog.globalNamed "strconv.ErrSyntax" = some 0 := by kernel_rfl
theorem tER:(Tryz.prog.globals[1]?).map (·.type)=some 174:=by kernel_rfl
theorem tES:(Tryz.prog.globals[0]?).map (·.type)=some 174:=by kernel_rfl
theorem Qhg:(Tryz.prog.globals[2]?).map (·.type)=some 364:=by kernel_rfl
theorem Zrk:Tryz.prog.cellsOf 371=1:=by kernel_rfl
theorem Zrj:Tryz.prog.cellsOf 9=1:=by kernel_rfl
theorem Qal:Tryz.prog.cellsOf 204=1:=by kernel_rfl
theorem Qam:Tryz.prog.cellsOf 364=20:=by kernel_rfl
theorem Qes : "*" ++ "errors.errorString" = "*errors.errorString" := by decide
theorem Qg2 (u : TypeId) (h : Tryz.prog.typeName? 3 u = some "*errors.errorString") : u = 369 :=
 typeName_ptr_named (nm := "errors.errorString") (by rw [Qes]; kernel_rfl) (by kernel_rfl) (by decide) u (by rw [Qes]; exact h)
theorem Zz8(os:Os)(args:Array Value):laidMetH Tryz.prog Zwa ((World.doorLaid Tryz.prog 400 os).forCall (fun _ _=>0) ⟨#[],args,[]⟩).memory :=
 laidMetH_of_parts3 (fuel:=8) (laidMet_of_run' 8 (by kernel_rfl) (by kernel_rfl)) (by kernel_rfl) (by kernel_rfl)
theorem Qc1{W:World}(h:laidMetH Tryz.prog Zwa W):Qe W:=by
 rw[MakeChecks.laidMetH_plain _ _ _ (by kernel_rfl)] at h;have h3:=laidMet.tail (laidMet.tail h);have h4:=laidMet.tail h3;have h5:=laidMet.tail h4;obtain⟨a0,s0,aV,-,-,-⟩:=laid_sentinel h4 gER tER Tryz.underlying174 Qg2 Tryz.underlying369 Tryz.underlying371 rfl rfl Tryz.underlying9 Zrk Zrj;obtain⟨a1,s1,hv1,-,-,-⟩:=laid_sentinel h5 gES tES Tryz.underlying174 Qg2 Tryz.underlying369 Tryz.underlying371 rfl rfl Tryz.underlying9 Zrk Zrj;have k0:W.cell? ⟨1,0,none⟩=some (.iface 369 (.pointer (some a0))):=by
  have h0:=World.var?_cell gER aV 0
  simpa using h0
 have k1:W.cell? ⟨0,0,none⟩=some (.iface 369 (.pointer (some a1))):=by
  have h0:=World.var?_cell gES hv1 0
  simpa using h0
 exact⟨Lib.tabIs_of_head (k := .u64) (zs:=Lib.pow10Tab) Ze2 Qhg Tryz.underlying364 Tryz.underlying204 Qal Qam h3,⟨_,k0,.inr ⟨_,_,rfl⟩⟩,⟨_,k1,.inr ⟨_,_,rfl⟩⟩⟩
end Go.Proofs.YtbielfplgbammaaGreatDoor

namespace Go.Proofs.YtbielfplgbammaaGreatDoor
open Go.RowKit
theorem Zmw(n:Int)(d:Nat)(h:d≠0):(mkRat n d).num=n/((Nat.gcd n.natAbs d:Nat):Int):=by
 rw[<- Rat.normalize_eq_mkRat h,Rat.num_normalize]
theorem Zmx(n:Int)(d:Nat)(h:d≠0):(mkRat n d).den=d/Nat.gcd n.natAbs d:=by
 rw[<- Rat.normalize_eq_mkRat h,Rat.den_normalize]
def Sm (D:Nat) (q:Rat):Prop:=q.num.natAbs<10^D/\q.den<10^D
theorem Sm.mk'{D:Nat}{n:Int}{d:Nat}(h:d≠0)(h1:n.natAbs<10^D)(h2:d<10^D):Sm D (mkRat n d):=by
 refine⟨?_,?_⟩
 ·rw[Zmw n d h];have:(n/((Nat.gcd n.natAbs d:Nat):Int)).natAbs<=n.natAbs:=by
   have h3:((Nat.gcd n.natAbs d:Nat):Int) ∣ n:=Int.gcd_dvd_left n (d:Int);rw[Int.natAbs_ediv_of_dvd h3];exact Nat.div_le_self _ _
  omega
 ·rw[Zmx n d h];exact Nat.lt_of_le_of_lt (Nat.div_le_self _ _) h2
theorem Sm.le{D E:Nat}{q:Rat}(h:Sm D q)(hE:D<=E):Sm E q :=
 ⟨Nat.lt_of_lt_of_le h.1 (Nat.pow_le_pow_right (by decide) hE),Nat.lt_of_lt_of_le h.2 (Nat.pow_le_pow_right (by decide) hE)⟩
theorem Qd{a b D E:Nat}(h1:a<10^D)(h2:b<10^E):a*b<10^(D+E):=by
 rw[Nat.pow_add];exact Nat.mul_lt_mul'' h1 h2
theorem Sm.mul{D E:Nat}{a b:Rat}(ha:Sm D a)(hb:Sm E b):Sm (D+E) (a*b):=by
 rw[Rat.mul_def'];refine Sm.mk' (Nat.mul_ne_zero a.den_nz b.den_nz) ?_ (Qd ha.2 hb.2);rw[Int.natAbs_mul];exact Qd ha.1 hb.1
theorem Qa7{n m:Int}{d e D E:Nat}(h1:n.natAbs<10^D)(h2:m.natAbs<10^E)(h3:d<10^D)(h4:e<10^E):(n*e).natAbs+(m*d).natAbs+1<10^(D+E+1):=by
 have e1:=Qd h1 h4;have e2:=Qd h2 h3;rw[Nat.add_comm E D] at e2;rw[Int.natAbs_mul,Int.natAbs_mul,Int.natAbs_natCast,Int.natAbs_natCast,Nat.pow_succ];have:=Nat.pow_pos (n:=D+E) (show 0<10 by decide)
 omega
theorem Sm.add{D E:Nat}{a b:Rat}(ha:Sm D a)(hb:Sm E b):Sm (D+E+1) (a+b):=by
 rw[Rat.add_def'];have e1:=Qa7 ha.1 hb.1 ha.2 hb.2;have e2:=Qd ha.2 hb.2;have e3:=Int.natAbs_add_le (a.num*b.den) (b.num*a.den);have e4:10^(D+E)<=10^(D+E+1):=Nat.pow_le_pow_right (by decide) (by omega);exact Sm.mk' (Nat.mul_ne_zero a.den_nz b.den_nz) (by omega) (by omega)
theorem Sm.pos{D:Nat}{q:Rat}(h:Sm D q):0<D:=by
 rcases Nat.eq_zero_or_pos D with h0|h0
 ·subst h0;have:=h.2
  have:=q.den_pos
  omega
 ·exact h0
theorem Kq{x D:Nat}(h:x<10^D)(hD:0<D)(h6:D<=1000000):Num x:=by
 unfold Num;rw[Kt];exact Nat.le_trans ((Ku x D hD).2 h) h6
theorem Vu(x D:Nat)(hD:0<D):(dec x).size<=D↔x<10^D:=by
 rw[Kt];exact Ku x D hD
def fr (q:Rat):Value:=fv q.num q.den
theorem Zdb(n:Int)(d:Nat)(h:d≠0):Zlq n d=fr (mkRat n d):=by
 unfold Zlq fr;rw[Zmw n d h,Zmx n d h]
theorem Zxx(w:World)(a b:Rat)(D E:Nat)(ha:Sm D a)(hb:Sm E b)(h6:D+E+2<=1000000)(L:Qe w):
  Kc Tryz.prog 207 #[fr a,fr b] w (fr (a+b)):=by
 have h1:=Qa7 ha.1 hb.1 ha.2 hb.2;have h2:=Qd ha.2 hb.2;have h3:10^(D+E)<10^(D+E+1):=Nat.pow_lt_pow_right (by decide) (by omega);have p1:=ha.pos;have p2:=hb.pos;have q1:10^D<=10^(D+E):=Nat.pow_le_pow_right (by decide) (by omega);have q2:10^E<=10^(D+E):=Nat.pow_le_pow_right (by decide) (by omega);have q3:10^(D+E+1)=10^(D+E)*10:=Nat.pow_succ ..;have:=ha.1
 have:=hb.1
 have h:=Qau w a.num b.num a.den b.den (Kq ha.1 p1 (by omega)) (Kq hb.1 p2 (by omega)) (Kq ha.2 p1 (by omega)) (Kq hb.2 p2 (by omega)) a.den_pos b.den_pos
  (Kq (D:=D+E+1) h1 (by omega) (by omega)) (Kq (D:=D+E+1) (by omega) (by omega) (by omega)) (Kq (D:=D+E+1) (by omega) (by omega) (by omega)) L
 rw[Zdb _ _ (Nat.mul_ne_zero a.den_nz b.den_nz),<- Rat.add_def'] at h;exact h
theorem Qd7(w:World)(a b:Rat)(D E:Nat)(ha:Sm D a)(hb:Sm E b)(h6:D+E+2<=1000000)(L:Qe w):
  Kc Tryz.prog 206 #[fr a,fr b] w (fr (a*b)):=by
 have h1:=Qd ha.1 hb.1;have h2:=Qd ha.2 hb.2;have h3:10^(D+E)<10^(D+E+1):=Nat.pow_lt_pow_right (by decide) (by omega);have p1:=ha.pos;have p2:=hb.pos;rw[<- Int.natAbs_mul] at h1;have h:=Zy9 w a.num b.num a.den b.den (Kq ha.1 p1 (by omega)) (Kq hb.1 p2 (by omega)) (Kq ha.2 p1 (by omega)) (Kq hb.2 p2 (by omega)) a.den_pos b.den_pos
  (Kq (D:=D+E+1) (by omega) (by omega) (by omega)) (Kq (D:=D+E+1) (by omega) (by omega) (by omega)) L
 rw[Zdb _ _ (Nat.mul_ne_zero a.den_nz b.den_nz),<- Rat.mul_def'] at h;exact h
theorem Zr8(w:World)(a:Rat):Kc Tryz.prog 121 #[fr a] w (.int .i64 a.num.sign):=Zma w a.num a.den
theorem Qfu(w:World)(a:Rat)(D:Nat)(ha:Sm D a)(h6:D+1<=1000000)(L:Qe w):Kc Tryz.prog 239 #[fr a] w (.string (itx a.floor)):=by
 have p:=ha.pos;have h3:10^D<10^(D+1):=Nat.pow_lt_pow_right (by decide) (by omega);have:=ha.1
 have h:=Ztc w a.num a.den (Kq ha.1 p (by omega)) (Kq ha.2 p (by omega)) a.den_pos (Kq (D:=D+1) (by omega) (by omega) (by omega)) L;rw[<- Rat.floor_def] at h;exact h
theorem Zhb(w:World)(z:Int)(q1 : -9223372036854775808<=z)(q2:z<=9223372036854775807)(L:Qe w):
  Kc Tryz.prog 58 #[.int .i64 z] w (fr (z:Rat)):=Zq w z q1 q2 L
def Vv (q:Rat):Prop:=q.num.natAbs<10^30/\q.den<10^30
instance (q:Rat):Decidable (Vv q):=by unfold Vv;infer_instance
theorem Zuu(w:World)(a:Rat):Kc Tryz.prog 161 #[fr a] w (.bool (decide (Vv a))):=by
 have h:=Zut w a.num a.den;have e:decide ((dec a.num.natAbs).size<=30/\(dec a.den).size<=30)=decide (Vv a):=by
  rw[decide_eq_decide];unfold Vv;rw[Vu _ _ (by decide),Vu _ _ (by decide)]
 rw[e] at h;exact h
def IsQ (s t:ByteArray):Prop:=∃ q:Rat,s=itx q.num/\t=dec q.den/\Sm 400 q
theorem Zri(w:World)(q:Rat)(hq:Sm 400 q)(L:Qe w):Kc Tryz.prog 139 #[fr q] w (.int .i64 0):=by
 have p:=hq.pos;have h:=Zjo w q.num q.den (Kq hq.1 p (by decide)) (Kq hq.2 p (by decide)) q.den_pos L;rw[if_pos ⟨⟨(Vu _ _ (by decide)).2 hq.1,(Vu _ _ (by decide)).2 hq.2⟩,q.reduced⟩] at h;exact h
def Qm (l:List (ByteArray×ByteArray)):List Value:=l.flatMap fun x=>[.string x.1,.string x.2]
theorem Qt(l:List (ByteArray×ByteArray)):(Qm l).length=l.length*2:=by
 induction l with
 | nil=>rfl
 | cons x l ih=>simp only[Qm,List.flatMap_cons,List.length_append,List.length_cons,List.length_nil] at ih ⊢;omega
theorem Zu(x:ByteArray×ByteArray)(l):Qm (x::l) = .string x.1 :: .string x.2::Qm l:=rfl
theorem Zlc(l m:List (ByteArray×ByteArray)):Qm (l++m)=Qm l++Qm m:=by simp[Qm]
theorem Zbz:∀ (l:List (ByteArray×ByteArray)) (k:Nat) (h:k<l.length),(Qm l)[k*2]?=some (.string l[k].1)/\(Qm l)[k*2+1]?=some (.string l[k].2)
 | [],k,h=>by simp at h
 | x::l,0,h=>by rw[Zu];exact⟨rfl,rfl⟩
 | x::l,k+1,h=>by
  rw[Zu,show (k+1)*2=k*2+1+1 by omega,show k*2+1+1+1=(k*2+1)+1+1 by omega];simp only[List.getElem?_cons_succ,List.getElem_cons_succ];exact Zbz l k (by simpa using h)
theorem Zjq:∀ (l:List (ByteArray×ByteArray)) (k:Nat) (s t:ByteArray),k<l.length->((Qm l).set (k*2) (.string s)).set (k*2+1) (.string t)=Qm (l.set k (s,t))
 | [],k,s,t,h=>by simp at h
 | x::l,0,s,t,h=>by rw[List.set_cons_zero,Zu,Zu];rfl
 | x::l,k+1,s,t,h=>by
  rw[List.set_cons_succ,Zu,Zu,show (k+1)*2=k*2+1+1 by omega,show k*2+1+1+1=(k*2+1)+1+1 by omega];simp only[List.set_cons_succ];rw[Zjq l k s t (by simpa using h)]
def qs (q:Rat):ByteArray×ByteArray:=(itx q.num,dec q.den)
def Kk (l:List Rat):List Value:=Qm (l.map qs)
theorem Ks(l:List Rat):(Kk l).length=l.length*2:=by unfold Kk;rw[Qt,List.length_map]
def Zln (w:World) (B:Nat) (a:OA_) (c:Nat) (l:List (ByteArray×ByteArray)):Prop:=w.ownsRow B 101 2 (.slice a l.length c) l.length (Qm l)
theorem Zln.open{w:World}{B c:Nat}{a:OA_}{l:List (ByteArray×ByteArray)}(h:Zln w B a c l)(hn:0<l.length):
  ∃ g,a=some ⟨g,0,none⟩/\B<=g/\g<w.heap.size/\l.length<=c/\(∀ j (hj:j<l.length),w.cell? ⟨g,j*2,none⟩=some (.string l[j].1)/\w.cell? ⟨g,j*2+1,none⟩=some (.string l[j].2))/\(∀ j,w.frozen? ⟨g,j,none⟩=false):=by
 obtain⟨g,cap,hv,h1,h2,h3,h4,h5⟩:=Qy h hn;simp only[Value.slice.injEq] at hv;obtain⟨rfl,-,rfl⟩:=hv;exact⟨g,rfl,h1,h2,h3,fun j hj=>⟨by rw[h4 (j*2) (by omega),(Zbz l j hj).1],by rw[h4 (j*2+1) (by omega),(Zbz l j hj).2]⟩,h5⟩
theorem Zln.rd{w:World}{B c:Nat}{a:OA_}{l:List (ByteArray×ByteArray)}(h:Zln w B a c l):Rd w a (Qm l):=by
 by_cases hn:0<l.length
 ·obtain⟨g,cap,hv,h1,h2,h3,h4,h5⟩:=Qy h hn;simp only[Value.slice.injEq] at hv;obtain⟨rfl,-,rfl⟩:=hv;refine .inr ⟨g,0,rfl,h2,fun i v hi=>?_⟩;rw[Nat.zero_add,h4 i (by have:=(List.getElem?_eq_some_iff.1 hi).1;rw[Qt] at this;exact this)];exact hi
 ·rw[List.eq_nil_of_length_eq_zero (show l.length=0 by omega)];exact .inl rfl
theorem Zln.below{w w':World}{B c:Nat}{a:OA_}{l:List (ByteArray×ByteArray)}(h:Zln w B a c l){D:Nat}(hb:Below D w w')(hD:w.heap.size<=D):Zln w' B a c l:=Kv h hb hD
theorem Zln.store{w:World}{B c g:Nat}{l:List (ByteArray×ByteArray)}(h:Zln w B (some ⟨g,0,none⟩) c l)(j:Nat)(hj:j<l.length)(s t:ByteArray):
  Zln ((w.setCell ⟨g,j*2,none⟩ (.string s)).setCell ⟨g,j*2+1,none⟩ (.string t)) B (some ⟨g,0,none⟩) c (l.set j (s,t)):=by
 have h1:=(World.ownsRow.stored h (j*2) (.string s)).1;have h2:=(World.ownsRow.stored h1 (j*2+1) (.string t)).1;rw[Zjq l j s t hj] at h2;unfold Zln;rw[List.length_set];exact h2
theorem Qfm:(Tryz.prog.info? 101).map (fun i=>(i.zero,i.size,i.bytes))=some (some (.agg #[.string ⟨#[]⟩,.string ⟨#[]⟩]),2,32):=by kernel_rfl
theorem elQ:Zal Tryz.prog 35 101 (.agg #[.string ⟨#[]⟩,.string ⟨#[]⟩]) 2 32:=⟨Tryz.underlying35,info_parts Qfm,rfl,by decide⟩
def Yi (n:Nat):List (ByteArray×ByteArray):=List.replicate n (⟨#[]⟩,⟨#[]⟩)
theorem Zo4(n j:Nat)(h:j<(Qm (Yi n)).length):(Qm (Yi n))[j] = .string ⟨#[]⟩:=by
 have hm:=List.getElem_mem h;obtain⟨x,EQ,ft⟩:=List.mem_flatMap.1 hm;obtain rfl:=List.eq_of_mem_replicate EQ
 simpa using ft
theorem Zsu(n:Nat):madeCells #[.string ⟨#[]⟩,.string ⟨#[]⟩] (n*2)=(Qm (Yi n)).toArray:=by
 apply Array.ext
 ·rw[size_madeCells,List.size_toArray,Qt];simp[Yi]
 ·intro i h1 h2;rw[List.size_toArray] at h2;have e:(Qm (Yi n)).toArray[i] = .string ⟨#[]⟩:=by rw[List.getElem_toArray];exact Zo4 n i h2
  rw[e];simp only[madeCells,Array.getElem_map,Array.getElem_range];rcases(show i%2=0\/i%2=1 by omega) with h|h<;>simp[h]
theorem Qe1(n:Nat)(w:World)(hn:n<=100000000):
  (Instr.makeSlice 35 (.int .i64 (n:Int)) (.int .i64 (n:Int))).run Tryz.prog w = .ok (.slice (some ⟨w.heap.size,0,none⟩) n n) (w.alloc (.cells (Qm (Yi n)).toArray 101)):=by
 obtain⟨i,hi,hz,hs,hb⟩:=info_parts Qfm;have:=run_make (P:=Tryz.prog) w 35 101 i _ Tryz.underlying35 hi hz .i64 .i64 n n (by omega) (by omega) (by rw[hb];omega) (by omega)
 simp only[Int.toNat_natCast,hs] at this;rw[show (Value.agg #[.string ⟨#[]⟩,.string ⟨#[]⟩]).cells = #[.string ⟨#[]⟩,.string ⟨#[]⟩] from rfl,Zsu] at this;exact this
theorem Zvj(w:World)(l:List (ByteArray×ByteArray))(hl:l.length<=100000000):Zln (w.alloc (.cells (Qm l).toArray 101)) w.heap.size (some ⟨w.heap.size,0,none⟩) l.length l :=
 ⟨Qt l,.inr ⟨w.heap.size,l.length,(Qm l).toArray,rfl,Nat.le_refl _,heap_alloc_new _ _,Nat.le_refl _,by unfold maxLen;omega,by simp[Qt],List.take_of_length_le (by simp[Qt])⟩⟩
def Zbl (n k:Nat):List (ByteArray×ByteArray):=List.replicate k (qs 0)++Yi (n-k)
theorem Zw(n k:Nat)(h:k<=n):(Zbl n k).length=n:=by simp[Zbl,Yi];omega
theorem Znq(n k:Nat)(h:k<n):(Zbl n k).set k (qs 0)=Zbl n (k+1):=by
 unfold Zbl Yi;rw[List.set_append_right _ _ (by simp),List.length_replicate,Nat.sub_self];obtain⟨m,hm⟩:∃ m,n-k=m+1:=⟨n-k-1,by omega⟩;rw[hm,show n-(k+1)=m by omega,List.replicate_succ,List.set_cons_zero];rw[List.replicate_succ',List.append_assoc];rfl
def Zd0 (w:World) (B:Nat) (a:OA_) (c:Nat) (l:List Rat):Prop:=Zln w B a c (l.map qs)
theorem Zd0.rd{w:World}{B c:Nat}{a:OA_}{l:List Rat}(h:Zd0 w B a c l):Rd w a (Kk l):=Zln.rd h
theorem Zd0.below{w w':World}{B c:Nat}{a:OA_}{l:List Rat}(h:Zd0 w B a c l){D:Nat}(hb:Below D w w')(hD:w.heap.size<=D):Zd0 w' B a c l:=Zln.below h hb hD
theorem Zd0.open{w:World}{B c:Nat}{a:OA_}{l:List Rat}(h:Zd0 w B a c l)(hn:0<l.length):
  ∃ g,a=some ⟨g,0,none⟩/\B<=g/\g<w.heap.size/\l.length<=c/\(∀ j (hj:j<l.length),w.cell? ⟨g,j*2,none⟩=some (.string (itx l[j].num))/\w.cell? ⟨g,j*2+1,none⟩=some (.string (dec l[j].den)))/\(∀ j,w.frozen? ⟨g,j,none⟩=false):=by
 obtain⟨g,h1,h2,h3,h4,h5,h6⟩:=Zln.open h (by simpa using hn);refine⟨g,h1,h2,h3,by simpa using h4,fun j hj=>?_,h6⟩;have:=h5 j (by simpa using hj)
 simpa [qs] using this
theorem Zd0.store{w:World}{B c g:Nat}{l:List Rat}(h:Zd0 w B (some ⟨g,0,none⟩) c l)(j:Nat)(hj:j<l.length)(q:Rat):
  Zd0 ((w.setCell ⟨g,j*2,none⟩ (.string (itx q.num))).setCell ⟨g,j*2+1,none⟩ (.string (dec q.den))) B (some ⟨g,0,none⟩) c (l.set j q):=by
 have:=Zln.store h j (by simpa using hj) (itx q.num) (dec q.den)
 unfold Zd0;rw[List.map_set];exact this
def Zf2 (f:FuncId) (args:Array Value) (w:World) (l:List Rat):Prop :=
 Calls Tryz.prog f args w fun e w'=>∃ a c,e = .returned (.slice a l.length c)/\Zd0 w' w.heap.size a c l/\Bw_ w w'
theorem Zxz(w:World)(n:Nat)(hn:n<=1000)(L:Qe w):Zf2 103 #[.int .i64 n] w (List.replicate n 0):=by
 unfold Zf2;have fl:=Qe1 n w (by omega);have HL:=hd_ L;have Ho:=hd_ (Zvj w (Yi n) (by simp[Yi];omega));have gl:=hd_ ((Below.refl w.heap.size w).alloc nr_ (.cells (Qm (Yi n)).toArray 101));have eU:Hid (∀ W,Bw_ w W->Kc Tryz.prog 58 #[.int .i64 0] W (.agg #[.string (itx 0),.string (dec 1)])):=fun W hW=>Zq W 0 (by decide) (by decide) (HL.o.below hW)
 have NK:IntKind.i64.wrap (n:Int)=n:=iw_ _ (by omega);clear L;go_enter Tryz.func103,Tryz.ntmps103;go_wp2_with fail
 go_loopw [9] (fun i wr=>∃ k:Nat,k<=n/\i = .int .i64 k/\Hid (Zln wr w.heap.size (some ⟨w.heap.size,0,none⟩) n (Zbl n k))/\Hid (Bw_ w wr)) (fun i _=>n-(intOf i).toNat)
 case atStart =>
  refine⟨0,Nat.zero_le _,rfl,?_,gl⟩;have:=Ho.o
  rw[show (Yi n).length=n by simp[Yi]] at this
  show Zln _ _ _ _ _
  rw[show Zbl n 0=Yi n by simp[Zbl]];exact this
 case round =>
  obtain⟨k,hk,rfl,gw,Hb⟩:=hrel
  by_cases H7:k<n
  ·have gi:(k:Int)<n:=by omega
   have AS:=eU.o wr Hb.o;go_wp2_with fail;refine cm_ AS ?_;rintro e w1 ⟨rfl,hZ⟩;have GA:=gw.o.below hZ nr_;have hb:=Hb.o.trans (hZ.mono Hb.o.size);obtain⟨g,hg,hB,fm,-,hcells,Cf⟩:=GA.open (by rw[Zw n k hk];omega);simp only[Option.some.injEq,Addr.mk.injEq,and_true] at hg;subst hg;have c0:=(hcells k (by rw[Zw n k hk];exact H7)).1;have c1:=(hcells k (by rw[Zw n k hk];exact H7)).2;have f0:=Cf (k*2);have f1:=Cf (k*2+1);have eS:=hd_ GA;have H6:=hd_ hb;clear GA hb hcells hZ AS gw Hb Cf;go_wp2
   go_roundw
   case rel =>
    refine⟨k+1,by omega,by go_num,?_,?_⟩
    ·have:=eS.o.store k (by rw[Zw n k hk];exact H7) (itx 0) (dec 1)
     rw[show ((itx 0,dec 1):ByteArray×ByteArray)=qs 0 from rfl,Znq n k H7] at this;exact this
    ·exact(H6.o.setCell (p:=⟨w.heap.size,k*2,none⟩) nr_ _).setCell (p:=⟨w.heap.size,k*2+1,none⟩) nr_ _
   case measure=>simp[intOf];omega
  ·have gi:¬ (k:Int)<n:=by omega
   have Cc:k=n:=by omega
   subst Cc;go_wp2;go_ret;refine⟨some ⟨w.heap.size,0,none⟩,k,by first | rfl | (rw[show (List.replicate k (0:Rat)).length=k from List.length_replicate];rfl),?_,Hb.o⟩;have:=gw.o
   unfold Zd0;rw[List.map_replicate];have e:Zbl k k=List.replicate k (qs 0):=by simp[Zbl,Yi]
   rw[e] at this;exact this
def Zcz (s:ByteArray):Bool:=decide (0<s.size/\(lb s).getD 0 0=45)
def Ze3 (s:ByteArray):ByteArray:=if Zcz s then s.extract 1 s.size else s
theorem Zvw(s:ByteArray):(Ze3 s).size<=s.size:=by
 unfold Ze3;split
 ·rw[ByteArray.size_extract];omega
 ·omega
theorem Zr2(w:World)(s:ByteArray)(hs:s.size<=10000000):
  Kc Tryz.prog 50 #[.string s] w (.tuple #[.bool (Zcz s),.string (Ze3 s)]):=by
 unfold Kc
 by_cases h0:0<s.size
 ·have eB:∀ W,(Instr.index 38 (.string s) (.int .i64 0)).run Tryz.prog W = .ok (.int .u8 ((lb s).getD 0 0).toNat) W:=fun W=>Qbo W s h0
  have Gs:(0:Int)<s.size:=by omega
  have fw:(1:Int)<=s.size:=by omega
  by_cases hc:(lb s).getD 0 0=45
  ·have Hv:Hid (Zcz s=true):=by show _=_;unfold Zcz;rw[decide_eq_true_eq];exact⟨h0,hc⟩
   have Hm:Hid (Ze3 s=s.extract 1 s.size):=by show _=_;unfold Ze3;rw[if_pos Hv.o]
   rw[hc] at eB;rw[show (((45:UInt8).toNat:Nat):Int)=45 from rfl] at eB;rw[Hv.o,Hm.o];clear Hv Hm hc;go_enter Tryz.func50,Tryz.ntmps50;go_wp2_with fail
   go_quiet (fail)
   go_wp2
   go_ret2
   exact⟨by first | rfl | simp,by first | exact Below.refl _ _ | exact Qa _ _⟩
  ·have Hv:Hid (Zcz s=false):=by show _=_;unfold Zcz;rw[decide_eq_false_iff_not];exact fun h=>hc h.2
   have Hm:Hid (Ze3 s=s):=by show _=_;unfold Ze3;rw[if_neg (by rw[Hv.o];decide)]
   rw[Hv.o,Hm.o];have Ft:((((lb s).getD 0 0).toNat:Int)==45)=false:=by
    rw[beq_eq_false_iff_ne];intro h;apply hc;apply UInt8.toNat_inj.1;have:(45:UInt8).toNat=45:=rfl
    omega
   clear Hv Hm hc;generalize (((lb s).getD 0 0).toNat:Int)=c at *;go_enter Tryz.func50,Tryz.ntmps50;go_wp2
   go_ret2
   exact⟨rfl,Below.refl _ _⟩
 ·have Hv:Hid (Zcz s=false):=by show _=_;unfold Zcz;rw[decide_eq_false_iff_not];exact fun h=>h0 h.1
  have Hm:Hid (Ze3 s=s):=by show _=_;unfold Ze3;rw[if_neg (by rw[Hv.o];decide)]
  rw[Hv.o,Hm.o];have Gs:¬ (0:Int)<s.size:=by omega
  clear Hv Hm;go_enter Tryz.func50,Tryz.ntmps50;go_wp2
  go_ret2
  exact⟨rfl,Below.refl _ _⟩
def IsZ (s:ByteArray):Prop:=∃ z:Int,s=itx z/\(dec z.natAbs).size<=400
theorem Zei(z:Int):Zcz (itx z)=decide (z<0):=by
 unfold Zcz;rw[decide_eq_decide];rcases Int.eq_nat_or_neg z with⟨n,rfl|rfl⟩
 ·rw[Kh];have:=Zc0 n
  constructor
  ·intro h;rw[h.2] at this;exact absurd this (by decide)
  ·omega
 ·rcases Nat.eq_zero_or_pos n with h | h
  ·subst h;have hd:=Zc0 0
   show 0<(itx ((0:Nat):Int)).size/\(lb (itx ((0:Nat):Int))).getD 0 0=45↔_
   rw[Kh];constructor
   ·intro h;rw[h.2] at hd;exact absurd hd (by decide)
   ·intro h;exact absurd h (by decide)
  ·rw[Yw n h,Ve n h];constructor
   ·intro _;omega
   ·intro _;exact⟨by omega,rfl⟩
theorem Zkr(z:Int):Ze3 (itx z)=dec z.natAbs:=by
 unfold Ze3;rw[Zei]
 by_cases h:z<0
 ·rw[if_pos (decide_eq_true h)];obtain⟨n,rfl⟩:∃ n:Nat,z = -(n:Int):=⟨z.natAbs,by omega⟩;rw[Zky n (by omega)];congr 1;omega
 ·rw[if_neg (by rw[decide_eq_false h];decide)];obtain⟨n,rfl⟩:∃ n:Nat,z=(n:Int):=⟨z.natAbs,by omega⟩;rw[Kh];rfl
theorem Zni{s:ByteArray}(h:Zcq (lb s)):∃ n,s=dec n:=by
 refine⟨Vg (lb s),?_⟩;have:=congrArg bs (Zxd h)
 rw[bs_lb] at this;exact this
theorem Zol{s:ByteArray}(h:Zcz s=true):lb s=45::lb (s.extract 1 s.size):=by
 unfold Zcz at h;rw[decide_eq_true_eq] at h;obtain⟨h0,h1⟩:=h;have hl:lb (s.extract 1 s.size)=(lb s).drop 1:=by
  unfold lb;rw[ByteArray.data_extract,Array.toList_extract]
  show (s.data.toList.drop 1).take (s.size-1)=s.data.toList.drop 1
  refine List.take_of_length_le ?_;rw[List.length_drop,Array.length_toList];exact Nat.le_refl _
 rw[hl];rw[<- Zcy] at h0;generalize lb s=u at *;cases u with
 | nil=>exact absurd h0 (by decide)
 | cons c l =>
  rw[show (c::l).getD 0 0=c from rfl] at h1;rw[h1];rfl
theorem Qc8(s:ByteArray):IsZ s↔¬ (Zcz s=true/\Ze3 s=⟨#[48]⟩)/\Zcq (lb (Ze3 s))/\(Ze3 s).size<=400:=by
 constructor
 ·rintro⟨z,rfl,hz⟩;rw[Zkr,Zei];refine⟨?_,Znh _,hz⟩;rintro⟨h1,h2⟩;rw[decide_eq_true_eq] at h1;have h3:((dec z.natAbs).toList==[48])=true:=by rw[h2,Vq];rfl
  rw[Yh,decide_eq_true_eq] at h3;omega
 ·rintro⟨h1,h2,h3⟩;obtain⟨n,hn⟩:=Zni h2
  by_cases Gh:Zcz s=true
  ·have ES:1<=n:=by
    rcases Nat.eq_zero_or_pos n with h|h
    ·subst h;exact absurd ⟨Gh,hn.trans Zel⟩ h1
    ·exact h
   refine⟨-(n:Int),?_,?_⟩
   ·have e:=Zol Gh;have hm:s.extract 1 s.size=dec n:=by rw[<- hn];unfold Ze3;rw[if_pos Gh]
    rw[hm] at e;have:=congrArg bs e
    rw[bs_lb,Yg] at this;rw[this,Zho n ES]
   ·have e:(-(n:Int)).natAbs=n:=by omega
    rw[e,<- hn];exact h3
  ·have hm:Ze3 s=s:=by unfold Ze3;rw[if_neg Gh]
   rw[hm] at hn h3;refine⟨(n:Int),by rw[Kh];exact hn,?_⟩;rw[show ((n:Nat):Int).natAbs=n from rfl,<- hn];exact h3
theorem Zhz(w:World)(s:ByteArray)(h:IsZ s):Kc Tryz.prog 218 #[.string s] w (.int .i64 0):=by
 obtain⟨z,rfl,hz⟩:=h;have:=Zfe w z (Nat.le_trans hz (by decide))
 rw[if_pos hz] at this;exact this
theorem Zjp(w:World)(s:ByteArray)(hs:s.size<=10000000)(h:¬ IsZ s):Kc Tryz.prog 218 #[.string s] w (.int .i64 2):=by
 unfold Kc;have Hs:=hd_ (Zr2 w s hs);have Hc:=hd_ (fun W=>Znf W (Ze3 s) (Nat.le_trans (Zvw s) hs));rw[Qc8] at h
 by_cases hz:Zcz s=true/\Ze3 s=⟨#[48]⟩
 ·have e9:((Ze3 s).toList==[48])=true:=by rw[hz.2,Vq];rfl
  rw[hz.1] at Hs;clear Hc hz h;generalize Ze3 s=t at *;go_enter Tryz.func218,Tryz.ntmps218;go_wp2_with fail;refine cm_ Hs.o ?_;rintro e w1 ⟨rfl,hZ⟩;have H6:=hd_ hZ;clear hZ Hs;go_wp2;go_ret;exact⟨rfl,H6.o⟩
 ·have bd:¬ (Zcq (lb (Ze3 s))/\(Ze3 s).size<=400):=fun h'=>h ⟨hz,h'⟩
  rw[if_neg bd] at Hc;clear h bd
  by_cases Gh:Zcz s=true
  ·have e9:((Ze3 s).toList==[48])=false:=by
    rw[Bool.eq_false_iff];intro h';apply hz;refine⟨Gh,?_⟩;have h2:=eq_of_beq h';rw[Vq] at h2;have:=congrArg bs h2
    rw[bs_lb] at this;exact this
   rw[Gh] at Hs;clear hz Gh;generalize Ze3 s=t at *;go_enter Tryz.func218,Tryz.ntmps218;go_wp2_with fail;refine cm_ Hs.o ?_;rintro e w1 ⟨rfl,hZ⟩;have H6:=hd_ hZ;clear hZ Hs;go_wp2_with fail;refine cm_ (Hc.o w1) ?_;rintro e w2 ⟨rfl,HU⟩;have H9:=bt_ H6 HU;clear HU H6 Hc;go_wp2;go_ret;exact⟨rfl,H9.o⟩
  ·rw[Bool.not_eq_true] at Gh;rw[Gh] at Hs;clear hz Gh;generalize Ze3 s=t at *;go_enter Tryz.func218,Tryz.ntmps218;go_wp2_with fail;refine cm_ Hs.o ?_;rintro e w1 ⟨rfl,hZ⟩;have H6:=hd_ hZ;clear hZ Hs;go_wp2_with fail;refine cm_ (Hc.o w1) ?_;rintro e w2 ⟨rfl,HU⟩;have H9:=bt_ H6 HU;clear HU H6 Hc;go_wp2;go_ret;exact⟨rfl,H9.o⟩
theorem Qgf{q:Rat}{D:Nat}(hD:0<D)(h1:(dec q.num.natAbs).size<=D)(h2:(dec q.den).size<=D):Sm D q:=⟨(Vu _ _ hD).1 h1,(Vu _ _ hD).1 h2⟩
theorem Qfi{n:Int}{d:Nat}(h0:0<d)(hg:Nat.gcd n.natAbs d=1)(h1:(dec n.natAbs).size<=400)(h2:(dec d).size<=400):IsQ (itx n) (dec d) :=
 ⟨⟨n,d,by omega,hg⟩,rfl,rfl,Qgf (by decide) h1 h2⟩
theorem Zh0(w:World)(s t:ByteArray)(hs:s.size<=10000000)(ht:t.size<=10000000)(h:¬ IsQ s t)(L:Qe w):
  Kc Tryz.prog 139 #[.agg #[.string s,.string t]] w (.int .i64 2):=by
 have gl:=hd_ ((Below.refl w.heap.size w).alloc nr_ (.cells #[.string s,.string t] 101));have ge:Hid ((w.alloc (.cells #[.string s,.string t] 101)).heap[w.heap.size]?=some (.cells #[.string s,.string t] 101 (0,0))):=heap_alloc_new w _
 by_cases h1:IsZ s
 ·have gF:=hd_ (fun W=>Zhz W s h1)
  by_cases h2:IsZ t
  ·have gP:=hd_ (fun W=>Zhz W t h2);obtain⟨n,rfl,hn⟩:=h1;obtain⟨z,rfl,hz⟩:=h2
   by_cases hz0:0<z
   ·obtain⟨d,rfl⟩:∃ d:Nat,z=(d:Int):=⟨z.toNat,by omega⟩;rw[show ((d:Nat):Int).natAbs=d from rfl] at hz;rw[Kh] at h ⊢;have:=Zjo w n d (Nat.le_trans hn (by decide)) (Nat.le_trans hz (by decide)) (by omega) L
    rw[if_neg (fun hh=>h (Qfi (by omega) hh.2 hn hz))] at this;exact this
   ·have Gf:=hd_ (fun W=>Zx W z);have Ge:z.sign<=0:=by
     rcases Int.lt_or_eq_of_le (show z<=0 by omega) with h|h
     ·rw[Int.sign_eq_neg_one_of_neg h];decide
     ·rw[h];decide
    unfold Kc;clear h hn hz hz0 L;generalize z.sign=g at *;generalize itx n=s at *;generalize itx z=t at *;go_enter Tryz.func139,Tryz.ntmps139;obtain⟨k0,k1,-,-⟩:=Ka ge.o;go_wp2_with fail;generalize w.alloc (.cells #[.string s,.string t] 101)=W0 at *;clear k0 k1;refine cm_ (gF.o _) ?_;rintro e w1 ⟨rfl,hZ⟩;have H6:=hd_ hZ;clear hZ gF ;obtain⟨k0,k1,-,-⟩:=Ka (Kg ge.o H6.o);go_wp2_with fail
    skip
    clear k0 k1;refine cm_ (gP.o _) ?_;rintro e w2 ⟨rfl,HU⟩;have H9:=bt_ H6 HU;clear HU gP H6;obtain⟨k0,k1,-,-⟩:=Ka (Kg ge.o H9.o);go_wp2_with fail
    skip
    clear k0 k1;refine cm_ (Gf.o _) ?_;rintro e w3 ⟨rfl,hb3⟩;have gh:=bt_ H9 hb3;clear hb3 Gf H9;have gK:=bt_ gl gh.o;obtain⟨k0,k1,-,-⟩:=Ka (Kg ge.o gh.o);go_wp2;go_ret;exact⟨rfl,gK.o⟩
  ·have gP:=hd_ (fun W=>Zjp W t ht h2);unfold Kc;clear h h1 h2 L;go_enter Tryz.func139,Tryz.ntmps139;obtain⟨k0,k1,-,-⟩:=Ka ge.o;go_wp2_with fail;generalize w.alloc (.cells #[.string s,.string t] 101)=W0 at *;clear k0 k1;refine cm_ (gF.o _) ?_;rintro e w1 ⟨rfl,hZ⟩;have H6:=hd_ hZ;clear hZ gF ;obtain⟨k0,k1,-,-⟩:=Ka (Kg ge.o H6.o);go_wp2_with fail
   skip
   clear k0 k1;refine cm_ (gP.o _) ?_;rintro e w2 ⟨rfl,HU⟩;have H9:=bt_ H6 HU;clear HU gP H6;have gK:=bt_ gl H9.o;obtain⟨k0,k1,-,-⟩:=Ka (Kg ge.o H9.o);go_wp2;go_ret;exact⟨rfl,gK.o⟩
 ·have gF:=hd_ (fun W=>Zjp W s hs h1);unfold Kc;clear h h1 L;go_enter Tryz.func139,Tryz.ntmps139;obtain⟨k0,k1,-,-⟩:=Ka ge.o;go_wp2_with fail;generalize w.alloc (.cells #[.string s,.string t] 101)=W0 at *;clear k0 k1;refine cm_ (gF.o _) ?_;rintro e w1 ⟨rfl,hZ⟩;have H6:=hd_ hZ;clear hZ gF ;have gK:=bt_ gl H6.o;obtain⟨k0,k1,-,-⟩:=Ka (Kg ge.o H6.o);go_wp2;go_ret;exact⟨rfl,gK.o⟩
end Go.Proofs.YtbielfplgbammaaGreatDoor

namespace Go.Proofs.YtbielfplgbammaaGreatDoor
open Go.RowKit
open Classical in
noncomputable def sgo:List (ByteArray×ByteArray)->Int
 | []=>0
 | x::l=>if ∃ q:Rat,x=qs q/\Sm 400 q then if ∃ q:Rat,x=qs q/\Vv q then sgo l else 4 else 2
noncomputable def Zcp (n:Nat) (l:List (ByteArray×ByteArray)):Int:=if l.length=n then sgo l else 5
theorem Qf{w:World}{b off:Nat}{l:List (ByteArray×ByteArray)}(h:∀ i v,(Qm l)[i]?=some v->w.cell? ⟨b,off+i,none⟩=some v)(k:Nat)(hk:k<l.length):
  w.cell? ⟨b,off+k*2,none⟩=some (.string (l.getD k default).1)/\w.cell? ⟨b,off+k*2+1,none⟩=some (.string (l.getD k default).2):=by
 have e:l.getD k default=l[k]:=by rw[List.getD_eq_getElem?_getD,List.getElem?_eq_getElem hk];rfl
 rw[e];exact⟨h _ _ (Zbz l k hk).1,by rw[Nat.add_assoc];exact h _ _ (Zbz l k hk).2⟩
theorem Zk9{a b:Nat}(h:dec a=dec b):a=b:=Zpf (Qfz h)
theorem Zou{a b:Int}(h:itx a=itx b):a=b:=by
 have h1:=congrArg Zcz h;rw[Zei,Zei,decide_eq_decide] at h1;have h2:=congrArg Ze3 h;rw[Zkr,Zkr] at h2;have h3:=Zk9 h2;omega
theorem Qey{p q:Rat}(h:qs p=qs q):p=q:=by
 simp only[qs,Prod.mk.injEq] at h;exact Rat.ext (Zou h.1) (Zk9 h.2)
open Classical in
theorem Zi1(w:World)(a1 a2:OA_)(c1 c2 n:Nat)(l:List (ByteArray×ByteArray))(hr:Rd w a2 (Qm l))(hl:l.length<=1000000)(hn:n<=1000000)(hs:∀ x∈l,x.1.size<=1000000/\x.2.size<=1000000)(L:Qe w):
  Kc Tryz.prog 77 #[.slice a1 n c1,.slice a2 l.length c2] w (.int .i64 (Zcp n l)):=by
 unfold Kc;have HL:=hd_ L;have Hs:=hd_ hs;clear L hs
 by_cases EU:l.length=n
 ·have Hv:Hid (Zcp n l=sgo l):=by show _=_;unfold Zcp;rw[if_pos EU]
  by_cases h0:0<l.length
  ·obtain⟨b,off,rfl,hb,hcells⟩:=hr.open (by rw[Qt];omega);have Gp:=hd_ hcells;clear hcells hr;rw[EU];have Hn:=hd_ EU;clear EU hl h0;go_enter Tryz.func77,Tryz.ntmps77;go_wp2_with fail
   go_loopw [14] (fun i wr=>∃ k:Nat,k<=n/\i = .int .i64 k/\Hid (sgo l=sgo (l.drop k))/\Hid (Bw_ w wr)) (fun i _=>n-(intOf i).toNat)
   case atStart=>exact⟨0,Nat.zero_le _,rfl,rfl,Below.refl _ _⟩
   case round =>
    obtain⟨k,hk,rfl,Hg,Hb⟩:=hrel
    by_cases H7:k<n
    ·have gi:(k:Int)<n:=by omega
     have gU:k<l.length:=by rw[Hn.o];exact H7
     obtain⟨c0,c1⟩:=Qf Gp.o k gU;rw[<- Hb.o.cell (p:=⟨b,off+k*2,none⟩) hb] at c0;rw[<- Hb.o.cell (p:=⟨b,off+k*2+1,none⟩) hb] at c1;obtain⟨x,hx⟩:∃ x,l.getD k default=x:=⟨_,rfl⟩;have A8:l[k]=x:=by rw[<- hx,List.getD_eq_getElem?_getD,List.getElem?_eq_getElem gU];rfl
     have Hd:Hid (l.drop k=x::l.drop (k+1)):=by show _=_;rw[<- A8];exact List.drop_eq_getElem_cons gU
     have fy:=hd_ (Hs.o x (by rw[<- A8];exact List.getElem_mem gU));rw[hx] at c0 c1;clear hx A8 gU;obtain⟨s,t⟩:=x;simp only at c0 c1;have gl:=hd_ (Hb.o.alloc Hb.o.size (.cells #[.string s,.string t] 101));have ge:Hid ((wr.alloc (.cells #[.string s,.string t] 101)).heap[wr.heap.size]?=some (.cells #[.string s,.string t] 101 (0,0))):=heap_alloc_new wr _
     by_cases hq:∃ q:Rat,(s,t)=qs q/\Sm 400 q
     ·have gC:Kc Tryz.prog 139 #[.agg #[.string s,.string t]] (wr.alloc (.cells #[.string s,.string t] 101)) (.int .i64 0):=by
       obtain⟨q,hqs,Fr⟩:=hq;simp only[qs,Prod.mk.injEq] at hqs;have Mx:=HL.o.below gl.o;rw[hqs.1,hqs.2] at Mx ⊢;exact Zri _ q Fr Mx
      have lL:Hid (∀ W,Kc Tryz.prog 161 #[.agg #[.string s,.string t]] W (.bool (decide (∃ q:Rat,(s,t)=qs q/\Vv q)))):=fun W=>by
       obtain⟨q,hqs,Fr⟩:=hq;have e:decide (∃ p:Rat,(s,t)=qs p/\Vv p)=decide (Vv q):=by
        rw[decide_eq_decide];constructor
        ·rintro⟨p,h1,h2⟩;rw[hqs] at h1;rw[Qey h1];exact h2
        ·exact fun h=>⟨q,hqs,h⟩
       rw[e];simp only[qs,Prod.mk.injEq] at hqs;rw[hqs.1,hqs.2];exact Zuu W q
      have bM:Hid (sgo l=if ∃ q:Rat,(s,t)=qs q/\Vv q then sgo (l.drop (k+1)) else 4):=by
       show _=_
       rw[Hg.o,Hd.o]
       show (if _ then _ else _)=_
       rw[if_pos hq]
      clear hq Hg Hd;go_wp2_with fail;generalize wr.alloc (.cells #[.string s,.string t] 101)=W0 at *;clear c0 c1;refine cm_ gC ?_;rintro e w1 ⟨rfl,hZ⟩;have H6:=hd_ hZ;clear hZ gC;obtain⟨k0,k1,-,-⟩:=Ka (Kg ge.o H6.o);have Cq:=lL.o w1
      by_cases hshort:∃ q:Rat,(s,t)=qs q/\Vv q
      ·rw[decide_eq_true hshort] at Cq;have dK:Hid (sgo l=sgo (l.drop (k+1))):=by show _=_;rw[bM.o,if_pos hshort]
       clear hshort bM lL;go_wp2_with fail;clear k0 k1;refine cm_ Cq ?_;rintro e w2 ⟨rfl,HU⟩;have H9:=hd_ (gl.o.trans ((bu_ H6 HU).mono gl.o.size));clear HU Cq H6;go_wp2
       go_roundw
       case rel=>exact⟨k+1,by omega,by go_num,dK,H9⟩
       case measure=>simp[intOf];omega
      ·rw[decide_eq_false hshort] at Cq;have dK:Hid (sgo l=4):=by show _=_;rw[bM.o,if_neg hshort]
       clear hshort bM lL;go_wp2_with fail;clear k0 k1;refine cm_ Cq ?_;rintro e w2 ⟨rfl,HU⟩;have H9:=hd_ (gl.o.trans ((bu_ H6 HU).mono gl.o.size));clear HU Cq H6;go_wp2;go_ret;exact⟨by rw[Hv.o,dK.o];rfl,H9.o⟩
     ·have gC:Kc Tryz.prog 139 #[.agg #[.string s,.string t]] (wr.alloc (.cells #[.string s,.string t] 101)) (.int .i64 2) :=
       Zh0 _ s t (Nat.le_trans fy.o.1 (by decide)) (Nat.le_trans fy.o.2 (by decide)) (fun ⟨q,h1,h2,h3⟩=>hq ⟨q,by rw[h1,h2];rfl,h3⟩) (HL.o.below (gl.o))
      have dK:Hid (sgo l=2):=by
       show _=_
       rw[Hg.o,Hd.o]
       show (if _ then _ else _)=_
       rw[if_neg hq]
      clear hq Hg Hd;go_wp2_with fail;generalize wr.alloc (.cells #[.string s,.string t] 101)=W0 at *;clear c0 c1;refine cm_ gC ?_;rintro e w1 ⟨rfl,hZ⟩;have H9:=bt_ gl hZ;clear hZ gC;go_wp2;go_ret;exact⟨by rw[Hv.o,dK.o];rfl,H9.o⟩
    ·have gi:¬ (k:Int)<n:=by omega
     have fZ:Hid (sgo l=0):=by
      show _=_
      rw[Hg.o,List.drop_of_length_le (by rw[Hn.o];omega)];rfl
     go_wp2;go_ret;exact⟨by rw[Hv.o,fZ.o];rfl,Hb.o⟩
  ·have GD:l=[]:=List.eq_nil_of_length_eq_zero (by omega);subst GD;have ES:n=0:=by rw[<- EU];rfl
   subst ES;have lH:Hid (sgo []=0):=rfl;rw[show ([]:List (ByteArray×ByteArray)).length=0 from rfl];have hz:((0:Nat):Int)=0:=rfl;go_enter Tryz.func77,Tryz.ntmps77;go_wp2_with fail
   go_loopw [14] (fun i wr=>i = .int .i64 0/\Hid (Bw_ w wr)) (fun i _=>0)
   case atStart=>exact⟨rfl,Below.refl _ _⟩
   case round =>
    obtain⟨rfl,Hb⟩:=hrel;go_wp2;go_ret;exact⟨by rw[Hv.o,lH.o];rfl,Hb.o⟩
 ·have Hv:Hid (Zcp n l=5):=by show _=_;unfold Zcp;rw[if_neg EU]
  have gj:((l.length:Int)==(n:Int))=false:=by rw[beq_eq_false_iff_ne];omega
  clear hr;generalize l.length=m at *;go_enter Tryz.func77,Tryz.ntmps77;go_wp2;go_ret;exact⟨by rw[Hv.o];rfl,Below.refl _ _⟩
end Go.Proofs.YtbielfplgbammaaGreatDoor

namespace Go.Proofs.YtbielfplgbammaaGreatDoor
open Go.RowKit
abbrev Zeq:=List (ByteArray×ByteArray)
def RdL (w:World) (a:OA_) (ls:List Zeq):Prop :=
 ls=[]\/∃ b off,a=some ⟨b,off,none⟩/\b<w.heap.size/\∀ i,i<ls.length->∃ a' c',w.cell? ⟨b,off+i,none⟩=some (.slice a' (ls.getD i []).length c')/\Rd w a' (Qm (ls.getD i []))
theorem RdL.below{w w':World}{a:OA_}{ls:List Zeq}{B:Nat}(h:RdL w a ls)(hb:Below B w w')(hB:w.heap.size<=B):RdL w' a ls:=by
 rcases h with h|⟨b,off,h1,h2,h3⟩
 ·exact .inl h
 ·refine .inr ⟨b,off,h1,Nat.lt_of_lt_of_le h2 hb.size,fun i hi=>?_⟩;obtain⟨a',c',h4,h5⟩:=h3 i hi;exact⟨a',c',by rw[hb.cell (p:=⟨b,off+i,none⟩) (by show b<B;omega)];exact h4,h5.below hb hB⟩
def Ssz (l:Zeq):Prop:=∀ x∈l,x.1.size<=1000000/\x.2.size<=1000000
noncomputable def Zpm (ps:List Int) (l:Zeq):Int:=if Qz ps=0 then Zcp ps.length l else Qz ps
noncomputable def lgo (n:Nat):List Zeq->Int
 | []=>0
 | l::ls=>if Zcp n l=0 then lgo n ls else Zcp n l
noncomputable def Zik (ps:List Int) (ls:List Zeq):Int:=if Qz ps=0 then lgo ps.length ls else Qz ps
theorem Zd9(w:World)(a1 a2:OA_)(c1 c2:Nat)(ps:List Int)(l:Zeq)(hp:Rd w a1 (Vk ps))(hi:Zlo ps)(fE:ps.length<=1000000)
  (hr:Rd w a2 (Qm l)) (hl:l.length<=1000000) (hs:Ssz l) (L:Qe w) :
  Kc Tryz.prog 78 #[.slice a1 ps.length c1,.slice a2 l.length c2] w (.int .i64 (Zpm ps l)):=by
 unfold Kc;have H1:=hd_ (Zdo w a1 c1 ps hp hi fE);have H2:Hid (∀ W,Bw_ w W->Kc Tryz.prog 77 #[.slice a1 ps.length c1,.slice a2 l.length c2] W (.int .i64 (Zcp ps.length l))):=fun W hW =>
  Zi1 W a1 a2 c1 c2 ps.length l (hr.below hW nr_) hl fE hs (L.below hW)
 have Hv:Hid (Zpm ps l=if Qz ps=0 then Zcp ps.length l else Qz ps):=rfl;clear hp hi fE hr hl hs L;generalize Zpm ps l=v at *;generalize Qz ps=p at *;generalize Zcp ps.length l=q at *;generalize ps.length=n at *;generalize l.length=m at *
 by_cases h0:p=0
 ·subst h0;have fZ:Hid (v=q):=by show _=_;rw[Hv.o,if_pos rfl]
  clear Hv;go_enter Tryz.func78,Tryz.ntmps78;go_wp2_with fail;refine cm_ H1.o ?_;rintro e w1 ⟨rfl,hZ⟩;have H6:=hd_ hZ;clear hZ H1;go_wp2_with fail;refine cm_ (H2.o w1 H6.o) ?_;rintro e w2 ⟨rfl,HU⟩;have H9:=bt_ H6 HU;clear HU H2 H6;go_wp2;go_ret;exact⟨by rw[fZ.o];rfl,H9.o⟩
 ·have fZ:Hid (v=p):=by show _=_;rw[Hv.o,if_neg h0]
  have GG:(p==0)=false:=by rw[beq_eq_false_iff_ne];exact h0
  clear Hv h0;go_enter Tryz.func78,Tryz.ntmps78;go_wp2_with fail;refine cm_ H1.o ?_;rintro e w1 ⟨rfl,hZ⟩;have H6:=hd_ hZ;clear hZ H1;go_wp2;go_ret;exact⟨by rw[fZ.o];rfl,H6.o⟩
theorem Zbi(w:World)(a1 a2:OA_)(c1 c2:Nat)(ps:List Int)(ls:List Zeq)(hp:Rd w a1 (Vk ps))(hi:Zlo ps)(fE:ps.length<=1000000)
  (hr:RdL w a2 ls) (hl:ls.length<=1000000) (Fs:∀ l∈ls,l.length<=1000000/\Ssz l) (L:Qe w) :
  Kc Tryz.prog 20 #[.slice a1 ps.length c1,.slice a2 ls.length c2] w (.int .i64 (Zik ps ls)):=by
 unfold Kc;have H1:=hd_ (Zdo w a1 c1 ps hp hi fE);have H2:Hid (∀ W a c l,Bw_ w W->l∈ls->Rd W a (Qm l)->Kc Tryz.prog 77 #[.slice a1 ps.length c1,.slice a l.length c] W (.int .i64 (Zcp ps.length l))):=fun W a c l hW hm cY =>
  Zi1 W a1 a c1 c ps.length l cY (Fs l hm).1 fE (Fs l hm).2 (L.below hW)
 have Hv:Hid (Zik ps ls=if Qz ps=0 then lgo ps.length ls else Qz ps):=rfl;have Hr:=hd_ hr;clear hp hi fE Fs L hr;generalize Zik ps ls=v at *;generalize Qz ps=p at *;generalize ps.length=n at *
 by_cases h0:p=0
 ·subst h0;have fZ:Hid (v=lgo n ls):=by show _=_;rw[Hv.o,if_pos rfl]
  clear Hv;generalize hm:ls.length=m at *;have Hm:=hd_ hm;clear hm;go_enter Tryz.func20,Tryz.ntmps20;go_wp2_with fail;refine cm_ H1.o ?_;rintro e w1 ⟨rfl,hZ⟩;have H6:=hd_ hZ;clear hZ H1;go_wp2_with fail
  go_loopw [16] (fun i wr=>∃ k:Nat,k<=m/\i = .int .i64 k/\Hid (lgo n ls=lgo n (ls.drop k))/\Hid (Bw_ w wr)) (fun i _=>m-(intOf i).toNat)
  case atStart=>exact⟨0,Nat.zero_le _,rfl,rfl,H6⟩
  case round =>
   obtain⟨k,hk,rfl,Hg,Hb⟩:=hrel
   by_cases H7:k<m
   ·have gi:(k:Int)<m:=by omega
    have gU:k<ls.length:=by rw[Hm.o];exact H7
    rcases Hr.o with GD|⟨b,off,rfl,hb,hcells⟩
    ·rw[GD] at gU;exact absurd gU (Nat.not_lt_zero _)
    obtain⟨a',c',cx,cY⟩:=hcells k gU;have fm:ls.getD k []=ls[k]:=by rw[List.getD_eq_getElem?_getD,List.getElem?_eq_getElem gU];rfl
    rw[<- Hb.o.cell (p:=⟨b,off+k,none⟩) hb,fm] at cx;rw[fm] at cY;have Hd:Hid (ls.drop k=ls[k]::ls.drop (k+1)):=List.drop_eq_getElem_cons gU;have FD:ls[k]∈ls:=List.getElem_mem gU;have hc:=H2.o wr a' c' ls[k] Hb.o FD (cY.below Hb.o nr_);clear fm hcells cY FD;generalize ls[k]=l at *;generalize l.length=q at *
    by_cases hs:Zcp n l=0
    ·have dK:Hid (lgo n ls=lgo n (ls.drop (k+1))):=by
      show _=_
      rw[Hg.o,Hd.o]
      show (if _ then _ else _)=_
      rw[if_pos hs]
     rw[hs] at hc;clear hs Hg Hd;go_wp2_with fail;refine cm_ hc ?_;rintro e w2 ⟨rfl,HU⟩;have H9:=bt_ Hb HU;clear HU hc Hb;go_wp2
     go_roundw
     case rel=>exact⟨k+1,by omega,by go_num,dK,H9⟩
     case measure=>simp[intOf];omega
    ·have dK:Hid (lgo n ls=Zcp n l):=by
      show _=_
      rw[Hg.o,Hd.o]
      show (if _ then _ else _)=_
      rw[if_neg hs]
     have De:(Zcp n l==0)=false:=by rw[beq_eq_false_iff_ne];exact hs
     clear hs Hg Hd;generalize Zcp n l=z at *;go_wp2_with fail;refine cm_ hc ?_;rintro e w2 ⟨rfl,HU⟩;have H9:=bt_ Hb HU;clear HU hc Hb;go_wp2;go_ret;exact⟨by rw[fZ.o,dK.o];rfl,H9.o⟩
   ·have gi:¬ (k:Int)<m:=by omega
    have dK:Hid (lgo n ls=0):=by
     show _=_
     rw[Hg.o,List.drop_of_length_le (by rw[Hm.o];omega)];rfl
    go_wp2;go_ret;exact⟨by rw[fZ.o,dK.o];rfl,Hb.o⟩
 ·have fZ:Hid (v=p):=by show _=_;rw[Hv.o,if_neg h0]
  have GG:(p==0)=false:=by rw[beq_eq_false_iff_ne];exact h0
  clear Hv h0;generalize ls.length=m at *;go_enter Tryz.func20,Tryz.ntmps20;go_wp2_with fail;refine cm_ H1.o ?_;rintro e w1 ⟨rfl,hZ⟩;have H6:=hd_ hZ;clear hZ H1;go_wp2;go_ret;exact⟨by rw[fZ.o];rfl,H6.o⟩
def Zdz (acc x:List Rat) (f:Rat):List Rat:=List.zipWith (fun o y=>o+y*f) acc x
def Zib (n:Nat) (ls:List (List Rat)) (fs:List Rat) (k:Nat):List Rat:=((ls.zip fs).take k).foldl (fun acc p=>Zdz acc p.1 p.2) (List.replicate n 0)
def Yj (n:Nat) (ls:List (List Rat)) (fs:List Rat):List Rat:=(ls.zip fs).foldl (fun acc p=>Zdz acc p.1 p.2) (List.replicate n 0)
def Zst (acc x:List Rat) (f:Rat) (j:Nat):List Rat:=(Zdz acc x f).take j++acc.drop j
theorem Yz(acc x:List Rat)(f:Rat)(h:x.length=acc.length):(Zdz acc x f).length=acc.length:=by simp[Zdz,h]
theorem Zca(acc x:List Rat)(f:Rat)(j:Nat)(h:x.length=acc.length)(hj:j<=acc.length):(Zst acc x f j).length=acc.length:=by
 simp only[Zst,List.length_append,List.length_take,List.length_drop,Yz acc x f h];omega
theorem Zzc(acc x:List Rat)(f:Rat)(j:Nat)(h:x.length=acc.length)(hj:j<acc.length)(hh:j<(Zst acc x f j).length):(Zst acc x f j)[j]=acc[j]:=by
 simp only[Zst];rw[List.getElem_append_right (by rw[List.length_take,Yz acc x f h];omega)];simp only[List.getElem_drop,List.length_take,Yz acc x f h];congr 1;omega
theorem Zzb(acc x:List Rat)(f:Rat)(j:Nat)(h:x.length=acc.length)(hj:j<acc.length):(Zst acc x f j).set j (acc[j]+x[j]*f)=Zst acc x f (j+1):=by
 have hl:=Yz acc x f h;unfold Zst;rw[List.set_append_right _ _ (by rw[List.length_take];omega),List.length_take,hl,Nat.min_eq_left (by omega),Nat.sub_self,List.drop_eq_getElem_cons hj,List.set_cons_zero,
  List.take_add_one,List.getElem?_eq_getElem (show j<(Zdz acc x f).length by omega),List.append_assoc]
 have:(Zdz acc x f)[j]=acc[j]+x[j]*f:=by simp[Zdz]
 rw[this];rfl
theorem Zvv(acc x:List Rat)(f:Rat):Zst acc x f 0=acc:=by simp[Zst]
theorem Zzd(acc x:List Rat)(f:Rat)(h:x.length=acc.length):Zst acc x f acc.length=Zdz acc x f:=by
 unfold Zst;rw[List.drop_length,List.append_nil,List.take_of_length_le (by rw[Yz acc x f h];exact Nat.le_refl _)]
theorem Zg0(n ls fs):Zib n ls fs 0=List.replicate n 0:=rfl
theorem Zg1(n:Nat)(ls:List (List Rat))(fs:List Rat)(k:Nat)(h1:k<ls.length)(h2:k<fs.length):Zib n ls fs (k+1)=Zdz (Zib n ls fs k) ls[k] fs[k]:=by
 unfold Zib;rw[List.take_add_one,List.getElem?_eq_getElem (by rw[List.length_zip];omega),List.foldl_append];simp
theorem Zp8(n:Nat)(ls:List (List Rat))(fs:List Rat)(k:Nat)(h:ls.length<=k):Zib n ls fs k=Yj n ls fs:=by
 unfold Zib Yj;rw[List.take_of_length_le (by rw[List.length_zip];omega)]
theorem Yo(n:Nat)(ls:List (List Rat))(fs:List Rat)(hl:∀ l∈ls,l.length=n)(hf:fs.length=ls.length):∀ k,k<=ls.length->(Zib n ls fs k).length=n
 | 0,_=>by rw[Zg0,List.length_replicate]
 | k+1,h=>by
  have ih:=Yo n ls fs hl hf k (by omega);rw[Zg1 n ls fs k (by omega) (by omega),Yz _ _ _ (by rw[ih];exact hl _ (List.getElem_mem _)),ih]
theorem Zb6(n:Nat)(ls:List (List Rat))(fs:List Rat)(hl:∀ l∈ls,l.length=n)(hf:fs.length=ls.length):(Yj n ls fs).length=n:=by
 rw[<- Zp8 n ls fs ls.length nr_];exact Yo n ls fs hl hf _ nr_
theorem Sm.zero:Sm 1 0:=⟨by decide,by decide⟩
theorem Zj7(n:Nat)(ls:List (List Rat))(fs:List Rat)(Dx Df:Nat)(hl:∀ l∈ls,∀ q∈l,Sm Dx q)(hfq:∀ q∈fs,Sm Df q)(hf:fs.length=ls.length):∀ k,k<=ls.length->∀ q∈Zib n ls fs k,Sm (1+k*(Dx+Df+1)) q
 | 0,_,q,hq=>by
  rw[Zg0] at hq;rw[List.eq_of_mem_replicate hq]
  simpa using Sm.zero
 | k+1,h,q,hq=>by
  have ih:=Zj7 n ls fs Dx Df hl hfq hf k (by omega);rw[Zg1 n ls fs k (by omega) (by omega)] at hq;unfold Zdz at hq;obtain⟨i,hi,hqi⟩:=List.mem_iff_getElem.1 hq;rw[List.getElem_zipWith] at hqi;rw[<- hqi];have h1:=ih _ (List.getElem_mem (show i<(Zib n ls fs k).length by simp at hi;omega));have h2:=hl _ (List.getElem_mem (show k<ls.length by omega)) _ (List.getElem_mem (show i<(ls[k]).length by simp at hi;omega));have h3:=hfq _ (List.getElem_mem (show k<fs.length by omega));exact(h1.add (h2.mul h3)).le (by rw[Nat.add_mul];omega)
theorem Qb(l:List Rat)(k:Nat)(h:k<l.length):((l.map qs).getD k default)=qs l[k]:=by
 rw[List.getD_eq_getElem?_getD,List.getElem?_map,List.getElem?_eq_getElem h];rfl
theorem Zfp(w:World)(a b:Rat)(D E:Nat)(ha:Sm D a)(hb:Sm E b)(h6:D+E+2<=1000000)(L:Qe w):
  ∀ d os,Calls Tryz.prog 206 #[fr a,fr b] (Go.Sort.grow (redrawn w d) os) fun e w''=>e = .returned (fr (a*b))/\∃ p:Regrown,w''=Go.Sort.grow (redrawn w p.d) p.os:=fun d os =>
 Calls.regrown_of (Qd7 _ a b D E ha hb h6 (L.below (below_regrown w d os)))
theorem Znl(w:World)(a b:Rat)(D E:Nat)(ha:Sm D a)(hb:Sm E b)(h6:D+E+2<=1000000)(L:Qe w):
  ∀ d os,Calls Tryz.prog 207 #[fr a,fr b] (Go.Sort.grow (redrawn w d) os) fun e w''=>e = .returned (fr (a+b))/\∃ p:Regrown,w''=Go.Sort.grow (redrawn w p.d) p.os:=fun d os =>
 Calls.regrown_of (Zxx _ a b D E ha hb h6 (L.below (below_regrown w d os)))
theorem Zn0(w:World)(a2 a3:OA_)(c2 c3 n:Nat)(ls:List (List Rat))(fs:List Rat)(Dx Df:Nat)
  (hr:RdL w a2 (ls.map (List.map qs))) (hf:Rd w a3 (Kk fs)) (gd:∀ l∈ls,l.length=n) (hfl:fs.length=ls.length) (hx:∀ l∈ls,∀ q∈l,Sm Dx q) (hfq:∀ q∈fs,Sm Df q)
  (hn:n<=1000) (hm:ls.length<=1000) (hD:3+(ls.length+1)*(Dx+Df+1)<=1000000) (L:Qe w) :
  Zf2 141 #[.int .i64 n,.slice a2 ls.length c2,.slice a3 fs.length c3] w (Yj n ls fs):=by
 unfold Zf2;have HL:=hd_ L;have Hr:=hd_ hr;have Hf:=hd_ hf;have gq:=hd_ gd;have Hx:=hd_ hx;have Ll:=hd_ hfq;have HD:=hd_ hD;have Hz:=hd_ (Zxz w n hn L);have bO:=hd_ hfl;have Ot:=hd_ (Zb6 n ls fs gd hfl);rw[hfl];clear L hr hf gd hx hfq hfl hD;generalize AU:ls.length=m at *;have Hm:=hd_ AU;clear AU;rw[Ot.o];go_enter Tryz.func141,Tryz.ntmps141;go_wp2_with fail;refine cm_ Hz.o ?_;rintro e w1 ⟨a,c,rfl,gk,hZ⟩;rw[show (List.replicate n (0:Rat)).length=n from List.length_replicate];have gw:=hd_ gk;have H6:=hd_ hZ;clear gk hZ Hz;go_wp2_with fail
 go_loopw [16] (fun i wr=>∃ k:Nat,k<=m/\i = .int .i64 k/\Hid (Zd0 wr w.heap.size a c (Zib n ls fs k))/\Hid (Bw_ w wr)) (fun i _=>m-(intOf i).toNat)
 case atStart=>exact⟨0,Nat.zero_le _,rfl,by rw[Zg0];exact gw,H6⟩
 case round =>
  obtain⟨k,hk,rfl,gw,Hb⟩:=hrel
  by_cases H7:k<m
  ·have gi:(k:Int)<m:=by omega
   have gU:k<ls.length:=by rw[Hm.o];exact H7
   rcases Hr.o with GD|⟨b,off,rfl,hb,hcells⟩
   ·rw[List.map_eq_nil_iff] at GD;rw[GD] at gU;exact absurd gU (Nat.not_lt_zero _)
   obtain⟨a',c',cx,cY⟩:=hcells k (by rw[List.length_map];exact gU);have fm:(ls.map (List.map qs)).getD k []=ls[k].map qs:=by rw[List.getD_eq_getElem?_getD,List.getElem?_map,List.getElem?_eq_getElem gU];rfl
   have Ed:=gq.o _ (List.getElem_mem gU);rw[<- Hb.o.cell (p:=⟨b,off+k,none⟩) hb,fm,List.length_map,Ed] at cx;rw[fm] at cY;have jW:=hd_ cY;have DU:=hd_ Ed;have Ee:(0:Int)<=k:=by omega
   clear fm hcells cY Ed;go_wp2_with fail;have PA:=hd_ Hb.o
   go_loopw [23] (fun j wr=>∃ i:Nat,i<=n/\j = .int .i64 i/\Hid (Zd0 wr w.heap.size a c (Zst (Zib n ls fs k) ls[k] (fs.getD k 0) i))/\Hid (Bw_ w wr)) (fun j _=>n-(intOf j).toNat)
   case atStart=>exact⟨0,Nat.zero_le _,rfl,by rw[Zvv];exact gw,Hb⟩
   case round =>
    obtain⟨i,hi,rfl,gJ,H9⟩:=hrel
    by_cases hli:i<n
    ·have JI:(i:Int)<n:=by omega
     have dD:=Yo n ls fs gq.o (by rw[bO.o,Hm.o]) k (by omega);have A5:i<(ls[k]).length:=by rw[DU.o];exact hli
     have A7:i<(Zib n ls fs k).length:=by rw[dD];exact hli
     have Co:(ls[k]).length=(Zib n ls fs k).length:=by rw[dD];exact DU.o
     have bg:k<fs.length:=by rw[bO.o];exact H7
     have JV:fs.getD k 0=fs[k]:=by rw[List.getD_eq_getElem?_getD,List.getElem?_eq_getElem bg];rfl
     -- the element of the row
     obtain⟨bx,ox,rfl,hbx,hcx⟩:=jW.o.open (by rw[Qt,List.length_map,DU.o];omega);obtain⟨x0,x1⟩:=Qf hcx i (by rw[List.length_map];exact A5);rw[<- H9.o.cell (p:=⟨bx,ox+i*2,none⟩) hbx,Qb _ i A5] at x0;rw[<- H9.o.cell (p:=⟨bx,ox+i*2+1,none⟩) hbx,Qb _ i A5] at x1
     -- the factor
     obtain⟨bf,of,rfl,hbf,hcf⟩:=Hf.o.open (by rw[Ks];omega);obtain⟨y0,y1⟩:=Qf hcf k (by rw[List.length_map];exact bg);rw[<- H9.o.cell (p:=⟨bf,of+k*2,none⟩) hbf,Qb _ k bg] at y0;rw[<- H9.o.cell (p:=⟨bf,of+k*2+1,none⟩) hbf,Qb _ k bg] at y1
     -- the sum so far
     have Ec:=Zca (Zib n ls fs k) ls[k] (fs.getD k 0) i Co (by omega);obtain⟨g,rfl,hBg,fm,-,hco,Cf⟩:=gJ.o.open (by rw[Ec,dD];omega);obtain⟨o0,o1⟩:=hco i (by rw[Ec];exact A7);rw[Zzc _ _ _ i Co A7 (by rw[Ec];exact A7)] at o0 o1;have f0:=Cf (i*2);have f1:=Cf (i*2+1);have sx:=Hx.o _ (List.getElem_mem gU) _ (List.getElem_mem A5);have sf:=Ll.o _ (List.getElem_mem bg);have sa:=Zj7 n ls fs Dx Df Hx.o Ll.o (by rw[bO.o,Hm.o]) k (by omega) _ (List.getElem_mem A7);have MA:(k+1)*(Dx+Df+1)<=(m+1)*(Dx+Df+1):=Nat.mul_le_mul_right _ (by omega);have lu:(k+1)*(Dx+Df+1)=k*(Dx+Df+1)+(Dx+Df+1):=by rw[Nat.add_mul,Nat.one_mul]
     have iw:=HD.o;have jK:(m+1)*(Dx+Df+1)=m*(Dx+Df+1)+(Dx+Df+1):=by rw[Nat.add_mul,Nat.one_mul]
     have nX:=hd_ (HL.o.below H9.o);have BV:=hd_ (Zzb (Zib n ls fs k) ls[k] fs[k] i Co A7);rw[JV] at gJ;have OP:=hd_ JV;have HM:Hid (∀ W,Bw_ wr W->∀ d os,Calls Tryz.prog 206 #[fr (ls[k])[i],fr fs[k]] (Go.Sort.grow (redrawn W d) os) fun e w''=>e = .returned (fr ((ls[k])[i]*fs[k]))/\∃ p:Regrown,w''=Go.Sort.grow (redrawn W p.d) p.os):=fun W hW =>
      Zfp W _ _ Dx Df sx sf (by omega) (nX.o.below hW)
     have HA:Hid (∀ W,Bw_ wr W->∀ d os,Calls Tryz.prog 207 #[fr (Zib n ls fs k)[i],fr ((ls[k])[i]*fs[k])] (Go.Sort.grow (redrawn W d) os) fun e w''=>e = .returned (fr ((Zib n ls fs k)[i]+(ls[k])[i]*fs[k]))/\∃ p:Regrown,w''=Go.Sort.grow (redrawn W p.d) p.os):=fun W hW =>
      Znl W _ _ (1+k*(Dx+Df+1)) (Dx+Df) sa (sx.mul sf) (by omega) (nX.o.below hW)
     unfold fr fv at HM HA;clear sx sf sa MA lu iw jK hcx hcf hco Cf JV Ec;generalize (Zib n ls fs k)[i]=oq at *;generalize (ls[k])[i]=xq at *;generalize fs[k]=fq at *;simp only[qs] at x0 x1 y0 y1;have gl:=hd_ (H9.o.alloc H9.o.size (.cells #[.string (itx xq.num),.string (dec xq.den)] 101));have ed:=hd_ ((Below.refl wr.heap.size wr).alloc nr_ (.cells #[.string (itx xq.num),.string (dec xq.den)] 101));have ge:Hid ((wr.alloc (.cells #[.string (itx xq.num),.string (dec xq.den)] 101)).heap[wr.heap.size]?=some (.cells #[.string (itx xq.num),.string (dec xq.den)] 101 (0,0))):=heap_alloc_new wr _;have hM:=HM.o _ ed.o;have hA:=HA.o _ ed.o;have gE:=gJ.o.below ed.o nr_;have jZ:=hd_ ((ed.o.cell (p:=⟨g,i*2,none⟩) fm).trans o0);have Fw:=hd_ ((ed.o.cell (p:=⟨g,i*2+1,none⟩) fm).trans o1);have MT:=hd_ ((ed.o.cell (p:=⟨bf,of+k*2,none⟩) (Nat.lt_of_lt_of_le hbf H9.o.size)).trans y0);have jT:=hd_ ((ed.o.cell (p:=⟨bf,of+k*2+1,none⟩) (Nat.lt_of_lt_of_le hbf H9.o.size)).trans y1);have PD:=hd_ f0;have PC:=hd_ f1;have E5:=hd_ gE;clear o0 o1 y0 y1 f0 f1 gE HM HA gJ H9;go_wp2_with fail;generalize wr.alloc (.cells #[.string (itx xq.num),.string (dec xq.den)] 101)=W0 at *;obtain⟨k0,k1,-,-⟩:=Ka ge.o;have q0:=cell_regrown k0;have q1:=cell_regrown k1;have q2:=cell_regrown jZ.o;have q3:=cell_regrown Fw.o;have q4:=cell_regrown MT.o;have q5:=cell_regrown jT.o;clear k0 k1 x0 x1;refine Kr 13 (by kernel_rfl) (by kernel_rfl) ?_;simp only[List.take_succ_cons,List.take_zero,List.drop_succ_cons,List.drop_zero]
     repeat (first | go_big_quiet_step (first | with_reducible exact hM _ _ | with_reducible exact hA _ _) | quiet_step (first | with_reducible exact hM _ _ | with_reducible exact hA _ _))
     refine wpQuiet_nil ?_;intro w8 Fm;obtain⟨⟨dq,osq⟩,rfl⟩:=Fm;have G7:=below_regrown W0 dq osq;have c0:=(G7.cell (p:=⟨g,i*2,none⟩) (block_lt_of_cell jZ.o)).trans jZ.o;have c1:=(G7.cell (p:=⟨g,i*2+1,none⟩) (block_lt_of_cell Fw.o)).trans Fw.o;have DO:=hd_ (E5.o.below G7 nr_);have Aq:=bt_ gl G7;clear G7 hM hA q0 q1 q2 q3 q4 q5 gl E5 jZ Fw MT jT ge;generalize Go.Sort.grow (redrawn W0 dq) osq=w8 at *;have f0:w8.frozen? ⟨g,i*2,none⟩=false:=by
      obtain⟨g',hg',-,-,-,-,h5⟩:=Zd0.open DO.o (by rw[Zca _ _ _ _ (by rw[DU.o];exact(Yo n ls fs gq.o (by rw[bO.o,Hm.o]) k (by omega)).symm) (by omega)];omega);simp only[Option.some.injEq,Addr.mk.injEq,and_true] at hg';rw[hg'];exact h5 _
     have f1:w8.frozen? ⟨g,i*2+1,none⟩=false:=by
      obtain⟨g',hg',-,-,-,-,h5⟩:=Zd0.open DO.o (by rw[Zca _ _ _ _ (by rw[DU.o];exact(Yo n ls fs gq.o (by rw[bO.o,Hm.o]) k (by omega)).symm) (by omega)];omega);simp only[Option.some.injEq,Addr.mk.injEq,and_true] at hg';rw[hg'];exact h5 _
     go_wp2
     go_roundw
     case rel =>
      refine⟨i+1,by omega,by go_num,?_,?_⟩
      ·have:=Zd0.store DO.o i (by rw[Zca _ _ _ _ (by rw[DU.o];exact(Yo n ls fs gq.o (by rw[bO.o,Hm.o]) k (by omega)).symm) (by omega)];omega) (oq+xq*fq)
       rw[BV.o] at this;rw[OP.o];exact this
      ·exact(Aq.o.setCell (p:=⟨g,i*2,none⟩) hBg _).setCell (p:=⟨g,i*2+1,none⟩) hBg _
     case measure=>simp[intOf];omega
    ·have JI:¬ (i:Int)<n:=by omega
     have A4:i=n:=by omega
     have E5:Hid (Zd0 wr w.heap.size a c (Zib n ls fs (k+1))):=by
      have dD:=Yo n ls fs gq.o (by rw[bO.o,Hm.o]) k (by omega);have bg:k<fs.length:=by rw[bO.o];exact H7
      have:=gJ.o
      have gW:=Zzd (Zib n ls fs k) ls[k] (fs.getD k 0) (by rw[dD];exact DU.o);rw[dD] at gW;rw[A4,gW] at this
      show Zd0 _ _ _ _ _
      rw[Zg1 n ls fs k gU bg];rw[List.getD_eq_getElem?_getD,List.getElem?_eq_getElem bg] at this;exact this
     clear gJ A4;go_wp2
     go_roundw
     case rel=>exact⟨k+1,by omega,by go_num,E5,H9⟩
     case measure=>simp[intOf];omega
  ·have gi:¬ (k:Int)<m:=by omega
   have gJ:Hid (Zd0 wr w.heap.size a c (Yj n ls fs)):=by
    have:=gw.o
    rw[Zp8 n ls fs k (by rw[Hm.o];omega)] at this;exact this
   go_wp2;go_ret;exact⟨a,c,rfl,gJ.o,Hb.o⟩
end Go.Proofs.YtbielfplgbammaaGreatDoor

namespace Go.Proofs.YtbielfplgbammaaGreatDoor.RP
open Go Go.Sort Go.Proofs.YtbielfplgbammaaGreatDoor
section
variable {P:Program} {ops:Array Oper} {md:Region.Mode} {C:World->Prop}
def Zbn:Op->Bool
 | .move _ | .assign _ | .load _ _ | .fieldAddr _ _ _ | .indexAddr _ _ _ | .extract _ _ | .binOp _ _ _ _ _ | .convert _ _ _ | .slice _ _ _ _ _ | .unOp _ _ _ | .nilCheck _ | .pick _ _ _ | .build _ _ | .index _ _ _=>true
 | .call c=>match c.callee with
  | .builtin .min | .builtin .max | .builtin .len=>true
  | _=>false
 | _=>false
theorem value_no_enter{s:Sem Value}{w w':World}{f:FuncId}{args:Array Value}(h:(do pure (Next.value (<- s)):Sem Next).run P w = .ok (.enter f args) w'):False:=by
 simp only[Sem.run_bind,Sem.run_pure] at h;cases hs:s.run P w with
 | ok v w1=>rw[hs] at h;simp[Result.andThen] at h
 | halt x w1=>rw[hs] at h;simp[Result.andThen] at h
theorem Zkk{s:Sem Bool}{x y:Value}{w w':World}{f:FuncId}{args:Array Value}(h:(do pure (Next.value (if <- s then x else y)):Sem Next).run P w = .ok (.enter f args) w'):False:=by
 simp only[Sem.run_bind,Sem.run_pure] at h;cases hs:s.run P w with
 | ok v w1=>rw[hs] at h;simp[Result.andThen] at h
 | halt x w1=>rw[hs] at h;simp[Result.andThen] at h
theorem Zmu(v:Value){w w':World}{f:FuncId}{args:Array Value} (h:((match v with
  | .pointer none | .nilIface | .nilFunc=>runtimePanic .nilDeref
  | .func (.method name) first captured =>
   match (first[0]?:Option Value) with
   | some .nilIface=>runtimePanic .nilDeref
   | some (.iface t w)=>do
    if (<- nilAhead ((<- program).types.size+Made.depth) t w name) != some false then
     unsupported (.noEntry "op/nilCheck.the method's receiver behind this interface value is a nil pointer, or cannot be seen to be none, and the arguments act or may panic (ledger 612)")
    pure (.value (.func (.method name) first captured))
   | _=>pure (.value (.func (.method name) first captured))
  | x=>pure (.value x):Sem Next)).run P w = .ok (.enter f args) w'):False:=by
 split at h
 all_goals first
  | (simp[Sem.run_pure] at h;done)
  | (cases h;done)
  | skip
 split at h
 ·cases h
 ·simp only[Sem.run_bind,Result.andThen] at h
  repeat' (split at h)
  all_goals first
   | (cases h;done)
   | (simp[Sem.run_pure,Sem.run_bind,Result.andThen] at h;done)
   | skip
 ·simp[Sem.run_pure] at h
theorem Zy5{o:Oper}{a:Act}{w w':World}{f:FuncId}{args:Array Value}(ho:Zbn o.op=true)(h:(execOp a.eval o).run P w = .ok (.enter f args) w'):False:=by
 have Eu:(∃ x,o.op = .move x)\/(∃ x,o.op = .assign x)\/(∃ t x,o.op = .load t x)\/(∃ t x k,o.op = .fieldAddr t x k)\/(∃ t x y,o.op = .indexAddr t x y)\/(∃ x k,o.op = .extract x k)\/(∃ b t x y r,o.op = .binOp b t x y r)\/(∃ s d x,o.op = .convert s d x)\/(∃ s x l h m,o.op = .slice s x l h m)\/(∃ u t x,o.op = .unOp u t x)\/(∃ x,o.op = .nilCheck x)\/(∃ c x y,o.op = .pick c x y)\/(∃ t p,o.op = .build t p)\/(∃ t x i,o.op = .index t x i)\/(∃ c,o.op = .call c):=by
  cases hop:o.op<;>rw[hop] at ho<;>first | (simp[Zbn] at ho;done) | simp
 rcases Eu with⟨x,hop⟩|⟨x,hop⟩|⟨t,x,hop⟩|⟨t,x,k,hop⟩|⟨t,x,y,hop⟩|⟨x,k,hop⟩|⟨b,t,x,y,r,hop⟩|⟨s,d,x,hop⟩|⟨s,x,lo,hi,mx,hop⟩|⟨u,t,x,hop⟩|⟨x,hop⟩|⟨c,x,y,hop⟩|⟨t,p,hop⟩|⟨t,x,i,hop⟩|⟨c,hop⟩
 ·rw[BigFrame.run_move x hop] at h;cases h
 ·rw[BigFrame.run_assign x hop] at h;cases h
 ·unfold execOp at h;rw[hop] at h;exact value_no_enter h
 ·unfold execOp at h;rw[hop] at h;exact value_no_enter h
 ·unfold execOp at h;rw[hop] at h;exact value_no_enter h
 ·unfold execOp at h;rw[hop] at h;exact value_no_enter h
 ·unfold execOp at h;rw[hop] at h;exact value_no_enter h
 ·unfold execOp at h;rw[hop] at h;exact value_no_enter h
 ·unfold execOp at h;rw[hop] at h;exact value_no_enter h
 ·unfold execOp at h;rw[hop] at h;exact value_no_enter h
 ·unfold execOp at h;rw[hop] at h;exact Zmu (a.eval x) h
 ·unfold execOp at h;rw[hop] at h;exact Zkk h
 ·unfold execOp at h;rw[hop] at h;exact value_no_enter h
 ·unfold execOp at h;rw[hop] at h;exact value_no_enter h
 ·rw[hop] at ho;unfold execOp at h;rw[hop] at h;unfold Zbn at ho;simp only at ho h;unfold resolve at h;cases hc:c.callee with
  | value x=>rw[hc] at ho;cases ho
  | invoke x y=>rw[hc] at ho;cases ho
  | builtin b =>
   rw[hc] at ho h;simp only[Sem.run_bind,Sem.run_pure,Result.andThen_ok,invoke] at h;cases b<;>first | (simp at ho;done) | (unfold builtin at h;exact value_no_enter h)
theorem Zie{o:Oper}{a:Act}{w:World}{v:Value}(ho:Zbn o.op=true)(h:o.quietAt P a C w v){K:Act->World->Prop}(hk:K (a.put o.dst v) w):o.wp P a w K (fun _ _ _=>False):=by
 unfold Oper.quietAt at h;unfold Oper.wp;have gj:=@Zy5 P o a w;generalize (execOp a.eval o).run P w=r at *;cases r with
 | ok n w' =>
  cases n<;>simp only[Oper.quietUpon] at h<;>simp only[Oper.upon]
  case value u=>obtain⟨rfl,rfl⟩:=h;exact hk
  case skip=>obtain⟨rfl,rfl⟩:=h;exact hk
  case enter f args=>exact(gj ho rfl).elim
 | halt x w'=>simp only[Oper.quietUpon] at h
def Zdk (C:World->Prop) (s:Nat) (listed:Array Bool) (w:World):Prop:=listed.getD s false=true\/C w
def Qdz (P:Program) (md:Region.Mode) (ops:Array Oper) (C:World->Prop) (s:Nat) (Q:Act->World->Prop):Nat->Array Bool->Act->World->Prop
 | 0,listed,a,w=>Region.ready md ops listed=[]/\Q a w
 | f+1,listed,a,w=>Region.ready md ops listed≠[]/\∀ i∈Region.ready md ops listed,
   wpOp P ops (fun _ _ _=>False) i (fun a' w'=>Zdk C s (listed.setIfInBounds i true) w'/\Qdz P md ops C s Q f (listed.setIfInBounds i true) a' w') a w
theorem Zt0{o:Oper}{a:Act}{w:World}{K:Act->World->Prop}{Q':Exit->Act->World->Prop}(h:o.wp P a w K (fun _ _ _=>False)):o.wp P a w K Q':=by
 unfold Oper.wp at *
 generalize (execOp a.eval o).run P w=r at *;cases r with
 | ok n w' =>
  cases n<;>simp only[Oper.upon] at h ⊢ <;>
   first
    | exact h
    | exact cm_ h (fun e w'' he=>by cases e<;>first | exact he | exact he.elim | (obtain⟨_,_,hf⟩:=he;exact hf.elim))
    | exact Rows.mono h (fun _ _ he=>he)
 | halt x w'=>cases x<;>simp only[Oper.upon] at h<;>exact h.elim
theorem Znr{i:Nat}{a:Act}{w:World}{K K':Act->World->Prop}{Q':Exit->Act->World->Prop}(hk:∀ a w,K a w->K' a w)(h:wpOp P ops (fun _ _ _=>False) i K a w):wpOp P ops Q' i K' a w:=by
 unfold wpOp at *
 split
 ·rename_i ho;simp only[ho] at h;exact hk _ _ h
 ·rename_i o ho
  simp only[ho] at h;split
  ·rename_i hw
   simp only[hw,if_true] at h;rcases h with h|⟨_,_,_,hf⟩
   ·exact .inl (Oper.wp_mono hk (Zt0 h))
   ·exact hf.elim
  ·rename_i hw;simp only[hw] at h;exact hk _ _ h
theorem wpOp_strong{i:Nat}{a:Act}{w:World}{K:Act->World->Prop}{Q':Exit->Act->World->Prop}(hq:∀ e a w,Q' e a w->e = .normal)(h:wpOp P ops Q' i K a w):wpOp P ops (fun _ _ _=>False) i K a w:=by
 have Bc:¬ LetsOut Q':=fun ⟨a,w,h⟩=>by have:=hq _ _ _ h;cases this
 unfold wpOp at *
 split
 ·rename_i ho;simp only[ho] at h;exact h
 ·rename_i o ho
  simp only[ho] at h;split
  ·rename_i hw
   simp only[hw,if_true] at h;rcases h with h|⟨_,h⟩
   ·left;unfold Oper.wp at *
    generalize (execOp a.eval o).run P w=r at *;cases r with
    | ok n w' =>
     cases n<;>simp only[Oper.upon] at h ⊢ <;>
      first
       | exact h
       | exact cm_ h (fun e w'' he=>by cases e<;>first | exact he | (have:=hq _ _ _ he;cases this) | exact absurd he Bc)
       | exact Rows.mono h (fun _ _ he=>he)
    | halt x w'=>cases x<;>simp only[Oper.upon] at h<;>first | exact h.elim | (have:=hq _ _ _ h;cases this)
   ·exact absurd h Bc
  ·rename_i hw;simp only[hw] at h;exact h
theorem Zlj{s:Nat}{Q:Act->World->Prop}{Q':Exit->Act->World->Prop}(hQ:∀ a w,Q a w->Q' .normal a w):
  ∀ (f:Nat) (listed:Array Bool) (a:Act) (w:World),Qdz P md ops C s Q f listed a w->wpAny P md ops Q' f listed a w
 | 0,_,_,_,h=>⟨h.1,hQ _ _ h.2⟩
 | f+1,_,_,_,h=>⟨fun h0=>absurd h0 h.1,fun i hi=>Znr (fun a' w' h'=>Zlj hQ f _ a' w' h'.2) (h.2 i hi)⟩
structure RInv (md:Region.Mode) (ops:Array Oper) (listed:Array Bool):Prop where
 size:listed.size=ops.size
 closed:∀ j oj,ops[j]?=some oj->listed.getD j false=true->∀ e∈oj.after,Region.binds md e=true->listed.getD e.on false=true
theorem RInv.set{i:Nat}{listed:Array Bool}(inv:RInv md ops listed)(hi:i∈Region.ready md ops listed):RInv md ops (listed.setIfInBounds i true):=by
 obtain⟨_,oi,hoi,gW⟩:=mem_ready.1 hi;refine⟨by simp[inv.size],fun j oj hj hl e he hb=>?_⟩
 by_cases jA:i=j
 ·subst jA;have:oj=oi:=Option.some.inj (hj.symm.trans hoi)
  subst this;exact getD_set_true (gW e he hb)
 ·rw[getD_set_ne false jA] at hl;exact getD_set_true (inv.closed j oj hj hl e he hb)
def reachB (md:Region.Mode) (ops:Array Oper):Nat->Nat->Nat->Bool
 | 0,_,_=>false
 | f+1,s,i=>match ops[s]? with
  | some o=>o.after.any fun e=>Region.binds md e&&(e.on==i||reachB md ops f e.on i)
  | none=>false
theorem reach_listed{listed:Array Bool}(inv:RInv md ops listed):∀ (f s i:Nat),reachB md ops f s i=true->listed.getD s false=true->listed.getD i false=true
 | 0,_,_,h,_=>by cases h
 | f+1,s,i,h,hs=>by
  unfold reachB at h;split at h
  ·rename_i o ho
   obtain⟨e,he,hb⟩:=Array.any_eq_true'.1 h;simp only[Bool.and_eq_true,Bool.or_eq_true,beq_iff_eq] at hb;have hl:=inv.closed s o ho hs e he hb.1;rcases hb.2 with h2|h2
   ·rw[<- h2];exact hl
   ·exact reach_listed inv f e.on i h2 hl
  ·cases h
def Zai (P:Program) (ops:Array Oper) (md:Region.Mode) (C:World->Prop) (s i:Nat) (o:Oper) (v:Value) (a:Act):Prop :=
 (reachB md ops 4 s i=true/\YieldsIn P ops C o v a)\/YieldsIn P ops (fun _=>True) o v a
theorem Zai.of_same{s i:Nat}{o:Oper}{v:Value}{a a':Act}(hy:Zai P ops md C s i o v a)(he:execOp a'.eval o=execOp a.eval o)
  (hw:Region.wanted o (yielded ops a'.tmps)=Region.wanted o (yielded ops a.tmps)):Zai P ops md C s i o v a' :=
 hy.imp (fun ⟨h1,h2⟩=>⟨h1,h2.of_same he hw⟩) (fun h=>h.of_same he hw)
theorem Zqj{s i:Nat}{o:Oper}{v:Value}{a:Act}{w:World}{listed:Array Bool}(hi:ops[i]?=some o)(gj:Zbn o.op=true)(inv:RInv md ops listed)(hr:i∈Region.ready md ops listed)(hs:Zdk C s listed w)
  (hy:Zai P ops md C s i o v a) {K:Act->World->Prop} (hk:K (a.put o.dst v) w):wpOp P ops (fun _ _ _=>False) i K a w:=by
 have gS:∀ D:World->Prop,D w->YieldsIn P ops D o v a->wpOp P ops (fun _ _ _=>False) i K a w:=fun D hD h=>by
  unfold wpOp;simp only[hi];rcases h with⟨h1,h2⟩|⟨h1,rfl⟩
  ·simp only[h1,if_true];exact .inl (Zie gj (h2 w hD) hk)
  ·simp only[h1,Bool.false_eq_true,if_false];exact hk
 rcases hy with⟨hw,h⟩|h
 ·refine gS C ?_ h;rcases hs with hs|hs
  ·have:=reach_listed inv 4 s i hw hs
   rw[getD_both (mem_ready.1 hr).1] at this;cases this
  ·exact hs
 ·exact gS _ trivial h
theorem Zx1{j:Nat}{oi oj:Oper}{v:Value}(hj:ops[j]?=some oj)(Du:oi.apart ops oj=true)
  (hsi:∀ cs b,oi.op ≠ .select cs b) (hsj:∀ cs b,oj.op ≠ .select cs b) {s i:Nat} {K:Act->World->Prop} {a:Act} {w:World}
  (hy:Zai P ops md C s i oi v a) (h:wpOp P ops (fun _ _ _=>False) j K (a.put oi.dst v) w) :
  wpOp P ops (fun _ _ _=>False) j (fun a' w'=>Zai P ops md C s i oi v a'/\K (a'.put oi.dst v) w') a w:=by
 obtain⟨h1,h2,h3⟩:=Oper.apart_spec Du;have Gx:∀ (a:Act),Zai P ops md C s i oi v a->∀ u,Zai P ops md C s i oi v (a.put oj.dst u):=fun a hy u =>
  hy.of_same (execOp_put oi hsi a oj.dst u h3) (wanted_put oi a oj.dst u h3)
 have dZ:∀ d,Zai P ops md C s i oi v ({ a with defers:=d::a.defers }:Act):=fun d=>hy.of_same rfl rfl
 unfold wpOp at *
 simp only[hj] at *
 rw[wanted_put oj a oi.dst v h1] at h;split
 ·rename_i hw
  simp only[hw,if_true] at h;left;rcases h with h|⟨_,_,_,hf⟩
  ·unfold Oper.wp at *
   rw[execOp_put oj hsj a oi.dst v h1] at h;generalize (execOp a.eval oj).run P w=r at *;cases r with
   | ok n w' =>
    cases n<;>simp only[Oper.upon] at h ⊢
    case value u=>exact⟨Gx a hy u,by rw[<- Act.put_comm a v u h2];exact h⟩
    case skip=>exact⟨Gx a hy undef,by rw[<- Act.put_comm a v undef h2];exact h⟩
    case defer d =>
     refine⟨Gx _ (dZ d) undef,?_⟩;rw[Act.put_defers] at h;rw[<- Act.put_comm _ v undef h2];exact h
    case enter f args =>
     exact cm_ h (fun e w'' he=>by
      cases e
      case returned u=>exact⟨Gx a hy u,by rw[<- Act.put_comm a v u h2];exact he⟩
      case panicked c=>exact he
      case outgrown=>obtain⟨_,_,hf⟩:=he;exact hf.elim)
    case row row args=>exact Rows.mono h (fun u w'' he=>⟨Gx a hy u,by rw[<- Act.put_comm a v u h2];exact he⟩)
    all_goals exact h
   | halt x w'=>cases x<;>simp only[Oper.upon] at h<;>exact h.elim
  ·exact hf.elim
 ·rename_i hw
  simp only[hw] at h;exact⟨Gx a hy _,by rw[<- Act.put_comm a v undef h2];exact h⟩
theorem Zju{s i:Nat}{oi:Oper}{v:Value}{Q:Act->World->Prop}(hi:ops[i]?=some oi)(his:i≠s)(gj:Zbn oi.op=true)(hsel:∀ (j:Nat) (o:Oper) cs b,ops[j]?=some o->o.op ≠ .select cs b):
  ∀ (f:Nat) (listed:Array Bool) (a:Act) (w:World),RInv md ops listed ->
   (∀ j oj,ops[j]?=some oj->j≠i->listed.getD j true=false->(∀ e∈oj.after,Region.binds md e=true->e.on≠i)->oi.apart ops oj=true) ->
   i∈Region.ready md ops listed->Zai P ops md C s i oi v a->Zdk C s listed w ->
   Qdz P md ops C s Q f (listed.setIfInBounds i true) (a.put oi.dst v) w->Qdz P md ops C s Q (f+1) listed a w:=by
 intro f
 induction f with
 | zero =>
  intro listed a w inv _ hr hy hs H;refine⟨fun h=>(by rw[h] at hr;cases hr),fun j hj=>?_⟩
  by_cases GV:j=i
  ·subst GV;exact Zqj hi gj inv hr hs hy ⟨hs.imp (fun h=>getD_set_true h) id,H⟩
  ·have:=ready_mono hj GV
   rw[H.1] at this;cases this
 | succ f ih =>
  intro listed a w inv hfree hr hy hs H;have Fn:=(mem_ready.1 hr).1;refine⟨fun h=>(by rw[h] at hr;cases hr),fun j hj=>?_⟩
  by_cases GV:j=i
  ·subst GV;exact Zqj hi gj inv hr hs hy ⟨hs.imp (fun h=>getD_set_true h) id,H⟩
  ·have h1:=H.2 j (ready_mono hj GV);obtain⟨hjun,oj,dh,gW⟩:=mem_ready.1 hj;have Ei:∀ e∈oj.after,Region.binds md e=true->e.on≠i:=fun e he hb heq=>by
    have h1:=gW e he hb;rw[heq,getD_both Fn] at h1;cases h1
   have h2:=Zx1 dh (hfree j oj dh GV hjun Ei) (fun cs b=>hsel i oi cs b hi) (fun cs b=>hsel j oj cs b dh) hy h1;have Fd:∀ k ok,ops[k]?=some ok->k≠i->(listed.setIfInBounds j true).getD k true=false ->
     (∀ e∈ok.after,Region.binds md e=true->e.on≠i)->oi.apart ops ok=true:=fun k ok hk dj Fn bd=>by
    refine hfree k ok hk dj ?_ bd
    by_cases dP:j=k
    ·subst dP;exact hjun
    ·rw[getD_set_ne true dP] at Fn;exact Fn
   have FU:=ready_mono hr (Ne.symm GV);refine wpOp_mono (fun a' w' h3=>?_) h2;obtain⟨hy',ER,H'⟩:=h3;have GU:Zdk C s (listed.setIfInBounds j true) w':=by
    rcases ER with h|h
    ·rw[Array.setIfInBounds_comm _ _ (Ne.symm GV),getD_set_ne false his] at h;exact .inl h
    ·exact .inr h
   refine⟨GU,ih (listed.setIfInBounds j true) a' w' (inv.set hj) Fd FU hy' GU ?_⟩;rw[Array.setIfInBounds_comm _ _ GV];exact H'
def ordB (md:Region.Mode) (ops:Array Oper) (s:Nat):List (Nat×Nat)->Array Bool->Bool
 | [],listed=>(Region.ready md ops listed).isEmpty
 | (k,i)::l,listed =>
  (if k=0 then decide (Region.ready md ops listed=[i])
  else (Region.ready md ops listed).contains i&&Region.free md ops listed i&&(match ops[i]? with | some o=>Zbn o.op | none=>false)&&decide (i≠s)&&(k==2||reachB md ops 4 s i)) &&
  ordB md ops s l (listed.setIfInBounds i true)
def walkR (P:Program) (ops:Array Oper) (C:World->Prop) (s:Nat) (Q:Act->World->Prop):List (Nat×Nat)->Bool->Act->World->Prop
 | [],_,a,w=>Q a w
 | (k,i)::l,b,a,w =>
  if k=0 then wpList P ops (fun e a' w'=>e = .normal/\((b||i==s)=true\/C w')/\walkR P ops C s Q l (b||i==s) a' w') (ops[i]?).toList a w
  else if k=2 then wpQuiet P ops (fun _=>True) (fun a'=>walkR P ops C s Q l b a' w) (ops[i]?).toList a
  else wpQuiet P ops C (fun a'=>walkR P ops C s Q l b a' w) (ops[i]?).toList a
theorem qOp_of_list{i:Nat}{o:Oper}{a:Act}{D:World->Prop}{K:Act->Prop}(hi:ops[i]?=some o)(h:wpQuiet P ops D K (ops[i]?).toList a):qOp P ops D i K a:=by
 rw[hi] at h;unfold qOp;simp only[hi];exact h
theorem Zh5{s:Nat}{Q:Act->World->Prop}(hsel:Region.noSelect ops=true):
  ∀ (l:List (Nat×Nat)) (listed:Array Bool) (a:Act) (w:World),RInv md ops listed->Zdk C s listed w->ordB md ops s l listed=true ->
   walkR P ops C s Q l (listed.getD s false) a w->Qdz P md ops C s Q l.length listed a w
 | [],listed,a,w,_,_,hB,h=>⟨by simpa [ordB] using hB,h⟩
 | (k,i)::l,listed,a,w,inv,hs,hB,h=>by
  simp only[ordB,Bool.and_eq_true] at hB;obtain⟨GN,hB2⟩:=hB
  by_cases hk:k=0
  ·subst hk;simp only[if_true,decide_eq_true_eq] at GN;have hr:i∈Region.ready md ops listed:=by rw[GN];exact List.mem_singleton.2 rfl
   have dm:(listed.setIfInBounds i true).getD s false=(listed.getD s false||i==s):=by
    by_cases his:i=s
    ·subst his;obtain⟨Fn,o,ho,_⟩:=mem_ready.1 hr;have H7:i<listed.size:=by rw[inv.size];exact(Array.getElem?_eq_some_iff.1 ho).1
     simp[H7]
    ·rw[getD_set_ne false his];simp[his]
   refine⟨by rw[GN];simp,fun j hj=>?_⟩;rw[GN] at hj;obtain rfl:=List.mem_singleton.1 hj;obtain⟨Fn,o,ho,_⟩:=mem_ready.1 hr;simp only[walkR,if_true,ho,Option.toList] at h;have h2:wpOp P ops (fun e a' w'=>e = .normal/\((listed.getD s false||j==s)=true\/C w')/\walkR P ops C s Q l (listed.getD s false||j==s) a' w') j (fun a' w'=>((listed.getD s false||j==s)=true\/C w')/\walkR P ops C s Q l (listed.getD s false||j==s) a' w') a w:=by
    unfold wpOp;simp only[ho];simp only[wpList,true_and] at h;exact h
   have h3:=wpOp_strong (fun e a' w' hq=>hq.1) h2;refine wpOp_mono (fun a' w' h4=>?_) h3;have GU:Zdk C s (listed.setIfInBounds j true) w':=by unfold Zdk;rw[dm];exact h4.1
   exact⟨GU,Zh5 hsel l _ a' w' (inv.set hr) GU hB2 (by rw[dm];exact h4.2)⟩
  ·rw[if_neg hk] at GN;simp only[Bool.and_eq_true,decide_eq_true_eq,Bool.or_eq_true,beq_iff_eq] at GN;obtain⟨⟨⟨⟨hr,hf⟩,gj⟩,his⟩,hw⟩:=GN;have FU:i∈Region.ready md ops listed:=by simpa using hr
   obtain⟨_,o,ho,_⟩:=mem_ready.1 FU;have Dl:Zbn o.op=true:=by rw[ho] at gj;exact gj
   have dm:(listed.setIfInBounds i true).getD s false=listed.getD s false:=getD_set_ne false his;have GU:Zdk C s (listed.setIfInBounds i true) w:=by unfold Zdk;rw[dm];exact hs
   simp only[walkR,if_neg hk] at h;have et:∃ v,Zai P ops md C s i o v a/\walkR P ops C s Q l (listed.getD s false) (a.put o.dst v) w:=by
    by_cases h2:k=2
    ·rw[if_pos h2] at h;obtain⟨v,hy,hK⟩:=yieldsIn_of_qOp ho (qOp_of_list ho h);exact⟨v,.inr hy,hK⟩
    ·rw[if_neg h2] at h;obtain⟨v,hy,hK⟩:=yieldsIn_of_qOp ho (qOp_of_list ho h);exact⟨v,.inl ⟨hw.resolve_left h2,hy⟩,hK⟩
   obtain⟨v,hy,hK⟩:=et;exact Zju ho his Dl (Region.noSelect_spec hsel) l.length listed a w inv (Region.free_spec ho hf) FU hy hs
    (Zh5 hsel l _ _ w (inv.set FU) GU hB2 (by rw[dm];exact hK))
theorem pick_one:∀ (l:List Oper) (i:Nat),(l.toArray[i]?).toList=(l.drop i).take 1
 | [],i=>by simp
 | o::l,0=>by simp
 | o::l,i+1=>by
  have:=pick_one l i
  simpa using this
theorem walkR_read{s i:Nat}{Q:Act->World->Prop}{l:List (Nat×Nat)}{b:Bool}{a:Act}{w:World}{lo:List Oper}(h:wpQuiet P lo.toArray C (fun a'=>walkR P lo.toArray C s Q l b a' w) ((lo.drop i).take 1) a):walkR P lo.toArray C s Q ((1,i)::l) b a w:=by
 simp only[walkR,pick_one];exact h
theorem walkR_any{s i:Nat}{Q:Act->World->Prop}{l:List (Nat×Nat)}{b:Bool}{a:Act}{w:World}{lo:List Oper}(h:wpQuiet P lo.toArray (fun _=>True) (fun a'=>walkR P lo.toArray C s Q l b a' w) ((lo.drop i).take 1) a):walkR P lo.toArray C s Q ((2,i)::l) b a w:=by
 simp only[walkR,pick_one];exact h
theorem walkR_move{s i:Nat}{Q:Act->World->Prop}{l:List (Nat×Nat)}{b:Bool}{a:Act}{w:World}{lo:List Oper}
  (h:wpList P lo.toArray (fun e a' w'=>e = .normal/\((b||i==s)=true\/C w')/\walkR P lo.toArray C s Q l (b||i==s) a' w') ((lo.drop i).take 1) a w):walkR P lo.toArray C s Q ((0,i)::l) b a w:=by
 simp only[walkR,pick_one];exact h
theorem wp_region_readers{id:Nat}{Q:Exit->Act->World->Prop}{a:Act}{w:World}{l:List Oper}(s:Nat)(ord:List (Nat×Nat))(C:World->Prop)(hm:P.follows .mixedOrders=true)
  (hB:(Region.noSelect l.toArray&&decide (ord.length=l.length)&&ordB .any l.toArray s ord (Array.replicate l.length false))=true)
  (hC:C { w with drawn:=w.drawn+1 }) (h:walkR P l.toArray C s (fun a' w'=>Q .normal a' w') ord false a { w with drawn:=w.drawn+1 }):(Code.region id l.toArray true).wp P Q a w:=by
 simp only[Bool.and_eq_true,decide_eq_true_eq] at hB;obtain⟨⟨hsel,gd⟩,hord⟩:=hB;refine wp_region_any hm ?_;have Da:RInv .any l.toArray (Array.replicate l.length false):=⟨by simp,fun j oj _ hl=>(by rw[getD_replicate_false] at hl;cases hl)⟩;have H:=Zh5 (md := .any) hsel ord _ a _ Da (.inr hC) hord (by rw[getD_replicate_false];exact h);have:=Zlj (Q':=Q) (fun a w h=>h) _ _ _ _ H
 rw[gd] at this
 simpa using this
end
section
variable {P:Program} {ops:Array Oper} {md:Region.Mode} {C:World->Prop}
inductive Zc3 where
 | nil:Zc3
 | rd:Nat->Nat->Zc3->Zc3
 | mv:Nat->Zc3->Zc3
 | two:Nat->Nat->Zc3->Zc3->Zc3
def Zc3.len:Zc3->Nat
 | .nil=>0
 | .rd _ _ t=>t.len+1
 | .mv _ t=>t.len+1
 | .two _ _ t _=>t.len+1
def Zxv (md:Region.Mode) (ops:Array Oper) (s:Nat):Zc3->Array Bool->Bool
 | .nil,listed=>(Region.ready md ops listed).isEmpty
 | .rd k i t,listed =>
  ((Region.ready md ops listed).contains i&&Region.free md ops listed i&&(match ops[i]? with | some o=>Zbn o.op | none=>false)&&decide (i≠s)&&(k==2||reachB md ops 4 s i)) &&
  Zxv md ops s t (listed.setIfInBounds i true)
 | .mv i t,listed=>decide (Region.ready md ops listed=[i])&&Zxv md ops s t (listed.setIfInBounds i true)
 | .two i j t u,listed=>(decide (Region.ready md ops listed=[i,j])&&decide (t.len=u.len))&&(Zxv md ops s t (listed.setIfInBounds i true)&&Zxv md ops s u (listed.setIfInBounds j true))
def walkT (P:Program) (ops:Array Oper) (C:World->Prop) (s:Nat) (Q:Act->World->Prop):Zc3->Bool->Act->World->Prop
 | .nil,_,a,w=>Q a w
 | .rd k i t,b,a,w=>if k=2 then wpQuiet P ops (fun _=>True) (fun a'=>walkT P ops C s Q t b a' w) (ops[i]?).toList a else wpQuiet P ops C (fun a'=>walkT P ops C s Q t b a' w) (ops[i]?).toList a
 | .mv i t,b,a,w=>wpList P ops (fun e a' w'=>e = .normal/\((b||i==s)=true\/C w')/\walkT P ops C s Q t (b||i==s) a' w') (ops[i]?).toList a w
 | .two i j t u,b,a,w =>
  wpList P ops (fun e a' w'=>e = .normal/\((b||i==s)=true\/C w')/\walkT P ops C s Q t (b||i==s) a' w') (ops[i]?).toList a w /\
  wpList P ops (fun e a' w'=>e = .normal/\((b||j==s)=true\/C w')/\walkT P ops C s Q u (b||j==s) a' w') (ops[j]?).toList a w
theorem Zf9{s i:Nat}{listed:Array Bool}(inv:RInv md ops listed)(hr:i∈Region.ready md ops listed):(listed.setIfInBounds i true).getD s false=(listed.getD s false||i==s):=by
 by_cases his:i=s
 ·subst his;obtain⟨Fn,o,ho,_⟩:=mem_ready.1 hr;have H7:i<listed.size:=by rw[inv.size];exact(Array.getElem?_eq_some_iff.1 ho).1
  simp[H7]
 ·rw[getD_set_ne false his];simp[his]
theorem Zn1{s j:Nat}{K:Act->World->Prop}{listed:Array Bool}{a:Act}{w:World}(inv:RInv md ops listed)(hr:j∈Region.ready md ops listed)
  (h:wpList P ops (fun e a' w'=>e = .normal/\((listed.getD s false||j==s)=true\/C w')/\K a' w') (ops[j]?).toList a w) :
  wpOp P ops (fun _ _ _=>False) j (fun a' w'=>Zdk C s (listed.setIfInBounds j true) w'/\K a' w') a w:=by
 obtain⟨Fn,o,ho,_⟩:=mem_ready.1 hr;simp only[ho,Option.toList] at h;have h2:wpOp P ops (fun e a' w'=>e = .normal/\((listed.getD s false||j==s)=true\/C w')/\K a' w') j (fun a' w'=>((listed.getD s false||j==s)=true\/C w')/\K a' w') a w:=by
  unfold wpOp;simp only[ho];simp only[wpList,true_and] at h;exact h
 have h3:=wpOp_strong (fun e a' w' hq=>hq.1) h2;refine wpOp_mono (fun a' w' h4=>⟨?_,h4.2⟩) h3;unfold Zdk;rw[Zf9 inv hr];exact h4.1
theorem Zc2{s:Nat}{Q:Act->World->Prop}(hsel:Region.noSelect ops=true):
  ∀ (l:Zc3) (listed:Array Bool) (a:Act) (w:World),RInv md ops listed->Zdk C s listed w->Zxv md ops s l listed=true ->
   walkT P ops C s Q l (listed.getD s false) a w->Qdz P md ops C s Q l.len listed a w
 | .nil,listed,a,w,_,_,hB,h=>⟨by simpa [Zxv] using hB,h⟩
 | .mv i t,listed,a,w,inv,hs,hB,h=>by
  simp only[Zxv,Bool.and_eq_true,decide_eq_true_eq] at hB;obtain⟨GN,hB2⟩:=hB;have hr:i∈Region.ready md ops listed:=by rw[GN];exact List.mem_singleton.2 rfl
  refine⟨by rw[GN];simp,fun j hj=>?_⟩;rw[GN] at hj;obtain rfl:=List.mem_singleton.1 hj;refine wpOp_mono (fun a' w' h4=>⟨h4.1,Zc2 hsel t _ a' w' (inv.set hr) h4.1 hB2 ?_⟩) (Zn1 inv hr h);rw[Zf9 inv hr];exact h4.2
 | .two i k t u,listed,a,w,inv,hs,hB,h=>by
  simp only[Zxv,Bool.and_eq_true,decide_eq_true_eq] at hB;obtain⟨⟨GN,gd⟩,hB2,MB⟩:=hB;have hr:i∈Region.ready md ops listed:=by rw[GN];simp
  have df:k∈Region.ready md ops listed:=by rw[GN];simp
  refine⟨by rw[GN];simp,fun j hj=>?_⟩;rw[GN] at hj;simp only[List.mem_cons,List.not_mem_nil,or_false] at hj
  by_cases GV:j=i
  ·subst GV;refine wpOp_mono (fun a' w' h4=>⟨h4.1,Zc2 hsel t _ a' w' (inv.set hr) h4.1 hB2 ?_⟩) (Zn1 inv hr h.1);rw[Zf9 inv hr];exact h4.2
  ·have dP:j=k:=hj.resolve_left GV;subst dP;have:=wpOp_mono (fun a' w' (h4:Zdk C s (listed.setIfInBounds j true) w'/\walkT P ops C s Q u (listed.getD s false||j==s) a' w')=>(⟨h4.1,Zc2 hsel u _ a' w' (inv.set df) h4.1 MB (by rw[Zf9 inv df];exact h4.2)⟩:Zdk C s (listed.setIfInBounds j true) w'/\Qdz P md ops C s Q u.len (listed.setIfInBounds j true) a' w')) (Zn1 inv df h.2)
   rw[<- gd] at this;exact this
 | .rd k i t,listed,a,w,inv,hs,hB,h=>by
  simp only[Zxv,Bool.and_eq_true] at hB;obtain⟨GN,hB2⟩:=hB;simp only[decide_eq_true_eq,Bool.or_eq_true,beq_iff_eq] at GN;obtain⟨⟨⟨⟨hr,hf⟩,gj⟩,his⟩,hw⟩:=GN;have FU:i∈Region.ready md ops listed:=by simpa using hr
  obtain⟨_,o,ho,_⟩:=mem_ready.1 FU;have Dl:Zbn o.op=true:=by rw[ho] at gj;exact gj
  have dm:(listed.setIfInBounds i true).getD s false=listed.getD s false:=getD_set_ne false his;have GU:Zdk C s (listed.setIfInBounds i true) w:=by unfold Zdk;rw[dm];exact hs
  simp only[walkT] at h;have et:∃ v,Zai P ops md C s i o v a/\walkT P ops C s Q t (listed.getD s false) (a.put o.dst v) w:=by
   by_cases h2:k=2
   ·rw[if_pos h2] at h;obtain⟨v,hy,hK⟩:=yieldsIn_of_qOp ho (qOp_of_list ho h);exact⟨v,.inr hy,hK⟩
   ·rw[if_neg h2] at h;obtain⟨v,hy,hK⟩:=yieldsIn_of_qOp ho (qOp_of_list ho h);exact⟨v,.inl ⟨hw.resolve_left h2,hy⟩,hK⟩
  obtain⟨v,hy,hK⟩:=et;exact Zju ho his Dl (Region.noSelect_spec hsel) t.len listed a w inv (Region.free_spec ho hf) FU hy hs
   (Zc2 hsel t _ _ w (inv.set FU) GU hB2 (by rw[dm];exact hK))
theorem walkT_read{s i:Nat}{Q:Act->World->Prop}{l:Zc3}{b:Bool}{a:Act}{w:World}{lo:List Oper}(h:wpQuiet P lo.toArray C (fun a'=>walkT P lo.toArray C s Q l b a' w) ((lo.drop i).take 1) a):walkT P lo.toArray C s Q (.rd 1 i l) b a w:=by
 simp only[walkT,pick_one];exact h
theorem walkT_move{s i:Nat}{Q:Act->World->Prop}{l:Zc3}{b:Bool}{a:Act}{w:World}{lo:List Oper}
  (h:wpList P lo.toArray (fun e a' w'=>e = .normal/\((b||i==s)=true\/C w')/\walkT P lo.toArray C s Q l (b||i==s) a' w') ((lo.drop i).take 1) a w):walkT P lo.toArray C s Q (.mv i l) b a w:=by
 simp only[walkT,pick_one];exact h
theorem walkT_two{s i j:Nat}{Q:Act->World->Prop}{l m:Zc3}{b:Bool}{a:Act}{w:World}{lo:List Oper}
  (h1:wpList P lo.toArray (fun e a' w'=>e = .normal/\((b||i==s)=true\/C w')/\walkT P lo.toArray C s Q l (b||i==s) a' w') ((lo.drop i).take 1) a w)
  (h2:wpList P lo.toArray (fun e a' w'=>e = .normal/\((b||j==s)=true\/C w')/\walkT P lo.toArray C s Q m (b||j==s) a' w') ((lo.drop j).take 1) a w):walkT P lo.toArray C s Q (.two i j l m) b a w:=by
 simp only[walkT,pick_one];exact⟨h1,h2⟩
theorem wp_region_tree{id:Nat}{Q:Exit->Act->World->Prop}{a:Act}{w:World}{l:List Oper}(s:Nat)(ord:Zc3)(C:World->Prop)(hm:P.follows .mixedOrders=true)
  (hB:(Region.noSelect l.toArray&&decide (ord.len=l.length)&&Zxv .any l.toArray s ord (Array.replicate l.length false))=true)
  (hC:C { w with drawn:=w.drawn+1 }) (h:walkT P l.toArray C s (fun a' w'=>Q .normal a' w') ord false a { w with drawn:=w.drawn+1 }):(Code.region id l.toArray true).wp P Q a w:=by
 simp only[Bool.and_eq_true,decide_eq_true_eq] at hB;obtain⟨⟨hsel,gd⟩,hord⟩:=hB;refine wp_region_any hm ?_;have Da:RInv .any l.toArray (Array.replicate l.length false):=⟨by simp,fun j oj _ hl=>(by rw[getD_replicate_false] at hl;cases hl)⟩;have H:=Zc2 (md := .any) hsel ord _ a _ Da (.inr hC) hord (by rw[getD_replicate_false];exact h);have:=Zlj (Q':=Q) (fun a w h=>h) _ _ _ _ H
 rw[gd] at this
 simpa using this
end
end Go.Proofs.YtbielfplgbammaaGreatDoor.RP
namespace Go.Proofs.YtbielfplgbammaaGreatDoor
open Go.RowKit
theorem Qgi {lo : List Oper} {i : Nat} {o : Oper} (h : lo[i]? = some o) : (lo.drop i).take 1 = [o] := by
  rw [List.take_one, List.head?_drop, h]; rfl
theorem wr_ {P : Program} {C : World -> Prop} {s i : Nat} {Q : Act -> World -> Prop} {l : List (Nat × Nat)} {b : Bool} {a : Act} {w : World} {lo : List Oper} {o : Oper} (ho : lo[i]? = some o) (h : wpQuiet P lo.toArray C (fun a' => RP.walkR P lo.toArray C s Q l b a' w) [o] a) : RP.walkR P lo.toArray C s Q ((1, i) :: l) b a w := RP.walkR_read (by rw [Qgi ho]; exact h)
theorem wa_ {P : Program} {C : World -> Prop} {s i : Nat} {Q : Act -> World -> Prop} {l : List (Nat × Nat)} {b : Bool} {a : Act} {w : World} {lo : List Oper} {o : Oper} (ho : lo[i]? = some o) (h : wpQuiet P lo.toArray (fun _ => True) (fun a' => RP.walkR P lo.toArray C s Q l b a' w) [o] a) : RP.walkR P lo.toArray C s Q ((2, i) :: l) b a w := RP.walkR_any (by rw [Qgi ho]; exact h)
theorem wm_ {P : Program} {C : World -> Prop} {s i : Nat} {Q : Act -> World -> Prop} {l : List (Nat × Nat)} {b : Bool} {a : Act} {w : World} {lo : List Oper} {o : Oper} (ho : lo[i]? = some o) (h : wpList P lo.toArray (fun e a' w' => e = .normal /\ ((b || i == s) = true \/ C w') /\ RP.walkR P lo.toArray C s Q l (b || i == s) a' w') [o] a w) : RP.walkR P lo.toArray C s Q ((0, i) :: l) b a w := RP.walkR_move (by rw [Qgi ho]; exact h)
theorem wq_ {P : Program} {ops : Array Oper} {C : World -> Prop} {K : Act -> Prop} {a : Act} (h : K a) : wpQuiet P ops C K [] a := wpQuiet_nil h
def Ql (l:List Rat):Nat:=l.foldl (fun d q=>Nat.lcm d q.den) 1
def Qo (D:Nat) (ps:List Int) (l:List Rat):List (Int×Int) :=
 (ps.zip l).filterMap fun x=>if x.2.num=0 then none else some (x.1,x.2.num*((D/x.2.den:Nat):Int))
theorem Zgx(l:List Rat)(k:Nat)(h:k<l.length):Ql (l.take (k+1))=Nat.lcm (Ql (l.take k)) l[k].den:=by
 unfold Ql;rw[List.take_add_one,List.getElem?_eq_getElem h,List.foldl_append];rfl
theorem Zj3(l:List Rat):∀ k,k<=l.length->0<Ql (l.take k)
 | 0,_=>Nat.one_pos
 | k+1,h=>by
  rw[Zgx l k (by omega)];exact Nat.lcm_pos (Zj3 l k (by omega)) l[k].den_pos
theorem Zj4(l:List Rat)(D:Nat)(hs:∀ q∈l,Sm D q):∀ k,k<=l.length->Ql (l.take k)<10^(1+k*D)
 | 0,_=>by show 1<10^(1+0*D);rw[Nat.zero_mul];decide
 | k+1,h=>by
  rw[Zgx l k (by omega)];have h1:=Zj4 l D hs k (by omega);have h2:=(hs _ (List.getElem_mem (show k<l.length by omega))).2;have h3:=Qd h1 h2;have h4:Nat.lcm (Ql (l.take k)) l[k].den<=Ql (l.take k)*l[k].den:=Nat.le_of_dvd (Nat.mul_pos (Zj3 l k (by omega)) l[k].den_pos) (Nat.lcm_dvd_mul _ _);rw[show 1+(k+1)*D=1+k*D+D by rw[Nat.add_mul];omega];omega
theorem Zrv(D:Nat)(ps:List Int)(l:List Rat)(k:Nat)(h1:k<ps.length)(h2:k<l.length):
  Qo D (ps.take (k+1)) (l.take (k+1))=Qo D (ps.take k) (l.take k)++(if l[k].num=0 then [] else [(ps[k],l[k].num*((D/l[k].den:Nat):Int))]):=by
 unfold Qo;have e:∀ n,(ps.take n).zip (l.take n)=(ps.zip l).take n:=fun n=>(List.take_zipWith ..).symm
 rw[e,e,List.take_add_one,List.getElem?_eq_getElem (by rw[List.length_zip];omega),List.filterMap_append];congr 1;rw[List.getElem_zip]
 by_cases h:l[k].num=0
 ·rw[if_pos h]
  show List.filterMap _ [(ps[k],l[k])]=[]
  rw[List.filterMap_cons];rw[if_pos h];rfl
 ·rw[if_neg h]
  show List.filterMap _ [(ps[k],l[k])]=_
  rw[List.filterMap_cons];rw[if_neg h];rfl
theorem Zfm(D:Nat)(ps:List Int)(l:List Rat):(Qo D ps l).length<=l.length:=by
 unfold Qo;refine Nat.le_trans (List.length_filterMap_le _ _) ?_;rw[List.length_zip];omega
def Zdp (l:List ByteArray):List Value:=l.map Value.string
theorem Zp(l:List ByteArray):(Zdp l).length=l.length:=by simp[Zdp]
theorem Zaw(l m:List ByteArray):Zdp (l++m)=Zdp l++Zdp m:=by simp[Zdp]
def Zub (v1 v2:Value) (d:Nat):Value := .agg #[v1,v2,.string (dec d)]
def Zp4 (v1 v2:Value) (s:ByteArray):Obj := .cells #[v1,v2,.string s] 146
theorem Qfn:(Tryz.prog.info? 3).map (fun i=>(i.zero,i.size,i.bytes))=some (some (.int .i64 0),1,8):=by kernel_rfl
theorem Qfk:(Tryz.prog.info? 38).map (fun i=>(i.zero,i.size,i.bytes))=some (some (.string ⟨#[]⟩),1,16):=by kernel_rfl
theorem Kz{w:World}{g:Nat}{a b c:Value}{t:TypeId}(h:w.heap[g]?=some (.cells #[a,b,c] t (0,0))):
  w.cell? ⟨g,0,none⟩=some a/\w.cell? ⟨g,1,none⟩=some b/\w.cell? ⟨g,2,none⟩=some c/\(∀ j,w.frozen? ⟨g,j,none⟩=false):=by
 refine⟨by rw[cell_of_row w g 0 _ t (0,0) h];rfl,by rw[cell_of_row w g 1 _ t (0,0) h];rfl,by rw[cell_of_row w g 2 _ t (0,0) h];rfl,fun j=>?_⟩;simp[World.frozen?,h]
theorem Zqo{w:World}{base n c:Nat}{e:TypeId}{a:OA_}{xs:List Value}(h:w.ownsRow base e 1 (.slice a n c) n xs):Rd w a xs:=by
 have gd:=h.1
 by_cases hn:0<n
 ·obtain⟨g,cap,hv,h1,h2,h3,h4,h5⟩:=Qy h hn;simp only[Value.slice.injEq] at hv;obtain⟨rfl,-,rfl⟩:=hv;refine .inr ⟨g,0,rfl,h2,fun i v hi=>?_⟩;rw[Nat.zero_add,h4 i (by have:=(List.getElem?_eq_some_iff.1 hi).1;omega)];exact hi
 ·exact .inl (List.eq_nil_of_length_eq_zero (by omega))
def Qay (w:World) (tl:List (Int×Int)) (D:Nat) (e:Ending) (w':World):Prop :=
 ∃ b1 d1 b2 d2,e = .returned (Zub (.slice b1 tl.length d1) (.slice b2 tl.length d2) D)/\Rd w' b1 (Vk (tl.map Prod.fst))/\Rd w' b2 (Zdp (tl.map fun x=>itx x.2))/\Bw_ w w'
theorem Zcw{w:World}{g:Nat}{cs:Array Value}{t:TypeId}(h:w.heap[g]?=some (.cells cs t (0,0)))(j:Nat)(x:Value):
  (w.setCell ⟨g,j,none⟩ x).heap[g]?=some (.cells (cs.setIfInBounds j x) t (0,0)):=by
 simp[World.setCell,Array.getElem?_modify,h]
theorem Za0{w:World}{g k:Nat}(h:g≠k)(j:Nat)(x:Value):(w.setCell ⟨g,j,none⟩ x).heap[k]?=w.heap[k]?:=by
 simp[World.setCell,Array.getElem?_modify,h]
structure TW (b5 g9:Nat) (v1 v2 v3 x0 x1:Value) (p:Addr) (vp:Value) where
 w:World
 h5:w.heap[b5]?=some (.cells #[v1,v2,v3] 146 (0,0))
 h9:w.heap[g9]?=some (.cells #[x0,x1] 101 (0,0))
 hp:w.cell? p=some vp
section
variable {b5 g9:Nat} {v1 v2 v3 x0 x1:Value} {p:Addr} {vp:Value}
theorem TW.q0(t:TW b5 g9 v1 v2 v3 x0 x1 p vp):t.w.cell? ⟨b5,0,none⟩=some v1:=(Kz t.h5).1
theorem TW.q1(t:TW b5 g9 v1 v2 v3 x0 x1 p vp):t.w.cell? ⟨b5,1,none⟩=some v2:=(Kz t.h5).2.1
theorem TW.q2(t:TW b5 g9 v1 v2 v3 x0 x1 p vp):t.w.cell? ⟨g9,0,none⟩=some x0:=(Ka t.h9).1
end
structure TT (w:World) (s1 s2:Value) (D:Nat) (V1:Value) (n1:Nat) (L1:List Value) (V2:Value) (n2:Nat) (L2:List Value) (wr:World):Prop where
 h4:wr.heap[w.heap.size]?=some (Zp4 (.slice none 0 0) (.slice none 0 0) ⟨#[]⟩)
 h5:wr.heap[w.heap.size+1]?=some (Zp4 s1 s2 (dec D))
 o1:wr.ownsRow (w.heap.size+2) 3 1 V1 n1 L1
 o2:wr.ownsRow (w.heap.size+2) 38 1 V2 n2 L2
 ap:∀ k,V1.ownBlock=some k->V2.ownBlock≠some k
 bel:Bw_ w wr
 siz:w.heap.size+2<=wr.heap.size
section
variable {w:World} {s1 s2:Value} {D:Nat} {V1:Value} {n1:Nat} {L1:List Value} {V2:Value} {n2:Nat} {L2:List Value} {wr:World}
theorem TT.next{w':World}(h:TT w s1 s2 D V1 n1 L1 V2 n2 L2 wr)(hb:Bw_ wr w'):TT w s1 s2 D V1 n1 L1 V2 n2 L2 w' :=
 ⟨(hb.block _ (Array.getElem?_eq_some_iff.1 h.h4).1).trans h.h4,(hb.block _ (Array.getElem?_eq_some_iff.1 h.h5).1).trans h.h5,Kv h.o1 hb nr_,Kv h.o2 hb nr_,h.ap,h.bel.trans (hb.mono h.bel.size),Nat.le_trans h.siz hb.size⟩
theorem TT.grow1{w':World}(h:TT w s1 s2 D V1 n1 L1 V2 n2 L2 wr){V':Value}{n':Nat}{L':List Value}(own:w'.ownsRow (w.heap.size+2) 3 1 V' n' L')(hg:wr.grownBy w' V1.ownBlock)
  (dC:V'.ownBlock=V1.ownBlock\/V'.ownBlock=some wr.heap.size):TT w s1 s2 D V' n' L' V2 n2 L2 w':=by
 have Gt:∀ k,k<w.heap.size+2->w'.heap[k]?=wr.heap[k]?:=fun k hk=>hg.block k (by have:=h.siz;omega) (fun e=>by have:=(World.ownsRow.lt h.o1 k e.symm).1;omega)
 refine⟨(Gt _ (by omega)).trans h.h4,(Gt _ (by omega)).trans h.h5,own,?_,?_,?_,Nat.le_trans h.siz hg.size⟩
 ·refine World.ownsRow.kept h.o2 hg ?_;cases hv:V1.ownBlock with
  | none=>cases hv2:V2.ownBlock<;>simp
  | some k=>exact .inr (h.ap k hv)
 ·intro k hk;rcases dC with e|e
  ·exact h.ap k (by rw[<- e];exact hk)
  ·intro h2;have h3:=(World.ownsRow.lt h.o2 k h2).2;rw[e] at hk;injection hk with hk
   omega
 ·exact h.bel.grown hg (by have:=h.siz;omega) (fun k hk=>by have:=(World.ownsRow.lt h.o1 k hk).1;omega)
theorem TT.grow2{w':World}(h:TT w s1 s2 D V1 n1 L1 V2 n2 L2 wr){V':Value}{n':Nat}{L':List Value}(own:w'.ownsRow (w.heap.size+2) 38 1 V' n' L')(hg:wr.grownBy w' V2.ownBlock)
  (dC:V'.ownBlock=V2.ownBlock\/V'.ownBlock=some wr.heap.size):TT w s1 s2 D V1 n1 L1 V' n' L' w':=by
 have Gt:∀ k,k<w.heap.size+2->w'.heap[k]?=wr.heap[k]?:=fun k hk=>hg.block k (by have:=h.siz;omega) (fun e=>by have:=(World.ownsRow.lt h.o2 k e.symm).1;omega)
 refine⟨(Gt _ (by omega)).trans h.h4,(Gt _ (by omega)).trans h.h5,?_,own,?_,?_,Nat.le_trans h.siz hg.size⟩
 ·refine World.ownsRow.kept h.o1 hg ?_;cases hv:V2.ownBlock with
  | none=>cases hv2:V1.ownBlock<;>simp
  | some k=>exact .inr (fun h1=>h.ap k h1 hv)
 ·intro k hk;rcases dC with e|e
  ·rw[e];exact h.ap k hk
  ·rw[e];intro h2;have h3:=(World.ownsRow.lt h.o1 k hk).2;injection h2 with h2
   omega
 ·exact h.bel.grown hg (by have:=h.siz;omega) (fun k hk=>by have:=(World.ownsRow.lt h.o2 k hk).1;omega)
theorem TT.store1(h:TT w s1 s2 D V1 n1 L1 V2 n2 L2 wr)(x:Value):TT w x s2 D V1 n1 L1 V2 n2 L2 (wr.setCell ⟨w.heap.size+1,0,none⟩ x):=by
 refine⟨(Za0 (by omega) _ _).trans h.h4,(Zcw h.h5 0 x).trans rfl,?_,?_,h.ap,h.bel.setCell (p:=⟨w.heap.size+1,0,none⟩) (by simp) _,by simpa using h.siz⟩
 ·exact ownsRow_setCell_below h.o1 (by show w.heap.size+1<w.heap.size+2;omega) _
 ·exact ownsRow_setCell_below h.o2 (by show w.heap.size+1<w.heap.size+2;omega) _
theorem TT.store2(h:TT w s1 s2 D V1 n1 L1 V2 n2 L2 wr)(x:Value):TT w s1 x D V1 n1 L1 V2 n2 L2 (wr.setCell ⟨w.heap.size+1,1,none⟩ x):=by
 refine⟨(Za0 (by omega) _ _).trans h.h4,(Zcw h.h5 1 x).trans rfl,?_,?_,h.ap,h.bel.setCell (p:=⟨w.heap.size+1,1,none⟩) (by simp) _,by simpa using h.siz⟩
 ·exact ownsRow_setCell_below h.o1 (by show w.heap.size+1<w.heap.size+2;omega) _
 ·exact ownsRow_setCell_below h.o2 (by show w.heap.size+1<w.heap.size+2;omega) _
end
abbrev TS (w:World) (tl:List (Int×Int)) (D:Nat) (b1:OA_) (d1:Nat) (b2:OA_) (d2:Nat) (wr:World):Prop :=
 TT w (.slice b1 tl.length d1) (.slice b2 tl.length d2) D (.slice b1 tl.length d1) tl.length (Vk (tl.map Prod.fst)) (.slice b2 tl.length d2) tl.length (Zdp (tl.map fun x=>itx x.2)) wr
theorem Znz(w:World)(a1 a2:OA_)(c1 c2:Nat)(ps:List Int)(l:List Rat)(D:Nat)(hp:Rd w a1 (Vk ps))(hr:Rd w a2 (Kk l))(cZ:ps.length=l.length)
  (hs:∀ q∈l,Sm D q) (hl:l.length<=1000) (hD:3+(l.length+2)*D<=900000) (L:Qe w) :
  Calls Tryz.prog 79 #[.slice a1 ps.length c1,.slice a2 l.length c2] w (Qay w (Qo (Ql l) ps l) (Ql l)):=by
 have HL:=hd_ L;have Hs:=hd_ hs;have Hr:=hd_ hr;have Hp:=hd_ hp;have HD:=hd_ hD;have BY:=hd_ cZ;rw[cZ];clear hs hr hp L hD cZ;generalize hn:l.length=n at *;have Hn:=hd_ hn;clear hn;go_enter Tryz.func79,Tryz.ntmps79;go_wp2_with fail
 go_loopw [16] (fun i wr=>∃ k:Nat,k<=n/\i = .int .i64 k/\Hid (wr.heap[w.heap.size]?=some (Zp4 (.slice none 0 0) (.slice none 0 0) ⟨#[]⟩))/\Hid (wr.heap[w.heap.size+1]?=some (Zp4 (.slice none 0 0) (.slice none 0 0) (dec (Ql (l.take k)))))/\Hid (Bw_ w wr)) (fun i _=>n-(intOf i).toNat)
 case atStart =>
  refine⟨0,Nat.zero_le _,rfl,?_,?_,?_⟩
  ·show _=_
   rw[Go.heap_alloc_old _ _ (by simp)];exact Go.heap_alloc_new _ _
  ·show _=_
   have:=Go.heap_alloc_new (w.alloc (Obj.cells #[Value.slice none 0 0,Value.slice none 0 0,Value.string { data := #[] }] 146)) (Obj.cells #[Value.slice none 0 0,Value.slice none 0 0,Value.string { data := #[49] }] 146)
   rw[World.size_alloc] at this;rw[this,show Ql (l.take 0)=1 from rfl,Zt];rfl
  ·exact((Below.refl w.heap.size w).alloc nr_ _).alloc (by simp) _
 case round =>
  obtain⟨k,hk,rfl,H4,H5,Hb⟩:=hrel
  by_cases H7:k<n
  ·have gi:(k:Int)<n:=by omega
   have gU:k<l.length:=by rw[Hn.o];exact H7
   obtain⟨b,off,rfl,hb,hcells⟩:=Hr.o.open (by rw[Ks];omega);obtain⟨c0,c1⟩:=Qf hcells k (by rw[List.length_map];exact gU);rw[<- Hb.o.cell (p:=⟨b,off+k*2,none⟩) hb,Qb _ k gU] at c0;rw[<- Hb.o.cell (p:=⟨b,off+k*2+1,none⟩) hb,Qb _ k gU] at c1;have gI:Hid (Ql (l.take (k+1))=Nat.lcm (Ql (l.take k)) l[k].den):=Zgx l k gU;have Gv:=Hs.o _ (List.getElem_mem gU);have cX:=Zj4 l D Hs.o k (by omega);have JN:k*D<=(n+2)*D:=Nat.mul_le_mul_right _ (by omega);have iw:=HD.o;have FM:=Gv.pos;have jK:1*D<=(n+2)*D:=Nat.mul_le_mul_right _ (by omega);have dJ:Hid (∀ W,Bw_ w W->Kc Tryz.prog 162 #[.string (dec (Ql (l.take k))),.string (dec l[k].den)] W (.string (dec (Nat.lcm (Ql (l.take k)) l[k].den)))):=fun W hW=>by
    have:=Zzm W (Ql (l.take k):Int) (l[k].den:Int) (Kq cX (by omega) (by omega)) (Kq Gv.2 FM (by omega)) (HL.o.below hW)
    rw[Kh,Kh,Int.lcm_natCast_natCast] at this;exact this
   clear hcells Gv cX JN iw FM jK;generalize l[k]=q at *;generalize Ql (l.take k)=d at *;generalize Nat.lcm d q.den=d2 at *;simp only[qs] at c0 c1;have gl:=hd_ (Hb.o.alloc Hb.o.size (.cells #[.string (itx q.num),.string (dec q.den)] 101));have ed:=hd_ ((Below.refl wr.heap.size wr).alloc nr_ (.cells #[.string (itx q.num),.string (dec q.den)] 101));have ge:Hid ((wr.alloc (.cells #[.string (itx q.num),.string (dec q.den)] 101)).heap[wr.heap.size]?=some (.cells #[.string (itx q.num),.string (dec q.den)] 101 (0,0))):=heap_alloc_new wr _;have Jc:=hd_ ((ed.o.block _ (Array.getElem?_eq_some_iff.1 H5.o).1).trans H5.o);have mt:=hd_ ((ed.o.block _ (Array.getElem?_eq_some_iff.1 H4.o).1).trans H4.o);obtain⟨k0,k1,-,-⟩:=Ka ge.o;obtain⟨m0,m1,m2,m3⟩:=Kz Jc.o;clear m3;go_wp2_with fail;generalize wr.alloc (.cells #[.string (itx q.num),.string (dec q.den)] 101)=W0 at *;clear c0 c1 k0 k1 m0 m1 m2 ge H4 H5 ed;refine cm_ (dJ.o _ gl.o) ?_;rintro e w1 ⟨rfl,hZ⟩;have Nj:=hd_ ((hZ.block _ (Array.getElem?_eq_some_iff.1 Jc.o).1).trans Jc.o);have O':=hd_ ((hZ.block _ (Array.getElem?_eq_some_iff.1 mt.o).1).trans mt.o);have H6:=bt_ gl hZ;clear hZ dJ gl Jc mt;obtain⟨m0,m1,m2,m3⟩:=Kz Nj.o;have f2:=m3 2;clear m3;go_wp2
   go_roundw
   case rel =>
    refine⟨k+1,by omega,by go_num,?_,?_,?_⟩
    ·show _=_
     rw[Za0 (by omega)];exact O'.o
    ·show _=_
     rw[Zcw Nj.o,gI.o];rfl
    ·exact H6.o.setCell (p:=⟨w.heap.size+1,2,none⟩) (by simp) _
   case measure=>simp[intOf];omega
  ·have gi:¬ (k:Int)<n:=by omega
   have Cc:k=n:=by omega
   subst Cc;rw[show l.take k=l by rw[<- Hn.o,List.take_length]] at H5;have BT:Hid (TS w (Qo (Ql l) (ps.take 0) (l.take 0)) (Ql l) none 0 none 0 wr) :=
    ⟨H4.o,H5.o,World.ownsRow_nil ..,World.ownsRow_nil ..,fun k hk=>by simp[Value.ownBlock] at hk,Hb.o,(Array.getElem?_eq_some_iff.1 H5.o).1⟩
   have jV:=hd_ (fun j hj=>Zj4 l D Hs.o j hj);clear H4 H5 Hb;go_wp2_with fail;have lr:=Zj3 l l.length nr_;rw[List.take_length] at lr;have OR:=hd_ lr;have nJ:Hid (Ql l<10^(1+k*D)):=by
    show _<_
    have:=jV.o l.length nr_
    rw[List.take_length,Hn.o] at this;exact this
   clear lr jV;have Oq:=hd_ BT.o.bel
   go_loopw [29] (fun i wr=>∃ (j:Nat) (b1:OA_) (d1:Nat) (b2:OA_) (d2:Nat),j<=k/\i = .int .i64 j/\Hid (TS w (Qo (Ql l) (ps.take j) (l.take j)) (Ql l) b1 d1 b2 d2 wr)) (fun i _=>k-(intOf i).toNat)
   case atStart=>exact⟨0,none,0,none,0,Nat.zero_le _,rfl,BT⟩
   case round =>
    obtain⟨j,b1,d1,b2,d2,hj,rfl,ee⟩:=hrel
    by_cases Gc:j<k
    ·have ew:(j:Int)<k:=by omega
     have Ab:j<l.length:=by rw[Hn.o];exact Gc
     have Mb:j<ps.length:=by rw[BY.o];exact Gc
     obtain⟨b,off,rfl,hb,hcells⟩:=Hr.o.open (by rw[Ks];omega);obtain⟨c0,c1⟩:=Qf hcells j (by rw[List.length_map];exact Ab);rw[<- ee.o.bel.cell (p:=⟨b,off+j*2,none⟩) hb,Qb _ j Ab] at c0;rw[<- ee.o.bel.cell (p:=⟨b,off+j*2+1,none⟩) hb,Qb _ j Ab] at c1;have gI:=hd_ (Zrv (Ql l) ps l j Mb Ab);have Gv:=Hs.o _ (List.getElem_mem Ab);have hq:=Zhp l[j].num;obtain⟨bp,op,rfl,ec,hcp⟩:=Hp.o.open (by rw[Qp];omega);have eX:Hid (w.cell? ⟨bp,op+j,none⟩=some (.int .i64 ps[j])):=hcp j _ (Ym ps j Mb);clear hcells hcp;generalize l[j]=q at *;simp only[qs] at c0 c1;have ed:=hd_ ((Below.refl wr.heap.size wr).alloc nr_ (.cells #[.string (itx q.num),.string (dec q.den)] 101));have ge:Hid ((wr.alloc (.cells #[.string (itx q.num),.string (dec q.den)] 101)).heap[wr.heap.size]?=some (.cells #[.string (itx q.num),.string (dec q.den)] 101 (0,0))):=heap_alloc_new wr _;have DI:=hd_ (ee.o.next ed.o);have Lc:=hd_ (fun k hk=>(World.ownsRow.lt ee.o.o1 k hk).2);have lZ:=hd_ (fun k hk=>(World.ownsRow.lt ee.o.o2 k hk).2);have FO:=hd_ (Zfm (Ql l) (ps.take j) (l.take j));obtain⟨k0,k1,-,-⟩:=Ka ge.o
     by_cases hz:q.num=0
     ·rw[if_pos hz,List.append_nil] at gI;rw[decide_eq_true hz] at hq;clear hz ge ed ee Gv;go_wp2
      go_roundw
      case rel=>exact⟨j+1,b1,d1,b2,d2,by omega,by go_num,by rw[gI.o];exact DI⟩
      case measure=>simp[intOf];omega
     ·rw[if_neg hz] at gI;rw[decide_eq_false hz] at hq;clear hz;obtain⟨m0,m1,m2,m3⟩:=Kz DI.o.h5;clear m3;have iw:=HD.o;have FM:=Gv.pos;have JN:(k+2)*D=k*D+2*D:=by rw[Nat.add_mul]
      have ix:10^(1+k*D)<10^(1+k*D+1):=Nat.pow_lt_pow_right (by decide) (by omega);have dx:=nJ.o;have fF:Hid (∀ W,Bw_ w W->Kc Tryz.prog 163 #[.string (dec (Ql l)),.string (dec q.den)] W (.tuple #[.string (dec (Ql l/q.den)),.string (itx ((Ql l:Int)%(q.den:Int))),.int .i64 0])):=fun W hW=>by
       have:=Ys W (Ql l:Int) q.den (Kq dx (by omega) (by omega)) (Kq Gv.2 FM (by omega)) q.den_pos (Kq (D:=1+k*D+1) (show (Ql l+1)<10^(1+k*D+1) by omega) (by omega) (by omega)) (HL.o.below hW)
       rw[Kh,<- Int.natCast_ediv,Kh] at this;exact this
      have Bs:Ql l/q.den<=Ql l:=Nat.div_le_self _ _;have Jy:(q.num*((Ql l/q.den:Nat):Int)).natAbs<10^(D+(1+k*D)):=by
       rw[Int.natAbs_mul];exact Qd Gv.1 (Nat.lt_of_le_of_lt Bs dx)
      have dH:Hid (∀ W,Bw_ w W->Kc Tryz.prog 14 #[.string (itx q.num),.string (dec (Ql l/q.den))] W (.string (itx (q.num*((Ql l/q.den:Nat):Int))))):=fun W hW=>by
       have:=Zf W q.num ((Ql l/q.den:Nat):Int) (Kq Gv.1 FM (by omega)) (Kq (Nat.lt_of_le_of_lt Bs dx) (by omega) (by omega)) (Kq Jy (by omega) (by omega)) (HL.o.below hW)
       rw[Kh] at this;exact this
      clear iw FM JN ix dx Bs Jy Gv;generalize hfq:q.num*((Ql l/q.den:Nat):Int)=fq at *;have Ll:=hd_ hfq;clear hfq;generalize dec (Ql l/q.den)=sq at *;go_wp2_with fail;generalize wr.alloc (.cells #[.string (itx q.num),.string (dec q.den)] 101)=W0 at *;clear c0 c1 k0 k1 m0 m1 m2;refine cm_ (fF.o _ DI.o.bel) ?_;rintro e w1 ⟨rfl,hZ⟩;have eV:=hd_ (Kg ge.o hZ);have DH:=hd_ (DI.o.next hZ);clear hZ fF DI ge ed ee;obtain⟨k0,k1,-,-⟩:=Ka eV.o;obtain⟨m0,m1,m2,m3⟩:=Kz DH.o.h5;have f0:=m3 0;have f1:=m3 1;clear m3;go_wp2_with fail;have j6:Hid (w1.cell? ⟨bp,op+j,none⟩=some (.int .i64 ps[j])):=(DH.o.bel.cell (p:=⟨bp,op+j,none⟩) ec).trans eX.o;generalize ps[j]=pj at *;refine RP.wp_region_readers 17 [(1,0),(1,1),(1,2),(1,3),(1,4),(1,5),(1,8),(1,9),(1,10),(1,11),(2,12),(0,6),(0,7),(2,16),(0,13),(0,14),(0,15),(0,17),(2,18),(0,19)]
       (fun w'=>∃ p:TW (w.heap.size+1) wr.heap.size (.slice b1 (Qo (Ql l) (ps.take j) (l.take j)).length d1) (.slice b2 (Qo (Ql l) (ps.take j) (l.take j)).length d2) (.string (dec (Ql l))) (.string (itx q.num)) (.string (dec q.den)) ⟨bp,op+j,none⟩ (.int .i64 pj),w'=p.w)
       (by kernel_rfl) (by kernel_rfl) ?_ ?_
      ·exact⟨⟨{ w1 with drawn:=w1.drawn+1 },DH.o.h5,eV.o,j6.o⟩,rfl⟩
      have q0:=@TW.q0;have q1:=@TW.q1;have q2:=@TW.q2;have q3:=@TW.hp;have gj:Nonempty (TW (w.heap.size+1) wr.heap.size (.slice b1 (Qo (Ql l) (ps.take j) (l.take j)).length d1) (.slice b2 (Qo (Ql l) (ps.take j) (l.take j)).length d2) (.string (dec (Ql l))) (.string (itx q.num)) (.string (dec q.den)) ⟨bp,op+j,none⟩ (.int .i64 pj)):=⟨⟨w1,DH.o.h5,eV.o,j6.o⟩⟩;iterate 10 (refine wr_ rfl ?_;go_big_quiet_step (fail);refine wq_ ?_)
      refine wa_ rfl ?_
      go_big_quiet_step (fail)
      refine wq_ ?_;clear q0 q1 q2 q3 gj;refine wm_ rfl ?_;go_wp2_with fail;have CM:=hd_ (DH.o.next (w':=(w1.alloc (Obj.cells #[Value.int IntKind.i64 pj] 3)).drew) ((Below.refl w1.heap.size w1).alloc nr_ _).drew);have Iu:=hd_ ((((Below.refl w1.heap.size w1).alloc nr_ (Obj.cells #[Value.int IntKind.i64 pj] 3)).drew));have DS:=hd_ (Kg eV.o Iu.o);have F0:Hid (∀ jj u,[Value.int IntKind.i64 pj][jj]?=some u->((w1.alloc (Obj.cells #[Value.int IntKind.i64 pj] 3)).drew).cell? ((⟨w1.heap.size,0,none⟩:Addr).add jj)=some u):=fun jj u hj=>cell_one_new w1 _ _ jj u hj
      have fm:wr.heap.size<w1.heap.size:=(Array.getElem?_eq_some_iff.1 eV.o).1;have MY:Hid (w1.heap.size<((w1.alloc (Obj.cells #[Value.int IntKind.i64 pj] 3)).drew).heap.size):=by show _<_;show w1.heap.size<(w1.alloc _).heap.size;simp
      have LC:Hid (((w1.alloc (Obj.cells #[Value.int IntKind.i64 pj] 3)).drew).cell? ⟨bp,op+j,none⟩=some (.int .i64 pj)):=(Iu.o.cell (p:=⟨bp,op+j,none⟩) (block_lt_of_cell j6.o)).trans j6.o;generalize (w1.alloc (Obj.cells #[Value.int IntKind.i64 pj] 3)).drew=w3 at *;refine⟨⟨⟨w3,CM.o.h5,DS.o,LC.o⟩,rfl⟩,?_⟩;refine wm_ rfl ?_;obtain⟨iP,hi,hz0,fg,fG⟩:=info_parts Qfn;refine wpList_append_own_at w3 rfl (.tmp 47) (.tmp 52) 31 rfl (w.heap.size+2) 3 iP (.int .i64 0) 1 8 Tryz.underlying31 hi hz0 fg fG rfl (by decide) _ _ _ rfl CM.o.o1 ⟨w1.heap.size,0,none⟩ 1 1 [.int .i64 pj] rfl rfl F0.o (by simp[Value.oneCell']) (by have:=FO.o;rw[List.length_take] at this;unfold maxLen;omega) (by have:=FO.o;rw[List.length_take] at this;omega) CM.o.siz ?_;intro v' w4 own4 hg4 hnil4 hat4;have CL:=hd_ (CM.o.grow1 own4 hg4 hat4);obtain⟨e1,f1c,rfl⟩:=Qj own4;have bI:Hid (w4.heap[wr.heap.size]?=some (.cells #[.string (itx q.num),.string (dec q.den)] 101 (0,0))):=by
       show _=_
       rw[hg4.block _ (Array.getElem?_eq_some_iff.1 DS.o).1 (fun e=>by have:=Lc.o _ e.symm;omega)];exact DS.o
      have LB:Hid (w4.cell? ⟨bp,op+j,none⟩=some (.int .i64 pj)):=(CL.o.bel.cell (p:=⟨bp,op+j,none⟩) ec).trans eX.o;clear own4 hg4 hnil4 hat4;go_wp2_with fail;refine⟨⟨⟨w4,CL.o.h5,bI.o,LB.o⟩,rfl⟩,?_⟩;refine wa_ rfl ?_
      go_big_quiet_step (fail)
      refine wq_ ?_
      -- the factor
      refine wm_ rfl ?_;go_wp2_with fail;refine cm_ (dH.o _ CL.o.bel) ?_;rintro e w5 ⟨rfl,hb5⟩;have BS:=hd_ (CL.o.next hb5);have bH:=hd_ (Kg bI.o hb5);have Ly:Hid (w5.cell? ⟨bp,op+j,none⟩=some (.int .i64 pj)):=(BS.o.bel.cell (p:=⟨bp,op+j,none⟩) ec).trans eX.o;clear hb5 dH;go_wp2_with fail;refine⟨⟨⟨w5,BS.o.h5,bH.o,Ly.o⟩,rfl⟩,?_⟩;refine wm_ rfl ?_;go_wp2_with fail;have It:=hd_ ((Below.refl w5.heap.size w5).alloc nr_ (Obj.cells #[Value.string (itx fq)] 38));have DG:=hd_ (BS.o.next It.o);have DR:=hd_ (Kg bH.o It.o);have i6:Hid (∀ jj u,[Value.string (itx fq)][jj]?=some u->(w5.alloc (Obj.cells #[Value.string (itx fq)] 38)).cell? ((⟨w5.heap.size,0,none⟩:Addr).add jj)=some u):=fun jj u hj=>cell_one_new w5 _ _ jj u hj
      have Lw:Hid ((w5.alloc (Obj.cells #[Value.string (itx fq)] 38)).cell? ⟨bp,op+j,none⟩=some (.int .i64 pj)):=(DG.o.bel.cell (p:=⟨bp,op+j,none⟩) ec).trans eX.o;generalize w5.alloc (Obj.cells #[Value.string (itx fq)] 38)=w6 at *;refine⟨⟨⟨w6,DG.o.h5,DR.o,Lw.o⟩,rfl⟩,?_⟩;refine wm_ rfl ?_;obtain⟨iZ,hiZ,hzZ0,hzZ1,hzZ2⟩:=info_parts Qfk;refine wpList_append_own_at w6 rfl (.tmp 55) (.tmp 60) 144 rfl (w.heap.size+2) 38 iZ (.string ⟨#[]⟩) 1 16 Tryz.underlying144 hiZ hzZ0 hzZ1 hzZ2 rfl (by decide) _ _ _ rfl DG.o.o2 ⟨w5.heap.size,0,none⟩ 1 1 [.string (itx fq)] rfl rfl i6.o (by simp[Value.oneCell']) (by have:=FO.o;rw[List.length_take] at this;unfold maxLen;omega) (by have:=FO.o;rw[List.length_take] at this;omega) DG.o.siz ?_;intro v' w7 own7 hg7 hnil7 hat7;have CK:=hd_ (DG.o.grow2 own7 hg7 hat7);obtain⟨e2,f2c,rfl⟩:=Qj own7;have Ia:Hid (w7.heap[wr.heap.size]?=some (.cells #[.string (itx q.num),.string (dec q.den)] 101 (0,0))):=by
       show _=_
       rw[hg7.block _ (Array.getElem?_eq_some_iff.1 DR.o).1 (fun e=>by have:=lZ.o _ e.symm;omega)];exact DR.o
      have Lv:Hid (w7.cell? ⟨bp,op+j,none⟩=some (.int .i64 pj)):=(CK.o.bel.cell (p:=⟨bp,op+j,none⟩) ec).trans eX.o;clear own7 hg7 hnil7 hat7;go_wp2_with fail;refine⟨⟨⟨w7,CK.o.h5,Ia.o,Lv.o⟩,rfl⟩,?_⟩
      -- the stores
      obtain⟨m0,m1,m2,m3⟩:=Kz CK.o.h5;have f0:=m3 0;have f1:=m3 1;clear m3;refine wm_ rfl ?_;go_wp2_with fail;have iM:=hd_ (CK.o.store1 (Value.slice e1 ((Qo (Ql l) (List.take j ps) (List.take j l)).length+1) f1c));clear m0 m1 m2 f0 f1;generalize w7.setCell { block:=w.heap.size+1,off:=0 } (Value.slice e1 ((Qo (Ql l) (List.take j ps) (List.take j l)).length+1) f1c)=w8 at *;refine wa_ rfl ?_
      go_big_quiet_step (fail)
      refine wq_ ?_;obtain⟨m0,m1,m2,m3⟩:=Kz iM.o.h5;have f0:=m3 0;have f1:=m3 1;clear m3;refine wm_ rfl ?_;go_wp2_with fail;have lI:=hd_ (iM.o.store2 (Value.slice e2 ((Qo (Ql l) (List.take j ps) (List.take j l)).length+1) f2c));clear m0 m1 m2 f0 f1;generalize w8.setCell { block:=w.heap.size+1,off:=1 } (Value.slice e2 ((Qo (Ql l) (List.take j ps) (List.take j l)).length+1) f2c)=w9 at *;simp only[RP.walkR];go_wp2
      go_roundw
      case rel =>
       refine⟨j+1,e1,f1c,e2,f2c,by omega,by go_num,?_⟩
       show TS _ _ _ _ _ _ _ _
       rw[gI.o];unfold TS;simp only[List.map_append,List.length_append,List.length_cons,List.length_nil,Zdu,Zaw,List.map_cons,List.map_nil];exact lI.o
      case measure=>simp[intOf];omega
    ·have ew:¬ (j:Int)<k:=by omega
     have dP:j=k:=by omega
     subst dP;have bh:Qo (Ql l) (ps.take j) (l.take j)=Qo (Ql l) ps l:=by
      rw[show ps.take j=ps by rw[<- BY.o,List.take_length],show l.take j=l by rw[<- Hn.o,List.take_length]]
     rw[bh] at ee;clear bh BT OR nJ Oq;obtain⟨m0,m1,m2,m3⟩:=Kz ee.o.h5;clear m3;obtain⟨r0,r1,r2,r3⟩:=Kz ee.o.h4;have f0:=r3 0;have f1:=r3 1;have f2:=r3 2;clear r3;go_wp2_with fail;have ix:=Zcw (Zcw (Zcw ee.o.h4 0 (Value.slice b1 (Qo (Ql l) ps l).length d1)) 1 (Value.slice b2 (Qo (Ql l) ps l).length d2)) 2 (.string (dec (Ql l)));have o1:=Zqo (ownsRow_setCell_below (ownsRow_setCell_below (ownsRow_setCell_below ee.o.o1 (a:=⟨w.heap.size,0,none⟩) (by show w.heap.size<w.heap.size+2;omega) (Value.slice b1 (Qo (Ql l) ps l).length d1)) (a:=⟨w.heap.size,1,none⟩) (by show w.heap.size<w.heap.size+2;omega) (Value.slice b2 (Qo (Ql l) ps l).length d2)) (a:=⟨w.heap.size,2,none⟩) (by show w.heap.size<w.heap.size+2;omega) (.string (dec (Ql l))));have o2:=Zqo (ownsRow_setCell_below (ownsRow_setCell_below (ownsRow_setCell_below ee.o.o2 (a:=⟨w.heap.size,0,none⟩) (by show w.heap.size<w.heap.size+2;omega) (Value.slice b1 (Qo (Ql l) ps l).length d1)) (a:=⟨w.heap.size,1,none⟩) (by show w.heap.size<w.heap.size+2;omega) (Value.slice b2 (Qo (Ql l) ps l).length d2)) (a:=⟨w.heap.size,2,none⟩) (by show w.heap.size<w.heap.size+2;omega) (.string (dec (Ql l))));have En:=((ee.o.bel.setCell (p:=⟨w.heap.size,0,none⟩) nr_ (Value.slice b1 (Qo (Ql l) ps l).length d1)).setCell (p:=⟨w.heap.size,1,none⟩) nr_ (Value.slice b2 (Qo (Ql l) ps l).length d2)).setCell (p:=⟨w.heap.size,2,none⟩) nr_ (.string (dec (Ql l)));generalize ((wr.setCell { block:=w.heap.size,off:=0 } (Value.slice b1 (Qo (Ql l) ps l).length d1)).setCell { block:=w.heap.size,off:=1 } (Value.slice b2 (Qo (Ql l) ps l).length d2)).setCell { block:=w.heap.size,off:=2 } (Value.string (dec (Ql l)))=w10 at *;obtain⟨t0,t1,t2,-⟩:=Kz (a:=Value.slice b1 (Qo (Ql l) ps l).length d1) (b:=Value.slice b2 (Qo (Ql l) ps l).length d2) (c := .string (dec (Ql l))) ix;exact bodyPost_ret (v:=Zub (Value.slice b1 (Qo (Ql l) ps l).length d1) (Value.slice b2 (Qo (Ql l) ps l).length d2) (Ql l)) (by simp[Zub,results,Tryz.results79,go_sem,t0,t1,t2]) rfl ⟨b1,d1,b2,d2,rfl,o1,o2,En⟩
end Go.Proofs.YtbielfplgbammaaGreatDoor

namespace Go.Proofs.YtbielfplgbammaaGreatDoor
open Go.RowKit Go.Shelf
attribute [local go_sem] Oper.semAt_some
abbrev Ky (b1:OA_) (d1:Nat) (b2:OA_) (d2 m D:Nat):Array Value := #[.slice b1 m d1,.slice b2 m d2,.string (dec D)]
theorem Qd0(w:World)(b1 b2:OA_)(d1 d2 m D:Nat):
  Calls Tryz.prog 231 #[.agg (Ky b1 d1 b2 d2 m D)] w fun e w' =>
   e = .returned (.func (.func 282) #[] #[.pointer (some ⟨w.heap.size,0,none⟩)])/\w'=w.alloc (.cells (Ky b1 d1 b2 d2 m D) 146):=by
 go_enter Tryz.func231,Tryz.ntmps231;go_wp2;go_ret;exact⟨rfl,rfl⟩
abbrev Qg8 (tl:List (Int×Int)) (x:{x // x∈tl}):Array Value := #[.int .i64 x.1.1,.string (itx x.1.2)]
def KT (n₀ Bn:Nat) (W W':World):Prop:=Below n₀ W W'/\W'.heap[Bn]?=W.heap[Bn]?
theorem Qhl{n₀ Bn:Nat}{A B C:World}(h:KT n₀ Bn A B)(k:KT n₀ Bn B C):KT n₀ Bn A C:=⟨h.1.trans k.1,k.2.trans h.2⟩
theorem Qhm{n₀ Bn:Nat}{w:World}(hn:n₀<=w.heap.size)(hB:Bn<w.heap.size)(W:World)(l:Nat)(o o':Obj)(hl:w.heap.size<=l)(h:W.heap[l]?=some o)(h1:o.isCells=false)(h2:o.isWalk=false):KT n₀ Bn W (W.putObj l o') :=
 ⟨belowK_b hn W l o o' hl h h1 h2,World.putObj_heap_other (by omega)⟩
theorem Zxn(n:Nat)(hn:1<=n)(w00 w:World)(h00:Bw_ w00 w)(Bn:Nat)(b1 b2:OA_)(d1 d2 D:Nat)(tl:List (Int×Int))(hl:tl.length<=1000)
  (hB:w.heap[Bn]?=some (.cells (Ky b1 d1 b2 d2 tl.length D) 146 (0,0))) (Cs:Rd w00 b1 (Vk (tl.map Prod.fst))) (df:Rd w00 b2 (Zdp (tl.map fun x=>itx x.2))) :
  SeqStopsK Fence.wide n Tryz.prog 282 #[.pointer (some ⟨Bn,0,none⟩)] (Qg8 tl) (KT w00.heap.size Bn) (fun xs=>xs=tl.attach) (fun pre=>pre <+: tl.attach) tl.length w:=fun l J Jx W hW hJ hJx hY h0=>by
 have HB:=hd_ ((hW.block _ (Array.getElem?_eq_some_iff.1 hB).1).trans hB);have lR:=hd_ Cs;have lQ:=hd_ df;have HW:=hd_ (bv_ h00 hW);clear Cs df hB hW h00;refine callsIn_of_wp Tryz.func282 rfl trivial ?_ rfl;simp only[Tryz.ntmps282,List.size_toArray,List.length_cons,List.length_nil,Nat.reduceAdd,Nat.reduceSub,Array.replicate_succ,Array.replicate_zero,List.push_toArray,List.append_toArray,List.nil_append,List.cons_append];obtain⟨m0,m1,m2,m3⟩:=Kz HB.o;clear m3
 gi_wp2
 gi_loopw [8] (fun p wr=>∃ k:Nat,k<=tl.length/\p = .int .i64 k/\J (tl.attach.take k) wr/\Hid (Bw_ w00 wr)/\Hid (wr.heap[Bn]?=some (.cells (Ky b1 d1 b2 d2 tl.length D) 146 (0,0))))
  (fun p wr=>tl.length-(intOf p).toNat)
 case atStart=>exact⟨0,Nat.zero_le _,rfl,h0,HW,HB⟩
 case round =>
  obtain⟨k,hk,rfl,hJk,Hb,HBk⟩:=hrel
  by_cases H7:k<tl.length
  ·have gi:(k:Int)<tl.length:=by omega
   have Ee:(0:Int)<=k:=by omega
   obtain⟨g1,o1,rfl,GE,gC⟩:=lR.o.open (by rw[Qp,List.length_map];omega);obtain⟨g2,o2,rfl,hg2,gR⟩:=lQ.o.open (by rw[Zp,List.length_map];omega);have x1:wr.cell? ⟨g1,o1+k,none⟩=some (.int .i64 (tl[k]).1):=by
    rw[Hb.o.cell (p:=⟨g1,o1+k,none⟩) GE];refine gC k _ ?_;rw[Ym _ k (by rw[List.length_map];exact H7),List.getElem_map]
   have x2:wr.cell? ⟨g2,o2+k,none⟩=some (.string (itx (tl[k]).2)):=by
    rw[Hb.o.cell (p:=⟨g2,o2+k,none⟩) hg2];refine gR k _ ?_;simp[Zdp,H7]
   obtain⟨m0,m1,m2,m3⟩:=Kz HBk.o;clear m3 gC gR;obtain⟨fn,tmps,assign,body,hy,hR⟩:=hY (tl.attach.take k) ⟨tl[k],List.getElem_mem H7⟩ wr hJk (by rw[List.length_take,List.length_attach];omega)
   dsimp only[Qg8] at hy
   have FN:Hid (tl.attach.take k++[⟨tl[k],List.getElem_mem H7⟩]=tl.attach.take (k+1)):=by
    show _=_
    rw[List.take_add_one,List.getElem?_eq_getElem (by rw[List.length_attach];exact H7),List.getElem_attach];rfl
   have ES:(tl.length:Int)<=1000:=by omega
   gi_wp2_with fail
   refine hR.mono ?_;rintro e W3 (⟨rfl,hJ3,Bj⟩|⟨rfl,hJx3⟩)
   ·rw[FN.o] at hJ3;have gh:=hd_ (Hb.o.trans Bj.1);have FS:=hd_ (Bj.2.trans HBk.o);clear Bj x1 x2 m0 m1 m2 hR hy
    gi_wp2
    go_roundw
    case rel=>exact⟨k+1,by omega,by go_num,hJ3,gh,FS⟩
    case measure=>simp[intOf];omega
   ·rw[FN.o] at hJx3
    gi_wp2
    refine bodyPost_ret (results_none rfl _ _ _) rfl ?_;exact⟨⟨_,rfl⟩,.inr ⟨tl.attach.take (k+1),List.take_prefix _ _,hJx3⟩⟩
  ·have gi:¬ (k:Int)<tl.length:=by omega
   have gW:tl.attach.take k=tl.attach:=List.take_of_length_le (by rw[List.length_attach];omega);rw[gW] at hJk
   gi_wp2
   go_end0
   exact⟨⟨_,rfl⟩,.inl hJk⟩
end Go.Proofs.YtbielfplgbammaaGreatDoor

namespace Go.Proofs.YtbielfplgbammaaGreatDoor
open Go.RowKit
def Qed (p N a:Nat):Prop:=2^a<=p^N/\p^N<2^(a+1)
def Vb (unit:Nat) (s:Nat×Nat×Nat):Option (Nat×Nat×Nat) :=
 let low:=s.1*s.1/unit
 let high:=s.2.1*s.2.1/unit+1
 if 2*unit<=low then some (low/2,high/2+1,2*s.2.2+1)
 else if 2*unit<=high then none
 else some (low,high,2*s.2.2)
def Ya (p more:Nat):Nat->Option (Nat×Nat×Nat)
 | 0=>some (p*2^(more-p.log2),p*2^(more-p.log2),p.log2)
 | n+1=>(Ya p more n).bind (Vb (2^more))
structure Zxu (p unit N:Nat) (s:Nat×Nat×Nat):Prop where
 lg:Qed p N s.2.2
 lo:s.1*2^s.2.2<=unit*p^N
 hi:unit*p^N<=s.2.1*2^s.2.2
theorem Zpb{p unit N:Nat}{s t:Nat×Nat×Nat}(h0:0<unit)(h:Zxu p unit N s)(hs:Vb unit s=some t):Zxu p unit (2*N) t:=by
 obtain⟨l,h',o⟩:=s;obtain⟨⟨g1,g2⟩,lo,hi⟩:=h;simp only at g1 g2 lo hi;simp only[Vb] at hs;have hP:p^(2*N)=p^N*p^N:=by rw[Nat.two_mul,Nat.pow_add]
 have hO:2^(2*o)=2^o*2^o:=by rw[Nat.two_mul,Nat.pow_add]
 have ir:2^(2*o+1)=2*(2^o*2^o):=by rw[Nat.pow_succ,hO,Nat.mul_comm]
 have oU:2^(2*o+1+1)=4*(2^o*2^o):=by rw[Nat.pow_succ,ir];omega
 have hq:=Nat.div_mul_le_self (l*l) unit;have hr:=Nat.lt_div_mul_add (a:=h'*h') h0;generalize hA:l*l/unit=A at *;generalize hB:h'*h'/unit=B at *;rw[Nat.pow_succ] at g2;generalize 2^o=T at *;generalize p^N=P at *
 -- A * (T * T) <= unit * (P * P)
 have e1:A*(T*T)<=unit*(P*P):=by
  have h1:A*unit*(T*T)<=(l*l)*(T*T):=Nat.mul_le_mul_right _ hq;have h2:(l*T)*(l*T)<=(unit*P)*(unit*P):=Nat.mul_le_mul lo lo;have h3:unit*(A*(T*T))<=unit*(unit*(P*P)):=by
   calc unit*(A*(T*T))=A*unit*(T*T):=by ac_rfl
    _<=(l*l)*(T*T):=h1
    _=(l*T)*(l*T):=by ac_rfl
    _<=_:=h2
    _=unit*(unit*(P*P)):=by ac_rfl
  exact Nat.le_of_mul_le_mul_left h3 h0
 have e2:unit*(P*P)<=(B+1)*(T*T):=by
  have h1:h'*h'*(T*T)<=((B+1)*unit)*(T*T):=Nat.mul_le_mul_right _ (by rw[Nat.add_mul,Nat.one_mul];omega);have h2:(unit*P)*(unit*P)<=(h'*T)*(h'*T):=Nat.mul_le_mul hi hi;have h3:unit*(unit*(P*P))<=unit*((B+1)*(T*T)):=by
   calc unit*(unit*(P*P))=(unit*P)*(unit*P):=by ac_rfl
    _<=_:=h2
    _=h'*h'*(T*T):=by ac_rfl
    _<=_:=h1
    _=unit*((B+1)*(T*T)):=by ac_rfl
  exact Nat.le_of_mul_le_mul_left h3 h0
 have e3:T*T<=P*P:=Nat.mul_le_mul g1 g1;have e4:P*P<4*(T*T):=by
  have:=Nat.mul_lt_mul'' g2 g2
  have h4:T*2*(T*2)=4*(T*T):=by
   calc T*2*(T*2)=(2*2)*(T*T):=by ac_rfl
    _=_:=rfl
  omega
 by_cases hl:2*unit<=A
 ·rw[if_pos hl] at hs;cases hs
  have e5:unit*(2*(T*T))<=unit*(P*P):=by
   calc unit*(2*(T*T))=2*unit*(T*T):=by ac_rfl
    _<=A*(T*T):=Nat.mul_le_mul_right _ hl
    _<=_:=e1
  have e6:2*(T*T)<=P*P:=Nat.le_of_mul_le_mul_left e5 h0;refine⟨⟨?_,?_⟩,?_,?_⟩
  ·simp only;rw[ir,hP];exact e6
  ·simp only;rw[oU,hP];exact e4
  ·simp only;rw[ir,hP];have h5:A/2*2*(T*T)<=A*(T*T):=Nat.mul_le_mul_right _ (by omega);rw[Nat.mul_assoc] at h5;exact Nat.le_trans h5 e1
  ·simp only;rw[ir,hP];have h5:(B+1)*(T*T)<=((B+1)/2+1)*2*(T*T):=Nat.mul_le_mul_right _ (by omega);rw[Nat.mul_assoc] at h5;exact Nat.le_trans e2 h5
 ·rw[if_neg hl] at hs
  by_cases hh:2*unit<=B+1
  ·rw[if_pos hh] at hs;cases hs
  ·rw[if_neg hh] at hs;cases hs
   have e7:unit*(P*P)<unit*(2*(T*T)):=by
    have hT:0<T*T:=by
     rcases Nat.eq_zero_or_pos (T*T) with h|h
     ·omega
     ·exact h
    calc unit*(P*P)<=(B+1)*(T*T):=e2
     _<2*unit*(T*T):=Nat.mul_lt_mul_of_pos_right (by omega) hT
     _=unit*(2*(T*T)):=by ac_rfl
   have e8:P*P<2*(T*T):=Nat.lt_of_mul_lt_mul_left e7;refine⟨⟨?_,?_⟩,?_,?_⟩
   ·simp only;rw[hO,hP];exact e3
   ·simp only;rw[ir,hP];exact e8
   ·simp only;rw[hO,hP];exact e1
   ·simp only;rw[hO,hP];exact e2
theorem Zgd(p more:Nat)(hp:0<p)(hm:p.log2<=more):∀ n s,Ya p more n=some s->Zxu p (2^more) (2^n) s
 | 0,s,h=>by
  simp only[Ya,Option.some.injEq] at h;subst h;refine⟨⟨?_,?_⟩,?_,?_⟩
  ·simp only[Nat.pow_zero,Nat.pow_one];exact Nat.log2_self_le (by omega)
  ·simp only[Nat.pow_zero,Nat.pow_one];exact Nat.lt_log2_self
  all_goals
   simp only[Nat.pow_zero,Nat.pow_one];rw[Nat.mul_assoc,<- Nat.pow_add,Nat.sub_add_cancel hm,Nat.mul_comm];exact Nat.le_refl _
 | n+1,s,h=>by
  simp only[Ya] at h;obtain⟨t,ht,hs⟩:=Option.bind_eq_some_iff.1 h;have:=Zpb (Nat.two_pow_pos more) (Zgd p more hp hm n t ht) hs
  rw[Nat.pow_succ,Nat.mul_comm];exact this
theorem Zyy(H b:Nat)(hb:b<4):(H*4) ||| b=H*4+b:=by
 have:=Nat.shiftLeft_add_eq_or_of_lt (b:=b) (i:=2) hb H
 rw[Nat.shiftLeft_eq] at this;exact this.symm
theorem Zrm(H L:Nat)(hH:H<4611686018427387904)(hL:L<18446744073709551616):bits .or .u64 ((H:Int)*4) ((L:Int)/4611686018427387904)=((H*4+L/4611686018427387904:Nat):Int):=by
 have h:=(bits_nat .u64 64 (by decide) (fun n h0 h1=>by rw[IntKind.wrap_u64];omega) (H*4) (L/4611686018427387904) (by omega) (by omega)).2;rw[Zyy H _ (by omega)] at h
 simpa using h
theorem Zff(p:Nat)(hp:0<p)(Gk:p<=97):Lib.bitLen p=p.log2+1:=by
 have gS:∀ q,q<98->0<q->Lib.bitLen q=q.log2+1:=by decide +kernel
 exact gS p (by omega) hp
structure Qf5 (j:Nat) (s:Nat×Nat×Nat):Prop where
 lo:s.1<9223372036854775808
 hi:s.2.1<9223372036854775808
 o:s.2.2+1<=7*2^j
theorem Zek(p:Nat)(hp:2<=p)(Gk:p<=97):∀ j s,Ya p 62 j=some s->Qf5 j s
 | 0,s,h=>by
  simp only[Ya,Option.some.injEq] at h;subst h;have h1:p<2^(p.log2+1):=Nat.lt_log2_self;have h2:p.log2<=6:=by
   have:=(Nat.log2_lt (n:=p) (k:=7) (by omega)).2 (by omega)
   omega
  have h3:p*2^(62-p.log2)<2^(p.log2+1)*2^(62-p.log2):=Nat.mul_lt_mul_of_pos_right h1 (Nat.two_pow_pos _);rw[<- Nat.pow_add,show p.log2+1+(62-p.log2)=63 by omega] at h3;exact⟨h3,h3,by simp;omega⟩
 | j+1,s,h=>by
  simp only[Ya] at h;obtain⟨t,ht,hs⟩:=Option.bind_eq_some_iff.1 h;obtain⟨f1,f2,f3⟩:=Zek p hp Gk j t ht;obtain⟨l,g,o⟩:=t;simp only at f1 f2 f3;simp only[Vb] at hs;have q1:l*l<=9223372036854775807*9223372036854775807:=Nat.mul_le_mul (by omega) (by omega);have q2:g*g<=9223372036854775807*9223372036854775807:=Nat.mul_le_mul (by omega) (by omega);have e:2^(j+1)=2*2^j:=by rw[Nat.pow_succ];omega
  rw[show (2:Nat)^62=4611686018427387904 from rfl] at hs
  by_cases h1:2*4611686018427387904<=l*l/4611686018427387904
  ·rw[if_pos h1] at hs;cases hs
   exact⟨by simp only;omega,by simp only;omega,by simp only;omega⟩
  ·rw[if_neg h1] at hs
   by_cases h2:2*4611686018427387904<=g*g/4611686018427387904+1
   ·rw[if_pos h2] at hs;cases hs
   ·rw[if_neg h2] at hs;cases hs
    exact⟨by simp only;omega,by simp only;omega,by simp only;omega⟩
def Zht (p:Nat):Value:=match Ya p 62 26 with
 | some s => .tuple #[.int .i64 s.2.2,.bool true]
 | none => .tuple #[.int .i64 0,.bool false]
theorem Zz2(w:World)(p:Nat)(hp:2<=p)(Gk:p<=97):Kc Tryz.prog 281 #[.int .i64 p] w (Zht p):=by
 unfold Kc;have EU:=hd_ (Tryz.bits_Len p w (by omega) (by omega));rw[show ((p:Nat):Int).toNat=p from rfl,Zff p (by omega) Gk] at EU;have hk:p.log2<=6:=by
  have:=(Nat.log2_lt (n:=p) (k:=7) (by omega)).2 (by omega)
  omega
 have fh:IntKind.i64.wrap (((p.log2+1:Nat):Int)-1)=(p.log2:Int):=by rw[show ((p.log2+1:Nat):Int)-1=(p.log2:Int) by omega];exact iw_ _ (by omega)
 have fX:IntKind.u64.wrap (p:Int)=p:=IntWalk.u64_in _ (by omega);have Dc:IntKind.i64.wrap (62-(p.log2:Int))=((62-p.log2:Nat):Int):=by rw[show 62-(p.log2:Int)=((62-p.log2:Nat):Int) by omega];exact iw_ _ (by omega)
 go_enter Tryz.func281,Tryz.ntmps281;go_wp2_with fail;refine cm_ EU.o ?_;rintro e w1 ⟨rfl,rfl⟩;have f8:IntKind.u64.wrap ((p:Int)*2^(62-p.log2))=((p*2^(62-p.log2):Nat):Int):=by
  have h0:=(Zek p hp Gk 0 _ rfl).lo;simp only at h0;rw[show ((p*2^(62-p.log2):Nat):Int)=(p:Int)*2^(62-p.log2) by simp];rw[<- show ((p*2^(62-p.log2):Nat):Int)=(p:Int)*2^(62-p.log2) by simp];exact IntWalk.u64_in _ (by omega)
 have H0:Hid (Ya p 62 0=some (p*2^(62-p.log2),p*2^(62-p.log2),p.log2)):=rfl;have Ln:=hd_ (Zek p hp Gk);have DT:=hd_ (fun x hx=>Tryz.bits_Mul64 x x hx hx w1);clear EU;go_wp2_with fail
 go_loopw [5,6,7,21] (fun a b c i wr=>∃ (j lo hi o:Nat),j<=26/\Hid (Ya p 62 j=some (lo,hi,o))/\a = .int .u64 lo/\b = .int .u64 hi/\c = .int .i64 o/\i = .int .i64 j/\wr=w1) (fun _ _ _ i _=>26-(intOf i).toNat)
 case atStart=>exact⟨0,_,_,_,by omega,H0,rfl,rfl,rfl,rfl,rfl⟩
 case round =>
  obtain⟨j,lo,hi,o,hj,Hd,rfl,rfl,rfl,rfl,rfl⟩:=hrel
  by_cases H7:j<26
  ·have gi:(j:Int)<26:=by omega
   obtain⟨f1,f2,f3⟩:=Ln.o j _ Hd.o;simp only at f1 f2 f3;have AO:2^j<=2^26:=Nat.pow_le_pow_right (by decide) (by omega);rw[show (2:Nat)^26=67108864 from rfl] at AO;have ho:o<=469762048:=by omega
   have q1:lo*lo<=9223372036854775807*9223372036854775807:=Nat.mul_le_mul (by omega) (by omega);have q2:hi*hi<=9223372036854775807*9223372036854775807:=Nat.mul_le_mul (by omega) (by omega);have fJ:=DT.o lo (by omega);have Cb:=DT.o hi (by omega);have fR:Hid (Ya p 62 (j+1)=Vb (2^62) (lo,hi,o)):=by
    show _=_
    simp only[Ya,Hd.o,Option.bind_some]
   have Mf:lo*lo/18446744073709551616<4611686018427387904:=by omega
   have fE:lo*lo%18446744073709551616<18446744073709551616:=Nat.mod_lt _ (by decide);have EQ:lo*lo/18446744073709551616*4+lo*lo%18446744073709551616/4611686018427387904=lo*lo/4611686018427387904:=by omega
   have Me:hi*hi/18446744073709551616<4611686018427387904:=by omega
   have Fs:hi*hi%18446744073709551616<18446744073709551616:=Nat.mod_lt _ (by decide);have ft:hi*hi/18446744073709551616*4+hi*hi%18446744073709551616/4611686018427387904=hi*hi/4611686018427387904:=by omega
   have hZ:=Zrm _ _ Mf fE;have HU:=Zrm _ _ Me Fs;rw[EQ] at hZ;rw[ft] at HU;have oR:lo*lo/4611686018427387904<=18446744073709551612:=by omega
   have oQ:hi*hi/4611686018427387904<=18446744073709551612:=by omega
   simp only[Vb] at fR;rw[show (2:Nat)^62=4611686018427387904 from rfl] at fR;clear f3 AO EQ ft q1 q2;generalize lo*lo/18446744073709551616=H1 at *;generalize lo*lo%18446744073709551616=L1 at *;generalize hi*hi/18446744073709551616=H2 at *;generalize hi*hi%18446744073709551616=L2 at *;generalize lo*lo/4611686018427387904=X1 at *;generalize hi*hi/4611686018427387904=X2 at *;clear f1 f2;obtain⟨x1,EQ⟩:∃ x1:Int,(X1:Int)=x1:=⟨_,rfl⟩;obtain⟨x2,ft⟩:∃ x2:Int,(X2:Int)+1=x2:=⟨_,rfl⟩;have Jm:IntKind.u64.wrap ((X2:Int)+1)=(X2:Int)+1:=IntWalk.u64_in _ (by omega);have AH:(X2:Int)=x2-1:=by omega
   rw[EQ] at hZ;rw[AH] at HU Jm;have NM:IntKind.u64.wrap (x2-1+1)=x2:=by rw[Jm];omega
   have BR:=hd_ EQ;have bz:=hd_ ft;have ND:0<=x1/\x1<=18446744073709551612:=by omega
   have NC:1<=x2/\x2<=18446744073709551613:=by omega
   clear Jm EQ ft AH;have NO:IntKind.u64.wrap ((H1:Int)*4)=(H1:Int)*4:=IntWalk.u64_in _ (by omega);have NN:IntKind.u64.wrap ((H2:Int)*4)=(H2:Int)*4:=IntWalk.u64_in _ (by omega);clear oR oQ Mf Me fE Fs;go_wp2_with fail;refine cm_ fJ ?_;rintro e w2 ⟨rfl,rfl⟩;clear fJ;go_wp2_with fail;refine cm_ Cb ?_;rintro e w2 ⟨rfl,rfl⟩;clear Cb;go_wp2_with fail
   ·rename_i gC
    have gZ:Hid (Ya p 62 (j+1)=some (X1/2,(X2+1)/2+1,2*o+1)):=by
     show _=_
     rw[fR.o,if_pos (by have:=BR.o;omega)]
    go_roundw
    case rel=>exact⟨j+1,X1/2,(X2+1)/2+1,2*o+1,by omega,gZ,by rw[<- BR.o];go_num,by rw[<- bz.o];go_num,by go_num,by go_num,trivial⟩
    case measure=>simp[intOf];omega
   ·rename_i gC gR
    have gZ:Hid (Ya p 62 (j+1)=none):=by
     show _=_
     rw[fR.o,if_neg (by have:=BR.o;omega),if_pos (by have:=bz.o;omega)]
    have DQ:Hid (Zht p = .tuple #[.int .i64 0,.bool false]):=by
     have gS:∀ m,Ya p 62 (j+1+m)=none:=fun m=>by
      induction m with
      | zero=>exact gZ.o
      | succ m ih=>rw[<- Nat.add_assoc];show (Ya p 62 (j+1+m)).bind _=none;rw[ih];rfl
     show _=_
     unfold Zht;have:=gS (25-j)
     rw[show j+1+(25-j)=26 by omega] at this;rw[this]
    go_ret2
    exact⟨by rw[DQ.o];rfl,Below.refl _ _⟩
   ·rename_i gC gR
    have gZ:Hid (Ya p 62 (j+1)=some (X1,X2+1,2*o)):=by
     show _=_
     rw[fR.o,if_neg (by have:=BR.o;omega),if_neg (by have:=bz.o;omega)]
    go_roundw
    case rel=>exact⟨j+1,X1,X2+1,2*o,by omega,gZ,by rw[<- BR.o],by rw[<- bz.o];go_num,by go_num,by go_num,trivial⟩
    case measure=>simp[intOf];omega
  ·have gi:¬ (j:Int)<26:=by omega
   have JQ:j=26:=by omega
   subst JQ;have iR:Hid (Zht p = .tuple #[.int .i64 o,.bool true]):=by
    show _=_
    unfold Zht;rw[Hd.o]
   go_wp2
   go_ret2
   exact⟨by rw[iR.o];rfl,Below.refl _ _⟩
end Go.Proofs.YtbielfplgbammaaGreatDoor

namespace Go.Proofs.YtbielfplgbammaaGreatDoor
open Go Go.Sort
section
variable {P:Program} {ops:Array Oper} {md:Region.Mode} {cs:List (Nat×(World->Prop))}
def Zbf:Op->Bool
 | .move _ | .assign _ | .load _ _ | .fieldAddr _ _ _ | .indexAddr _ _ _ | .binOp _ _ _ _ _=>true
 | .call c=>match c.callee with
  | .builtin .min | .builtin .max | .builtin .len=>true
  | _=>false
 | _=>false
theorem Zvn{o:Oper}{a:Act}{w w':World}{f:FuncId}{args:Array Value}(ho:Zbf o.op=true)(h:(execOp a.eval o).run P w = .ok (.enter f args) w'):False:=by
 have Eu:(∃ x,o.op = .move x)\/(∃ x,o.op = .assign x)\/(∃ t x,o.op = .load t x)\/(∃ t x k,o.op = .fieldAddr t x k)\/(∃ t x y,o.op = .indexAddr t x y)\/(∃ b t x y r,o.op = .binOp b t x y r)\/(∃ c,o.op = .call c):=by
  cases hop:o.op<;>rw[hop] at ho<;>first | (simp[Zbf] at ho;done) | simp
 rcases Eu with⟨x,hop⟩|⟨x,hop⟩|⟨t,x,hop⟩|⟨t,x,k,hop⟩|⟨t,x,y,hop⟩|⟨b,t,x,y,r,hop⟩|⟨c,hop⟩
 ·rw[BigFrame.run_move x hop] at h;cases h
 ·rw[BigFrame.run_assign x hop] at h;cases h
 ·unfold execOp at h;rw[hop] at h;exact RP.value_no_enter h
 ·unfold execOp at h;rw[hop] at h;exact RP.value_no_enter h
 ·unfold execOp at h;rw[hop] at h;exact RP.value_no_enter h
 ·unfold execOp at h;rw[hop] at h;exact RP.value_no_enter h
 ·rw[hop] at ho;unfold execOp at h;rw[hop] at h;unfold Zbf at ho;simp only at ho h;unfold resolve at h;cases hc:c.callee with
  | value x=>rw[hc] at ho;cases ho
  | invoke x y=>rw[hc] at ho;cases ho
  | builtin b =>
   rw[hc] at ho h;simp only[Sem.run_bind,Sem.run_pure,Result.andThen_ok,invoke] at h;cases b<;>first | (simp at ho;done) | (unfold builtin at h;exact RP.value_no_enter h)
theorem Zg2{D:World->Prop}{o:Oper}{a:Act}{w:World}{v:Value}(ho:Zbf o.op=true)(h:o.quietAt P a D w v){K:Act->World->Prop}(hk:K (a.put o.dst v) w):o.wp P a w K (fun _ _ _=>False):=by
 unfold Oper.quietAt at h;unfold Oper.wp;have gj:=@Zvn P o a w;generalize (execOp a.eval o).run P w=r at *;cases r with
 | ok n w' =>
  cases n<;>simp only[Oper.quietUpon] at h<;>simp only[Oper.upon]
  case value u=>obtain⟨rfl,rfl⟩:=h;exact hk
  case skip=>obtain⟨rfl,rfl⟩:=h;exact hk
  case enter f args=>exact(gj ho rfl).elim
 | halt x w'=>simp only[Oper.quietUpon] at h
def Yl:List (Nat×(World->Prop))->(Nat->Bool)->World->Prop
 | [],_,_=>True
 | c::cs,b,w=>(b c.1=true\/c.2 w)/\Yl cs b w
theorem Yl.get:∀ {cs:List (Nat×(World->Prop))} {b:Nat->Bool} {w:World},Yl cs b w->∀ c∈cs,b c.1=true\/c.2 w
 | [],_,_,_,c,hc=>by cases hc
 | d::cs,b,w,h,c,hc=>by
  rcases List.mem_cons.1 hc with rfl|hc
  ·exact h.1
  ·exact Yl.get h.2 c hc
theorem Yl.mono:∀ {cs:List (Nat×(World->Prop))} {b b':Nat->Bool} {w:World},(∀ s,b s=true->b' s=true)->Yl cs b w->Yl cs b' w
 | [],_,_,_,_,_=>trivial
 | _::_,_,_,_,hb,h=>⟨h.1.imp (hb _) id,Yl.mono hb h.2⟩
theorem Yl.congr{cs:List (Nat×(World->Prop))}{b b':Nat->Bool}{w:World}(hb:∀ s,b s=b' s)(h:Yl cs b w):Yl cs b' w:=h.mono (fun s hs=>by rw[<- hb s];exact hs)
def upB (listed:Array Bool) (s:Nat):Bool:=listed.getD s false
def Zts (P:Program) (md:Region.Mode) (ops:Array Oper) (cs:List (Nat×(World->Prop))) (Q:Act->World->Prop):Nat->Array Bool->Act->World->Prop
 | 0,listed,a,w=>Region.ready md ops listed=[]/\Q a w
 | f+1,listed,a,w=>Region.ready md ops listed≠[]/\∀ i∈Region.ready md ops listed,
   wpOp P ops (fun _ _ _=>False) i (fun a' w'=>Yl cs (upB (listed.setIfInBounds i true)) w'/\Zts P md ops cs Q f (listed.setIfInBounds i true) a' w') a w
def Zj (P:Program) (ops:Array Oper) (md:Region.Mode) (cs:List (Nat×(World->Prop))) (i:Nat) (o:Oper) (v:Value) (a:Act):Prop :=
 (∃ c∈cs,RP.reachB md ops 4 c.1 i=true/\YieldsIn P ops c.2 o v a)\/YieldsIn P ops (fun _=>True) o v a
theorem Zj.of_same{i:Nat}{o:Oper}{v:Value}{a a':Act}(hy:Zj P ops md cs i o v a)(he:execOp a'.eval o=execOp a.eval o)
  (hw:Region.wanted o (yielded ops a'.tmps)=Region.wanted o (yielded ops a.tmps)):Zj P ops md cs i o v a' :=
 hy.imp (fun ⟨c,hc,h1,h2⟩=>⟨c,hc,h1,h2.of_same he hw⟩) (fun h=>h.of_same he hw)
theorem Zmg{i:Nat}{o:Oper}{v:Value}{a:Act}{w:World}{listed:Array Bool}(hi:ops[i]?=some o)(gj:Zbf o.op=true)(inv:RP.RInv md ops listed)(hr:i∈Region.ready md ops listed)(hs:Yl cs (upB listed) w)
  (hy:Zj P ops md cs i o v a) {K:Act->World->Prop} (hk:K (a.put o.dst v) w):wpOp P ops (fun _ _ _=>False) i K a w:=by
 have gS:∀ D:World->Prop,D w->YieldsIn P ops D o v a->wpOp P ops (fun _ _ _=>False) i K a w:=fun D hD h=>by
  unfold wpOp;simp only[hi];rcases h with⟨h1,h2⟩|⟨h1,rfl⟩
  ·simp only[h1,if_true];exact .inl (Zg2 gj (h2 w hD) hk)
  ·simp only[h1,Bool.false_eq_true,if_false];exact hk
 rcases hy with⟨c,hc,hw,h⟩|h
 ·refine gS c.2 ?_ h;rcases hs.get c hc with hs|hs
  ·have:=RP.reach_listed inv 4 c.1 i hw hs
   rw[getD_both (mem_ready.1 hr).1] at this;cases this
  ·exact hs
 ·exact gS _ trivial h
theorem Zt1{j:Nat}{oi oj:Oper}{v:Value}(hj:ops[j]?=some oj)(Du:oi.apart ops oj=true)
  (hsi:∀ cs b,oi.op ≠ .select cs b) (hsj:∀ cs b,oj.op ≠ .select cs b) {i:Nat} {K:Act->World->Prop} {a:Act} {w:World}
  (hy:Zj P ops md cs i oi v a) (h:wpOp P ops (fun _ _ _=>False) j K (a.put oi.dst v) w) :
  wpOp P ops (fun _ _ _=>False) j (fun a' w'=>Zj P ops md cs i oi v a'/\K (a'.put oi.dst v) w') a w:=by
 obtain⟨h1,h2,h3⟩:=Oper.apart_spec Du;have Gx:∀ (a:Act),Zj P ops md cs i oi v a->∀ u,Zj P ops md cs i oi v (a.put oj.dst u):=fun a hy u =>
  hy.of_same (execOp_put oi hsi a oj.dst u h3) (wanted_put oi a oj.dst u h3)
 have dZ:∀ d,Zj P ops md cs i oi v ({ a with defers:=d::a.defers }:Act):=fun d=>hy.of_same rfl rfl
 unfold wpOp at *
 simp only[hj] at *
 rw[wanted_put oj a oi.dst v h1] at h;split
 ·rename_i hw
  simp only[hw,if_true] at h;left;rcases h with h|⟨_,_,_,hf⟩
  ·unfold Oper.wp at *
   rw[execOp_put oj hsj a oi.dst v h1] at h;generalize (execOp a.eval oj).run P w=r at *;cases r with
   | ok n w' =>
    cases n<;>simp only[Oper.upon] at h ⊢
    case value u=>exact⟨Gx a hy u,by rw[<- Act.put_comm a v u h2];exact h⟩
    case skip=>exact⟨Gx a hy undef,by rw[<- Act.put_comm a v undef h2];exact h⟩
    case defer d =>
     refine⟨Gx _ (dZ d) undef,?_⟩;rw[Act.put_defers] at h;rw[<- Act.put_comm _ v undef h2];exact h
    case enter f args =>
     exact cm_ h (fun e w'' he=>by
      cases e
      case returned u=>exact⟨Gx a hy u,by rw[<- Act.put_comm a v u h2];exact he⟩
      case panicked c=>exact he
      case outgrown=>obtain⟨_,_,hf⟩:=he;exact hf.elim)
    case row row args=>exact Rows.mono h (fun u w'' he=>⟨Gx a hy u,by rw[<- Act.put_comm a v u h2];exact he⟩)
    all_goals exact h
   | halt x w'=>cases x<;>simp only[Oper.upon] at h<;>exact h.elim
  ·exact hf.elim
 ·rename_i hw
  simp only[hw] at h;exact⟨Gx a hy _,by rw[<- Act.put_comm a v undef h2];exact h⟩
theorem Zpr{i:Nat}{oi:Oper}{v:Value}{Q:Act->World->Prop}(hi:ops[i]?=some oi)(his:∀ c∈cs,i≠c.1)(gj:Zbf oi.op=true)(hsel:∀ (j:Nat) (o:Oper) cs b,ops[j]?=some o->o.op ≠ .select cs b):
  ∀ (f:Nat) (listed:Array Bool) (a:Act) (w:World),RP.RInv md ops listed ->
   (∀ j oj,ops[j]?=some oj->j≠i->listed.getD j true=false->(∀ e∈oj.after,Region.binds md e=true->e.on≠i)->oi.apart ops oj=true) ->
   i∈Region.ready md ops listed->Zj P ops md cs i oi v a->Yl cs (upB listed) w ->
   Zts P md ops cs Q f (listed.setIfInBounds i true) (a.put oi.dst v) w->Zts P md ops cs Q (f+1) listed a w:=by
 have gA:∀ (listed:Array Bool) (w:World),Yl cs (upB listed) w->Yl cs (upB (listed.setIfInBounds i true)) w:=fun listed w h=>h.mono (fun s hs=>getD_set_true hs)
 have io:∀ (cs':List (Nat×(World->Prop))),(∀ c∈cs',i≠c.1)->∀ (listed:Array Bool) (w:World),Yl cs' (upB (listed.setIfInBounds i true)) w->Yl cs' (upB listed) w:=by
  intro cs'
  induction cs' with
  | nil=>intro _ _ _ _;trivial
  | cons c cs' ih =>
   intro EW listed w h;refine⟨h.1.imp (fun hb=>?_) id,ih (fun d hd=>EW d (List.mem_cons_of_mem _ hd)) listed w h.2⟩;unfold upB at hb ⊢;rw[getD_set_ne false (EW c (List.mem_cons_self ..))] at hb;exact hb
 intro f
 induction f with
 | zero =>
  intro listed a w inv _ hr hy hs H;refine⟨fun h=>(by rw[h] at hr;cases hr),fun j hj=>?_⟩
  by_cases GV:j=i
  ·subst GV;exact Zmg hi gj inv hr hs hy ⟨gA _ _ hs,H⟩
  ·have:=ready_mono hj GV
   rw[H.1] at this;cases this
 | succ f ih =>
  intro listed a w inv hfree hr hy hs H;have Fn:=(mem_ready.1 hr).1;refine⟨fun h=>(by rw[h] at hr;cases hr),fun j hj=>?_⟩
  by_cases GV:j=i
  ·subst GV;exact Zmg hi gj inv hr hs hy ⟨gA _ _ hs,H⟩
  ·have h1:=H.2 j (ready_mono hj GV);obtain⟨hjun,oj,dh,gW⟩:=mem_ready.1 hj;have Ei:∀ e∈oj.after,Region.binds md e=true->e.on≠i:=fun e he hb heq=>by
    have h1:=gW e he hb;rw[heq,getD_both Fn] at h1;cases h1
   have h2:=Zt1 dh (hfree j oj dh GV hjun Ei) (fun cs b=>hsel i oi cs b hi) (fun cs b=>hsel j oj cs b dh) hy h1;have Fd:∀ k ok,ops[k]?=some ok->k≠i->(listed.setIfInBounds j true).getD k true=false ->
     (∀ e∈ok.after,Region.binds md e=true->e.on≠i)->oi.apart ops ok=true:=fun k ok hk dj Fn bd=>by
    refine hfree k ok hk dj ?_ bd
    by_cases dP:j=k
    ·subst dP;exact hjun
    ·rw[getD_set_ne true dP] at Fn;exact Fn
   have FU:=ready_mono hr (Ne.symm GV);refine wpOp_mono (fun a' w' h3=>?_) h2;obtain⟨hy',ER,H'⟩:=h3;have GU:Yl cs (upB (listed.setIfInBounds j true)) w':=by
    rw[Array.setIfInBounds_comm _ _ (Ne.symm GV)] at ER;exact io cs his _ _ ER
   refine⟨GU,ih (listed.setIfInBounds j true) a' w' (inv.set hj) Fd FU hy' GU ?_⟩;rw[Array.setIfInBounds_comm _ _ GV];exact H'
def Zsk (md:Region.Mode) (ops:Array Oper) (ss:List Nat):List (Nat×Nat)->Array Bool->Bool
 | [],listed=>(Region.ready md ops listed).isEmpty
 | (k,i)::l,listed =>
  (if k=0 then decide (Region.ready md ops listed=[i])
  else (Region.ready md ops listed).contains i&&Region.free md ops listed i&&(match ops[i]? with | some o=>Zbf o.op | none=>false)&&(ss.all fun s=>decide (i≠s))&&(k==1||RP.reachB md ops 4 (k-2) i)) &&
  Zsk md ops ss l (listed.setIfInBounds i true)
def Yf (P:Program) (ops:Array Oper) (cs:List (Nat×(World->Prop))) (Q:Act->World->Prop):List (Nat×Nat)->(Nat->Bool)->Act->World->Prop
 | [],_,a,w=>Q a w
 | (k,i)::l,b,a,w =>
  if k=0 then wpList P ops (fun e a' w'=>e = .normal/\Yl cs (fun s=>b s||i==s) w'/\Yf P ops cs Q l (fun s=>b s||i==s) a' w') (ops[i]?).toList a w
  else if k=1 then wpQuiet P ops (fun _=>True) (fun a'=>Yf P ops cs Q l b a' w) (ops[i]?).toList a
  else ∃ c∈cs,c.1=k-2/\wpQuiet P ops c.2 (fun a'=>Yf P ops cs Q l b a' w) (ops[i]?).toList a
theorem Yl.congr_on:∀ {cs:List (Nat×(World->Prop))} {b b':Nat->Bool} {w:World},(∀ c∈cs,b c.1=b' c.1)->Yl cs b w->Yl cs b' w
 | [],_,_,_,_,_=>trivial
 | c::cs,b,b',w,hb,h=>⟨h.1.imp (fun h1=>by rw[<- hb c (List.mem_cons_self ..)];exact h1) id,Yl.congr_on (fun d hd=>hb d (List.mem_cons_of_mem _ hd)) h.2⟩
theorem Zfg{Q:Act->World->Prop}(hsel:Region.noSelect ops=true):
  ∀ (l:List (Nat×Nat)) (b:Nat->Bool) (listed:Array Bool) (a:Act) (w:World),(∀ c∈cs,b c.1=upB listed c.1)->RP.RInv md ops listed->Yl cs (upB listed) w->Zsk md ops (cs.map Prod.fst) l listed=true ->
   Yf P ops cs Q l b a w->Zts P md ops cs Q l.length listed a w
 | [],b,listed,a,w,_,_,_,hB,h=>⟨by simpa [Zsk] using hB,h⟩
 | (k,i)::l,b,listed,a,w,hb,inv,hs,hB,h=>by
  simp only[Zsk,Bool.and_eq_true] at hB;obtain⟨GN,hB2⟩:=hB
  by_cases hk:k=0
  ·subst hk;simp only[if_true,decide_eq_true_eq] at GN;have hr:i∈Region.ready md ops listed:=by rw[GN];exact List.mem_singleton.2 rfl
   obtain⟨Fn,o,ho,_⟩:=mem_ready.1 hr;have H7:i<listed.size:=by rw[inv.size];exact(Array.getElem?_eq_some_iff.1 ho).1
   have dm:∀ c∈cs,(b c.1||i==c.1)=upB (listed.setIfInBounds i true) c.1:=fun c hc=>by
    rw[hb c hc];unfold upB
    by_cases his:i=c.1
    ·rw[his] at H7 ⊢;simp[H7]
    ·rw[getD_set_ne false his];simp[his]
   refine⟨by rw[GN];simp,fun j hj=>?_⟩;rw[GN] at hj;obtain rfl:=List.mem_singleton.1 hj;simp only[Yf,if_true,ho,Option.toList] at h;have h2:wpOp P ops (fun e a' w'=>e = .normal/\Yl cs (fun s=>b s||j==s) w'/\Yf P ops cs Q l (fun s=>b s||j==s) a' w') j (fun a' w'=>Yl cs (fun s=>b s||j==s) w'/\Yf P ops cs Q l (fun s=>b s||j==s) a' w') a w:=by
    unfold wpOp;simp only[ho];simp only[wpList,true_and] at h;exact h
   have h3:=RP.wpOp_strong (fun e a' w' hq=>hq.1) h2;refine wpOp_mono (fun a' w' h4=>?_) h3;have GU:Yl cs (upB (listed.setIfInBounds j true)) w':=h4.1.congr_on dm;exact⟨GU,Zfg hsel l _ _ a' w' dm (inv.set hr) GU hB2 h4.2⟩
  ·rw[if_neg hk] at GN;simp only[Bool.and_eq_true,Bool.or_eq_true,beq_iff_eq,List.all_eq_true,decide_eq_true_eq] at GN;obtain⟨⟨⟨⟨hr,hf⟩,gj⟩,his⟩,hw⟩:=GN;have FU:i∈Region.ready md ops listed:=by simpa using hr
   obtain⟨_,o,ho,_⟩:=mem_ready.1 FU;have Dl:Zbf o.op=true:=by rw[ho] at gj;exact gj
   have A3:∀ c∈cs,i≠c.1:=fun c hc=>his c.1 (List.mem_map.2 ⟨c,hc,rfl⟩)
   have GU:Yl cs (upB (listed.setIfInBounds i true)) w:=hs.mono (fun s hs=>getD_set_true hs);simp only[Yf,if_neg hk] at h;have et:∃ v,Zj P ops md cs i o v a/\Yf P ops cs Q l b (a.put o.dst v) w:=by
    by_cases h2:k=1
    ·rw[if_pos h2] at h;obtain⟨v,hy,hK⟩:=yieldsIn_of_qOp ho (RP.qOp_of_list ho h);exact⟨v,.inr hy,hK⟩
    ·rw[if_neg h2] at h;obtain⟨c,hc,hck,h⟩:=h;obtain⟨v,hy,hK⟩:=yieldsIn_of_qOp ho (RP.qOp_of_list ho h);exact⟨v,.inl ⟨c,hc,by rw[hck];exact hw.resolve_left h2,hy⟩,hK⟩
   obtain⟨v,hy,hK⟩:=et;have HU:∀ c∈cs,b c.1=upB (listed.setIfInBounds i true) c.1:=fun c hc=>by
    rw[hb c hc];unfold upB;rw[getD_set_ne false (A3 c hc)]
   exact Zpr ho A3 Dl (Region.noSelect_spec hsel) l.length listed a w inv (Region.free_spec ho hf) FU hy hs
    (Zfg hsel l b _ _ w HU (inv.set FU) GU hB2 hK)
theorem Qer{ord:List (Nat×Nat)}{l:List Oper}{a:Act}{w:World}{Q:Act->World->Prop}(hsel:Region.noSelect l.toArray=true)(hord:Zsk .any l.toArray (cs.map Prod.fst) ord (Array.replicate l.length false)=true)
  (hC:Yl cs (fun _=>false) w) (h:Yf P l.toArray cs Q ord (fun _=>false) a w):Zts P .any l.toArray cs Q ord.length (Array.replicate l.length false) a w:=by
 have hf:∀ s,upB (Array.replicate l.length false) s=false:=fun s=>getD_replicate_false _ _
 refine Zfg hsel ord _ _ a w (fun c _=>(hf c.1).symm) ⟨by simp,fun j oj _ hl=>(by rw[getD_replicate_false] at hl;cases hl)⟩ (hC.congr_on (fun c _=>(hf c.1).symm)) hord h
theorem Zic{i l0 n:Nat}{a:Act}{w:World}{K K':Act->World->Prop}{Q':Exit->Act->World->Prop}(Bf:∀ o c,ops[i]?=some o->o.op ≠ .defer c)(_hnr:∀ o c,ops[i]?=some o->o.op ≠ .go c)(hk:∀ a w,K a w->K' a w)
  (h:wpOp P ops (fun _ _ _=>False) i K a w):wpOpIn (Fence.wide.inRound l0) n P ops Q' i K' a w:=by
 unfold wpOp at h;unfold wpOpIn;split
 ·rename_i ho;simp only[ho] at h;exact hk _ _ h
 ·rename_i o ho
  simp only[ho] at h;split
  ·rename_i hw
   simp only[hw,if_true] at h;rcases h with h|⟨_,_,_,hf⟩
   ·refine⟨fun _ _=>trivial,?_⟩;unfold Oper.wp at h;rw[show (Fence.wide.inRound l0).round=some l0 from rfl,Oper.semAt_some l0 _ _ (fun c=>Bf o c ho)];generalize (execOp a.eval o).run P w=r at *;cases r with
    | ok x w' =>
     cases x<;>simp only[Oper.upon,Oper.uponIn] at h ⊢
     case value=>exact hk _ _ h
     case skip=>exact hk _ _ h
     case defer=>exact hk _ _ h
     case enter f args =>
      refine⟨fun hd=>(by cases hd),?_⟩;have h2:=Calls.mono h (R':=fun e w''=>match e,w'' with
       | .returned v,w''=>K' (a.put o.dst v) w''
       | .panicked chain,w''=>Q' (.panic chain) a w''
       | .outgrown,_=>LetsOut Q') (fun e w'' he=>by cases e<;>first | exact hk _ _ he | exact he.elim | (obtain⟨_,_,hf⟩:=he;exact hf.elim))
      exact CallsIn.inRound l0 (callsIn_wide.2 h2)
     case row row args=>exact⟨fun hd=>(by cases hd),fun c cs _=>let ⟨v,w',r,s⟩:=h c cs;⟨v,w',hk _ _ r,stepsIn_wide.2 s⟩⟩
    | halt x w'=>cases x<;>simp only[Oper.upon] at h<;>exact h.elim
   ·exact hf.elim
  ·rename_i hw;simp only[hw] at h;exact⟨fun _ _=>trivial,hk _ _ h⟩
def Zkj (ops:Array Oper):Bool:=ops.all fun o=>match o.op with | .defer _ | .go _=>false | _=>true
theorem Zed{ops:Array Oper}(h:Zkj ops=true){i:Nat}{o:Oper}(hi:ops[i]?=some o):(∀ c,o.op ≠ .defer c)/\(∀ c,o.op ≠ .go c):=by
 have hm:o∈ops:=Array.mem_of_getElem? hi;have:=Array.all_eq_true'.1 h o hm
 refine⟨fun c hc=>?_,fun c hc=>?_⟩<;>rw[hc] at this<;>cases this
theorem Zh6{l0 n:Nat}{Q:Act->World->Prop}{Q':Exit->Act->World->Prop}(cZ:Zkj ops=true)(hQ:∀ a w,Q a w->Q' .normal a w):
  ∀ (f:Nat) (listed:Array Bool) (a:Act) (w:World),Zts P md ops cs Q f listed a w->wpAnyIn (Fence.wide.inRound l0) n P md ops Q' f listed a w
 | 0,_,_,_,h=>⟨h.1,hQ _ _ h.2⟩
 | f+1,_,_,_,h=>⟨fun h0=>absurd h0 h.1,fun i hi=>Zic (fun _ c ho=>(Zed cZ ho).1 c) (fun _ c ho=>(Zed cZ ho).2 c) (fun a' w' h'=>Zh6 cZ hQ f _ a' w' h'.2) (h.2 i hi)⟩
theorem Zak{id l0 n:Nat}{Q:Exit->Act->World->Prop}{a:Act}{w:World}{l:List Oper}(ord:List (Nat×Nat))(cs:List (Nat×(World->Prop)))(hm:P.follows .mixedOrders=true)
  (hB:(Region.noSelect l.toArray&&decide (ord.length=l.length)&&Zkj l.toArray&&Zsk .any l.toArray (cs.map Prod.fst) ord (Array.replicate l.length false))=true)
  (hC:Yl cs (fun _=>false) { w with drawn:=w.drawn+1 }) (h:Yf P l.toArray cs (fun a' w'=>Q .normal a' w') ord (fun _=>false) a { w with drawn:=w.drawn+1 }):(Code.region id l.toArray true).wpIn (Fence.wide.inRound l0) n P Q a w:=by
 simp only[Bool.and_eq_true,decide_eq_true_eq] at hB;obtain⟨⟨⟨hsel,gd⟩,cZ⟩,hord⟩:=hB;refine wpIn_region_any hm ?_;have:=Zh6 (l0:=l0) (n:=n) (Q':=Q) cZ (fun a w h=>h) _ _ _ _ (Qer hsel hord hC h)
 rw[gd] at this
 simpa using this
theorem Zb1{s i:Nat}{Q:Act->World->Prop}{l:List (Nat×Nat)}{b:Nat->Bool}{a:Act}{w:World}{lo:List Oper}(c:Nat×(World->Prop))(hc:c∈cs)(hs:c.1=s)(h:wpQuiet P lo.toArray c.2 (fun a'=>Yf P lo.toArray cs Q l b a' w) ((lo.drop i).take 1) a):Yf P lo.toArray cs Q ((s+2,i)::l) b a w:=by
 simp only[Yf,RP.pick_one];rw[if_neg (by omega),if_neg (by omega)];exact⟨c,hc,by omega,h⟩
theorem Zc6{i:Nat}{Q:Act->World->Prop}{l:List (Nat×Nat)}{b:Nat->Bool}{a:Act}{w:World}{lo:List Oper}(h:wpQuiet P lo.toArray (fun _=>True) (fun a'=>Yf P lo.toArray cs Q l b a' w) ((lo.drop i).take 1) a):Yf P lo.toArray cs Q ((1,i)::l) b a w:=by
 simp only[Yf,RP.pick_one];exact h
theorem Zb2{i:Nat}{Q:Act->World->Prop}{l:List (Nat×Nat)}{b:Nat->Bool}{a:Act}{w:World}{lo:List Oper}
  (h:wpList P lo.toArray (fun e a' w'=>e = .normal/\Yl cs (fun s=>b s||i==s) w'/\Yf P lo.toArray cs Q l (fun s=>b s||i==s) a' w') ((lo.drop i).take 1) a w):Yf P lo.toArray cs Q ((0,i)::l) b a w:=by
 simp only[Yf,RP.pick_one];exact h
end
end Go.Proofs.YtbielfplgbammaaGreatDoor
