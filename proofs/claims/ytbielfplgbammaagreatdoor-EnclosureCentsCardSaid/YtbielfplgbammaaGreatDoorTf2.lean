/- Lemmas for the laws of this seat, part 2. -/
import Derived.StillTail
import Derived.Lib.QuietBelow
import Derived.Test.YtbielfplgbammaaGreatDoorRows
import Derived.Stop.LaidErr
import Derived.Lib.LaidTab
import Derived.ProofKit
import Derived.LaidMore
import Derived.OpenShut
import Derived.Stop.Joined
import Derived.MakeChecks
import Derived.BigQuiet
import Derived.Maps.AppendAt
import Derived.RangeFuncNested
import Derived.RangeFuncBound
import Derived.RangeFuncCalls
import Derived.RangeFuncLeaves
import Derived.Shelf.Abstract
import Derived.Shelf.RegionOpen
import Derived.OwnWalkIn
import Derived.TacticsInMore
import Derived.LoopNIn
import Derived.LoopIn
import Derived.Laws.BitsLemmas
import Derived.Laws.Bits64
import Derived.OrdersIn
import Derived.Test.YtbielfplgbammaaGreatDoorTf1
set_option maxRecDepth 100000
set_option maxHeartbeats 16000000
namespace Go.Proofs.YtbielfplgbammaaGreatDoor
open Go.RowKit
def Zey (a b:Int):Int:=if a<b then -1 else if a=b then 0 else 1
theorem Qcr(a b:Int)(ha:a<0)(hb:b<0):Zbb b.natAbs a.natAbs=Zey a b:=by
 unfold Zbb Zey
 by_cases h1:a<b
 ·rw[if_pos h1,if_pos (by omega)]
 ·rw[if_neg h1,if_neg (by omega)]
  by_cases h2:a=b
  ·rw[if_pos h2,if_pos (by omega)]
  ·rw[if_neg h2,if_neg (by omega)]
theorem Qcq(a b:Int)(ha:0<=a)(hb:0<=b):Zbb a.natAbs b.natAbs=Zey a b:=by
 unfold Zbb Zey
 by_cases h1:a<b
 ·rw[if_pos h1,if_pos (by omega)]
 ·rw[if_neg h1,if_neg (by omega)]
  by_cases h2:a=b
  ·rw[if_pos h2,if_pos (by omega)]
  ·rw[if_neg h2,if_neg (by omega)]
theorem Kv(a:Int):(a<0/\a.sign = -1)\/(a=0/\a.sign=0)\/(0<a/\a.sign=1):=by
 rcases Int.lt_trichotomy a 0 with h|h|h
 ·exact .inl ⟨h,Int.sign_eq_neg_one_of_neg h⟩
 ·subst h;exact .inr (.inl ⟨rfl,rfl⟩)
 ·exact .inr (.inr ⟨h,Int.sign_eq_one_of_pos h⟩)
theorem Zmf(a b:Int)(h:a.sign<b.sign):a<b:=by
 rcases Kv a with⟨h1,e1⟩|⟨h1,e1⟩|⟨h1,e1⟩<;>rcases Kv b with⟨h2,e2⟩|⟨h2,e2⟩|⟨h2,e2⟩<;>omega
theorem Zuy(a b:Int)(h:a.sign=b.sign):(a<0/\b<0)\/(0<=a/\0<=b):=by
 rcases Kv a with⟨h1,e1⟩|⟨h1,e1⟩|⟨h1,e1⟩<;>rcases Kv b with⟨h2,e2⟩|⟨h2,e2⟩|⟨h2,e2⟩<;>omega
theorem Zde(w:World)(a b:Int)(ha:Zbo a)(hb:Zbo b):
  Kc Tryz.prog 17 #[.string (itx a),.string (itx b)] w (.int .i64 (Zey a b)):=by
 unfold Kc;have aE:=hd_ (fun W=>Ys W a);have bz:=hd_ (fun W=>Ys W b);have Gs:=hd_ (fun W=>Ya W a);have GA:=hd_ (fun W=>Ya W b);have bb:(dec a.natAbs).size<=10000000:=Nat.le_trans ha (by decide);have fc:(dec b.natAbs).size<=10000000:=Nat.le_trans hb (by decide);rcases Int.lt_trichotomy a.sign b.sign with hs|hs|hs
 ·have Hv:Hid (Zey a b = -1):=by
   show _=_
   unfold Zey;rw[if_pos (Zmf a b hs)]
  have gm:(a.sign != b.sign)=true:=by rw[bne_iff_ne];omega
  rw[Hv.o];clear Gs GA;generalize a.sign=x at *;generalize b.sign=y at *;generalize itx a=s at *;generalize itx b=t at *;go_enter Tryz.func17,Tryz.ntmps17;go_wp2_with fail;refine cm_ (aE.o w) ?_;rintro e w1 ⟨rfl,HU⟩;have H6:=hd_ HU;clear HU;go_wp2_with fail;refine cm_ (bz.o w1) ?_;rintro e w2 ⟨rfl,H7⟩;have H9:=bt_ H6 H7;clear H7 H6;go_wp2;go_ret;exact⟨rfl,H9.o⟩
 ·rcases Zuy a b hs with⟨h1,h2⟩ | ⟨h1,h2⟩
  ·have GZ:=hd_ (fun W=>Zbn W b.natAbs a.natAbs fc bb);rw[Qcr a b h1 h2] at GZ;rw[decide_eq_true h1] at Gs;have gm:(b.sign != b.sign)=false:=by simp
   rw[hs] at aE;clear hs h1 h2 bb fc;generalize Zey a b=c at *;generalize b.sign=y at *;generalize itx a=s at *;generalize itx b=t at *;generalize dec a.natAbs=sm at *;generalize dec b.natAbs=tm at *;go_enter Tryz.func17,Tryz.ntmps17;go_wp2_with fail;refine cm_ (aE.o w) ?_;rintro e w1 ⟨rfl,HU⟩;have H6:=hd_ HU;clear HU;go_wp2_with fail;refine cm_ (bz.o w1) ?_;rintro e w2 ⟨rfl,H7⟩;have H9:=bt_ H6 H7;clear H7 H6;go_wp2_with fail;refine cm_ (Gs.o w2) ?_;rintro e w3 ⟨rfl,hb3⟩;have gk:=bt_ H9 hb3;clear hb3 H9;go_wp2_with fail;refine cm_ (GA.o w3) ?_;rintro e w4 ⟨rfl,gz⟩;have gq:=bt_ gk gz;clear gz gk;go_wp2_with fail;refine cm_ (GZ.o w4) ?_;rintro e w5 ⟨rfl,hb5⟩;have gD:=bt_ gq hb5;clear hb5 gq;go_wp2;go_ret;exact⟨rfl,gD.o⟩
  ·have GZ:=hd_ (fun W=>Zbn W a.natAbs b.natAbs bb fc);rw[Qcq a b h1 h2] at GZ;rw[decide_eq_false (show ¬ a<0 by omega)] at Gs;have gm:(b.sign != b.sign)=false:=by simp
   rw[hs] at aE;clear hs h1 h2 bb fc;generalize Zey a b=c at *;generalize b.sign=y at *;generalize itx a=s at *;generalize itx b=t at *;generalize dec a.natAbs=sm at *;generalize dec b.natAbs=tm at *;go_enter Tryz.func17,Tryz.ntmps17;go_wp2_with fail;refine cm_ (aE.o w) ?_;rintro e w1 ⟨rfl,HU⟩;have H6:=hd_ HU;clear HU;go_wp2_with fail;refine cm_ (bz.o w1) ?_;rintro e w2 ⟨rfl,H7⟩;have H9:=bt_ H6 H7;clear H7 H6;go_wp2_with fail;refine cm_ (Gs.o w2) ?_;rintro e w3 ⟨rfl,hb3⟩;have gk:=bt_ H9 hb3;clear hb3 H9;go_wp2_with fail;refine cm_ (GA.o w3) ?_;rintro e w4 ⟨rfl,gz⟩;have gq:=bt_ gk gz;clear gz gk;go_wp2_with fail;refine cm_ (GZ.o w4) ?_;rintro e w5 ⟨rfl,hb5⟩;have gD:=bt_ gq hb5;clear hb5 gq;go_wp2;go_ret;exact⟨rfl,gD.o⟩
 ·have Hv:Hid (Zey a b=1):=by
   show _=_
   have:=Zmf b a hs
   unfold Zey;rw[if_neg (by omega),if_neg (by omega)]
  have gm:(a.sign != b.sign)=true:=by rw[bne_iff_ne];omega
  rw[Hv.o];clear Gs GA;generalize a.sign=x at *;generalize b.sign=y at *;generalize itx a=s at *;generalize itx b=t at *;go_enter Tryz.func17,Tryz.ntmps17;go_wp2_with fail;refine cm_ (aE.o w) ?_;rintro e w1 ⟨rfl,HU⟩;have H6:=hd_ HU;clear HU;go_wp2_with fail;refine cm_ (bz.o w1) ?_;rintro e w2 ⟨rfl,H7⟩;have H9:=bt_ H6 H7;clear H7 H6;go_wp2;go_ret;exact⟨rfl,H9.o⟩
theorem Zlh(n b:Nat):(n:Int)/(b:Int)=((n/b:Nat):Int)/\(n:Int)%(b:Int)=((n%b:Nat):Int):=⟨rfl,rfl⟩
theorem Zbv(n b:Nat)(hb:0<b)(h:n%b=0): -(n:Int)/(b:Int) = -((n/b:Nat):Int) /\ -(n:Int)%(b:Int)=0:=by
 rw[Int.ediv_emod_unique (by omega)];have h1:=Nat.div_add_mod n b;rw[h] at h1;have h2:((b*(n/b)+0:Nat):Int)=(n:Int):=congrArg Nat.cast h1;rw[Nat.add_zero,Int.natCast_mul] at h2;refine⟨?_,by omega,by omega⟩;rw[Int.mul_neg,h2];omega
theorem Zcp(n b:Nat)(hb:0<b)(h:n%b≠0): -(n:Int)/(b:Int) = -((n/b:Nat):Int)-1 /\ -(n:Int)%(b:Int)=(b:Int)-((n%b:Nat):Int):=by
 rw[Int.ediv_emod_unique (by omega)];have h1:=Nat.div_add_mod n b;have h3:=Nat.mod_lt n hb;have h2:((b*(n/b)+n%b:Nat):Int)=(n:Int):=congrArg Nat.cast h1;rw[Int.natCast_add,Int.natCast_mul] at h2;refine⟨?_,by omega,by omega⟩;rw[Int.mul_sub,Int.mul_neg,Int.mul_one];omega
theorem Yj(w:World)(a:Int)(b:Nat)(ha:Zbo a)(hb:Num b)(Gu:0<b)(G2:Num (a.natAbs+1))(L:Qg w):
  Kc Tryz.prog 163 #[.string (itx a),.string (dec b)] w (.tuple #[.string (itx (a/(b:Int))),.string (itx (a%(b:Int))),.int .i64 0]):=by
 unfold Kc;have hz:=Zd b;rw[decide_eq_false (show ¬ b=0 by omega)] at hz;have gE:=hd_ (fun W=>Zaa W a ha 18 (by decide));have gJ:=hd_ (fun W=>Zdw W b hb 18 (by decide));have HL:=hd_ L;have Gs:=hd_ (fun W=>Ya W a);have GA:Hid (∀ W,Kc Tryz.prog 50 #[.string (dec b)] W (.tuple #[.bool false,.string (dec b)])):=fun W=>by
  have:=Ya W (b:Int)
  rw[Kg,decide_eq_false (show ¬ (b:Int)<0 by omega)] at this;exact this
 have fL:Hid (∀ W,Bw_ w W->Kc Tryz.prog 227 #[.string (dec a.natAbs),.string (dec b)] W (.tuple #[.string (dec (a.natAbs/b)),.string (dec (a.natAbs%b)),.int .i64 0])):=fun W hW=>by
  have:=Zff W a.natAbs b ha hb (HL.o.below hW)
  rw[if_neg (show ¬ b=0 by omega)] at this;exact this
 have Iw:∀ (P:Prop),((∀ W,Kc Tryz.prog 54 #[.string (itx a),.int .i64 18] W (.tuple #[.int .i64 0,.bool false]))->P)->(((itx a).size<=18/\¬ (dec b).size<=18)->P)->(((itx a).size<=18/\(dec b).size<=18)->P)->P:=fun P h1 h2 h3=>by
  by_cases q1:(itx a).size<=18
  ·by_cases q2:(dec b).size<=18
   ·exact h3 ⟨q1,q2⟩
   ·exact h2 ⟨q1,q2⟩
  ·rw[if_neg q1] at gE;exact h1 gE.o
 clear L;refine Iw _ (fun fJ=>?_) (fun hl=>?_) (fun hl=>?_)
 ·have Hl:=hd_ fJ;clear fJ gE gJ Iw
  by_cases hn:a<0
  ·rw[decide_eq_true hn] at Gs;obtain⟨n,rfl⟩:∃ n:Nat,a = -(n:Int):=⟨a.natAbs,by omega⟩;have hN:Num n:=by
    have h:Num (-(n:Int)).natAbs:=ha;rw[show (-(n:Int)).natAbs=n by omega] at h;exact h
   rw[show (-(n:Int)).natAbs=n by omega] at *
   by_cases hr:n%b=0
   ·obtain⟨e1,e2⟩:=Zbv n b Gu hr;rw[e1,e2];have Co:=Zd (n%b);rw[decide_eq_true hr] at Co;have fd:=hd_ (fun W=>Vl W true (n/b) (Num.le hN (Nat.div_le_self _ _)));have GY:=hd_ (fun W=>Vl W false (n%b) (Num.le hN (Nat.mod_le _ _)));rw[show jz true (n/b) = -((n/b:Nat):Int) from rfl] at fd;rw[show jz false (n%b)=((n%b:Nat):Int) from rfl,hr,show ((0:Nat):Int)=0 from rfl] at GY;rw[hr] at Co fL;clear e1 e2 hr hn;generalize itx (-((n/b:Nat):Int))=r1 at *;generalize itx 0=r2 at *;generalize itx (-(n:Int))=s at *;generalize dec (n/b)=qd at *;generalize dec 0=rd at *;generalize dec n=sm at *;generalize dec b=tm at *;go_enter Tryz.func163,Tryz.ntmps163;go_wp2_with fail;refine cm_ (Hl.o w) ?_;rintro e w1 ⟨rfl,HU⟩;have H6:=hd_ HU;clear HU Hl;go_wp2_with fail;refine cm_ (Gs.o w1) ?_;rintro e w2 ⟨rfl,H7⟩;have H9:=bt_ H6 H7;clear H7 H6 Gs;go_wp2_with fail;refine cm_ (GA.o w2) ?_;rintro e w3 ⟨rfl,hb3⟩;have gk:=bt_ H9 hb3;clear hb3 H9 GA;go_wp2_with fail;refine cm_ (fL.o w3 gk.o) ?_;rintro e w4 ⟨rfl,gz⟩;have gq:=bt_ gk gz;clear gz gk fL;go_wp2_with fail;refine cm_ (fd.o w4) ?_;rintro e w5 ⟨rfl,hb5⟩;have gD:=bt_ gq hb5;clear hb5 gq fd;go_wp2_with fail;refine cm_ (GY.o w5) ?_;rintro e w6 ⟨rfl,hb6⟩;have Gc:=bt_ gD hb6;clear hb6 gD GY;go_wp2
    go_ret3
    exact⟨rfl,Gc.o⟩
   ·obtain⟨e1,e2⟩:=Zcp n b Gu hr;have ED:=Nat.mod_lt n Gu;have e3 : -((n/b:Nat):Int)-1 = -((n/b+1:Nat):Int):=by omega
    have e4:(b:Int)-((n%b:Nat):Int)=((b-n%b:Nat):Int):=by omega
    rw[e1,e2,e3,e4];have Co:=Zd (n%b);rw[decide_eq_false hr] at Co;have Fb:Num (n/b+1):=Num.le G2 (Nat.succ_le_succ (Nat.div_le_self _ _));have Gw:Hid (∀ W,Bw_ w W->Kc Tryz.prog 228 #[.string (dec (n/b)),.string ⟨#[49]⟩] W (.string (dec (n/b+1)))):=fun W hW=>by
     have:=Zqe W (n/b) 1 (Num.le hN (Nat.div_le_self _ _)) (Num.le G2 (by omega)) (HL.o.below hW)
     rw[Yo] at this;exact this
    have Fp:Hid (∀ W,Bw_ w W->Kc Tryz.prog 229 #[.string (dec b),.string (dec (n%b))] W (.tuple #[.string (dec (b-n%b)),.int .i64 0])):=fun W hW=>by
     have:=Zkh W b (n%b) hb (Num.le hN (Nat.mod_le _ _)) (HL.o.below hW)
     rw[if_neg (by omega)] at this;exact this
    have fd:=hd_ (fun W=>Vl W true (n/b+1) Fb);have GY:=hd_ (fun W=>Vl W false (b-n%b) (Num.le hb (Nat.sub_le _ _)));rw[show jz true (n/b+1) = -((n/b+1:Nat):Int) from rfl] at fd;rw[show jz false (b-n%b)=((b-n%b:Nat):Int) from rfl] at GY;clear e1 e2 e3 e4 hr hn ED;generalize itx (-((n/b+1:Nat):Int))=r1 at *;generalize itx ((b-n%b:Nat):Int)=r2 at *;generalize itx (-(n:Int))=s at *;generalize dec (n/b+1)=qe at *;generalize dec (b-n%b)=re at *;generalize dec (n/b)=qd at *;generalize dec (n%b)=rd at *;generalize dec n=sm at *;generalize dec b=tm at *;go_enter Tryz.func163,Tryz.ntmps163;go_wp2_with fail;refine cm_ (Hl.o w) ?_;rintro e w1 ⟨rfl,HU⟩;have H6:=hd_ HU;clear HU Hl;go_wp2_with fail;refine cm_ (Gs.o w1) ?_;rintro e w2 ⟨rfl,H7⟩;have H9:=bt_ H6 H7;clear H7 H6 Gs;go_wp2_with fail;refine cm_ (GA.o w2) ?_;rintro e w3 ⟨rfl,hb3⟩;have gk:=bt_ H9 hb3;clear hb3 H9 GA;go_wp2_with fail;refine cm_ (fL.o w3 gk.o) ?_;rintro e w4 ⟨rfl,gz⟩;have gq:=bt_ gk gz;clear gz gk fL;go_wp2_with fail;refine cm_ (Gw.o w4 gq.o) ?_;rintro e w5 ⟨rfl,hb5⟩;have gD:=bt_ gq hb5;clear hb5 gq Gw;go_wp2_with fail;refine cm_ (Fp.o w5 gD.o) ?_;rintro e w6 ⟨rfl,hb6⟩;have Gc:=bt_ gD hb6;clear hb6 gD Fp;go_wp2_with fail;refine cm_ (fd.o w6) ?_;rintro e w7 ⟨rfl,hb7⟩;have Fr:=bt_ Gc hb7;clear hb7 Gc fd;go_wp2_with fail;refine cm_ (GY.o w7) ?_;rintro e w8 ⟨rfl,GT⟩;have CM:=bt_ Fr GT;clear GT Fr GY;go_wp2
    go_ret3
    exact⟨rfl,CM.o⟩
  ·rw[decide_eq_false hn] at Gs;obtain⟨n,rfl⟩:∃ n:Nat,a=(n:Int):=⟨a.natAbs,by omega⟩;have hN:Num n:=ha;rw[show ((n:Int)).natAbs=n by omega] at *
   have fd:=hd_ (fun W=>Vl W false (n/b) (Num.le hN (Nat.div_le_self _ _)));have GY:=hd_ (fun W=>Vl W false (n%b) (Num.le hN (Nat.mod_le _ _)));rw[show jz false (n/b)=(n:Int)/(b:Int) from rfl] at fd;rw[show jz false (n%b)=(n:Int)%(b:Int) from rfl] at GY;clear hn;generalize itx ((n:Int)/(b:Int))=r1 at *;generalize itx ((n:Int)%(b:Int))=r2 at *;generalize itx (n:Int)=s at *;generalize dec (n/b)=qd at *;generalize dec (n%b)=rd at *;generalize dec n=sm at *;generalize dec b=tm at *;go_enter Tryz.func163,Tryz.ntmps163;go_wp2_with fail;refine cm_ (Hl.o w) ?_;rintro e w1 ⟨rfl,HU⟩;have H6:=hd_ HU;clear HU Hl;go_wp2_with fail;refine cm_ (Gs.o w1) ?_;rintro e w2 ⟨rfl,H7⟩;have H9:=bt_ H6 H7;clear H7 H6 Gs;go_wp2_with fail;refine cm_ (GA.o w2) ?_;rintro e w3 ⟨rfl,hb3⟩;have gk:=bt_ H9 hb3;clear hb3 H9 GA;go_wp2_with fail;refine cm_ (fL.o w3 gk.o) ?_;rintro e w4 ⟨rfl,gz⟩;have gq:=bt_ gk gz;clear gz gk fL;go_wp2_with fail;refine cm_ (fd.o w4) ?_;rintro e w5 ⟨rfl,hb5⟩;have gD:=bt_ gq hb5;clear hb5 gq fd;go_wp2_with fail;refine cm_ (GY.o w5) ?_;rintro e w6 ⟨rfl,hb6⟩;have Gc:=bt_ gD hb6;clear hb6 gD GY;go_wp2
   go_ret3
   exact⟨rfl,Gc.o⟩
 ·rw[if_pos hl.1] at gE;rw[if_neg hl.2] at gJ;clear hl Iw
  by_cases hn:a<0
  ·rw[decide_eq_true hn] at Gs;obtain⟨n,rfl⟩:∃ n:Nat,a = -(n:Int):=⟨a.natAbs,by omega⟩;have hN:Num n:=by
    have h:Num (-(n:Int)).natAbs:=ha;rw[show (-(n:Int)).natAbs=n by omega] at h;exact h
   rw[show (-(n:Int)).natAbs=n by omega] at *
   by_cases hr:n%b=0
   ·obtain⟨e1,e2⟩:=Zbv n b Gu hr;rw[e1,e2];have Co:=Zd (n%b);rw[decide_eq_true hr] at Co;have fd:=hd_ (fun W=>Vl W true (n/b) (Num.le hN (Nat.div_le_self _ _)));have GY:=hd_ (fun W=>Vl W false (n%b) (Num.le hN (Nat.mod_le _ _)));rw[show jz true (n/b) = -((n/b:Nat):Int) from rfl] at fd;rw[show jz false (n%b)=((n%b:Nat):Int) from rfl,hr,show ((0:Nat):Int)=0 from rfl] at GY;rw[hr] at Co fL;clear e1 e2 hr hn;generalize itx (-((n/b:Nat):Int))=r1 at *;generalize itx 0=r2 at *;generalize itx (-(n:Int))=s at *;generalize dec (n/b)=qd at *;generalize dec 0=rd at *;generalize dec n=sm at *;generalize dec b=tm at *;go_enter Tryz.func163,Tryz.ntmps163;go_wp2_with fail;refine cm_ (gE.o w) ?_;rintro e w1 ⟨rfl,HU⟩;have H6:=hd_ HU;clear HU gE;go_wp2_with fail;refine cm_ (gJ.o w1) ?_;rintro e w2 ⟨rfl,H7⟩;have H9:=bt_ H6 H7;clear H7 H6 gJ;go_wp2_with fail;refine cm_ (Gs.o w2) ?_;rintro e w3 ⟨rfl,hb3⟩;have gk:=bt_ H9 hb3;clear hb3 H9 Gs;go_wp2_with fail;refine cm_ (GA.o w3) ?_;rintro e w4 ⟨rfl,gz⟩;have gq:=bt_ gk gz;clear gz gk GA;go_wp2_with fail;refine cm_ (fL.o w4 gq.o) ?_;rintro e w5 ⟨rfl,hb5⟩;have gD:=bt_ gq hb5;clear hb5 gq fL;go_wp2_with fail;refine cm_ (fd.o w5) ?_;rintro e w6 ⟨rfl,hb6⟩;have Gc:=bt_ gD hb6;clear hb6 gD fd;go_wp2_with fail;refine cm_ (GY.o w6) ?_;rintro e w7 ⟨rfl,hb7⟩;have Fr:=bt_ Gc hb7;clear hb7 Gc GY;go_wp2
    go_ret3
    exact⟨rfl,Fr.o⟩
   ·obtain⟨e1,e2⟩:=Zcp n b Gu hr;have ED:=Nat.mod_lt n Gu;have e3 : -((n/b:Nat):Int)-1 = -((n/b+1:Nat):Int):=by omega
    have e4:(b:Int)-((n%b:Nat):Int)=((b-n%b:Nat):Int):=by omega
    rw[e1,e2,e3,e4];have Co:=Zd (n%b);rw[decide_eq_false hr] at Co;have Fb:Num (n/b+1):=Num.le G2 (Nat.succ_le_succ (Nat.div_le_self _ _));have Gw:Hid (∀ W,Bw_ w W->Kc Tryz.prog 228 #[.string (dec (n/b)),.string ⟨#[49]⟩] W (.string (dec (n/b+1)))):=fun W hW=>by
     have:=Zqe W (n/b) 1 (Num.le hN (Nat.div_le_self _ _)) (Num.le G2 (by omega)) (HL.o.below hW)
     rw[Yo] at this;exact this
    have Fp:Hid (∀ W,Bw_ w W->Kc Tryz.prog 229 #[.string (dec b),.string (dec (n%b))] W (.tuple #[.string (dec (b-n%b)),.int .i64 0])):=fun W hW=>by
     have:=Zkh W b (n%b) hb (Num.le hN (Nat.mod_le _ _)) (HL.o.below hW)
     rw[if_neg (by omega)] at this;exact this
    have fd:=hd_ (fun W=>Vl W true (n/b+1) Fb);have GY:=hd_ (fun W=>Vl W false (b-n%b) (Num.le hb (Nat.sub_le _ _)));rw[show jz true (n/b+1) = -((n/b+1:Nat):Int) from rfl] at fd;rw[show jz false (b-n%b)=((b-n%b:Nat):Int) from rfl] at GY;clear e1 e2 e3 e4 hr hn ED;generalize itx (-((n/b+1:Nat):Int))=r1 at *;generalize itx ((b-n%b:Nat):Int)=r2 at *;generalize itx (-(n:Int))=s at *;generalize dec (n/b+1)=qe at *;generalize dec (b-n%b)=re at *;generalize dec (n/b)=qd at *;generalize dec (n%b)=rd at *;generalize dec n=sm at *;generalize dec b=tm at *;go_enter Tryz.func163,Tryz.ntmps163;go_wp2_with fail;refine cm_ (gE.o w) ?_;rintro e w1 ⟨rfl,HU⟩;have H6:=hd_ HU;clear HU gE;go_wp2_with fail;refine cm_ (gJ.o w1) ?_;rintro e w2 ⟨rfl,H7⟩;have H9:=bt_ H6 H7;clear H7 H6 gJ;go_wp2_with fail;refine cm_ (Gs.o w2) ?_;rintro e w3 ⟨rfl,hb3⟩;have gk:=bt_ H9 hb3;clear hb3 H9 Gs;go_wp2_with fail;refine cm_ (GA.o w3) ?_;rintro e w4 ⟨rfl,gz⟩;have gq:=bt_ gk gz;clear gz gk GA;go_wp2_with fail;refine cm_ (fL.o w4 gq.o) ?_;rintro e w5 ⟨rfl,hb5⟩;have gD:=bt_ gq hb5;clear hb5 gq fL;go_wp2_with fail;refine cm_ (Gw.o w5 gD.o) ?_;rintro e w6 ⟨rfl,hb6⟩;have Gc:=bt_ gD hb6;clear hb6 gD Gw;go_wp2_with fail;refine cm_ (Fp.o w6 Gc.o) ?_;rintro e w7 ⟨rfl,hb7⟩;have Fr:=bt_ Gc hb7;clear hb7 Gc Fp;go_wp2_with fail;refine cm_ (fd.o w7) ?_;rintro e w8 ⟨rfl,GT⟩;have CM:=bt_ Fr GT;clear GT Fr fd;go_wp2_with fail;refine cm_ (GY.o w8) ?_;rintro e w9 ⟨rfl,De⟩;have iB:=bt_ CM De;clear De CM GY;go_wp2
    go_ret3
    exact⟨rfl,iB.o⟩
  ·rw[decide_eq_false hn] at Gs;obtain⟨n,rfl⟩:∃ n:Nat,a=(n:Int):=⟨a.natAbs,by omega⟩;have hN:Num n:=ha;rw[show ((n:Int)).natAbs=n by omega] at *
   have fd:=hd_ (fun W=>Vl W false (n/b) (Num.le hN (Nat.div_le_self _ _)));have GY:=hd_ (fun W=>Vl W false (n%b) (Num.le hN (Nat.mod_le _ _)));rw[show jz false (n/b)=(n:Int)/(b:Int) from rfl] at fd;rw[show jz false (n%b)=(n:Int)%(b:Int) from rfl] at GY;clear hn;generalize itx ((n:Int)/(b:Int))=r1 at *;generalize itx ((n:Int)%(b:Int))=r2 at *;generalize itx (n:Int)=s at *;generalize dec (n/b)=qd at *;generalize dec (n%b)=rd at *;generalize dec n=sm at *;generalize dec b=tm at *;go_enter Tryz.func163,Tryz.ntmps163;go_wp2_with fail;refine cm_ (gE.o w) ?_;rintro e w1 ⟨rfl,HU⟩;have H6:=hd_ HU;clear HU gE;go_wp2_with fail;refine cm_ (gJ.o w1) ?_;rintro e w2 ⟨rfl,H7⟩;have H9:=bt_ H6 H7;clear H7 H6 gJ;go_wp2_with fail;refine cm_ (Gs.o w2) ?_;rintro e w3 ⟨rfl,hb3⟩;have gk:=bt_ H9 hb3;clear hb3 H9 Gs;go_wp2_with fail;refine cm_ (GA.o w3) ?_;rintro e w4 ⟨rfl,gz⟩;have gq:=bt_ gk gz;clear gz gk GA;go_wp2_with fail;refine cm_ (fL.o w4 gq.o) ?_;rintro e w5 ⟨rfl,hb5⟩;have gD:=bt_ gq hb5;clear hb5 gq fL;go_wp2_with fail;refine cm_ (fd.o w5) ?_;rintro e w6 ⟨rfl,hb6⟩;have Gc:=bt_ gD hb6;clear hb6 gD fd;go_wp2_with fail;refine cm_ (GY.o w6) ?_;rintro e w7 ⟨rfl,hb7⟩;have Fr:=bt_ Gc hb7;clear hb7 Gc GY;go_wp2
   go_ret3
   exact⟨rfl,Fr.o⟩
 ·rw[if_pos hl.1] at gE;rw[if_pos hl.2] at gJ;have q1:=Zc a 18 (by decide) hl.1;have q2:=(Vt b).1 hl.2;clear hl Iw Gs GA fL;have Gj:Hid (∀ W,Bw_ w W->∀ z:Int,-9223372036854775808<=z->z<=9223372036854775807->Kc Tryz.prog 13 #[.int .i64 z] W (.string (itx z))):=fun W hW z h0 h1=>Zam W z h0 h1 (HL.o.below hW)
  have l5:((b:Int)==0)=false:=by rw[beq_eq_false_iff_ne];omega
  have oF:¬ (b:Int)<0:=by omega
  have oG:¬ (b:Int)=0:=by omega
  by_cases hn:a<0
  ·obtain⟨n,rfl⟩:∃ n:Nat,a = -(n:Int):=⟨a.natAbs,by omega⟩;have Fb:n<1000000000000000000:=by omega
   have Db:n/b<=n:=Nat.div_le_self _ _;have ED:n%b<=n:=Nat.mod_le _ _;have lF:Int.tdiv (-(n:Int)) (b:Int) = -((n/b:Nat):Int):=by rw[Int.neg_tdiv,<- Int.ofNat_tdiv]
   have et:Int.tmod (-(n:Int)) (b:Int) = -((n%b:Nat):Int):=by rw[Int.neg_tmod,<- Int.ofNat_tmod]
   by_cases hr:n%b=0
   ·obtain⟨e1,e2⟩:=Zbv n b Gu hr;rw[e1,e2];rw[hr] at et;rw[show -((0:Nat):Int)=0 from rfl] at et;clear e1 e2 hr ED;generalize n/b=q at *;have fH:IntKind.i64.wrap (-(q:Int)) = -(q:Int):=iw_ _ (by omega);have fM:IntKind.i64.wrap 0=0:=iw_ _ (by omega);have Gd : -9223372036854775808 <= -(q:Int):=by omega
    have gQ : -(q:Int)<=9223372036854775807:=by omega
    have dE:(-9223372036854775808:Int)<=0:=by omega
    have eN:(0:Int)<=9223372036854775807:=by omega
    generalize itx (-(n:Int))=s at *;generalize dec b=tm at *;go_enter Tryz.func163,Tryz.ntmps163;go_wp2_with fail;refine cm_ (gE.o w) ?_;rintro e w1 ⟨rfl,HU⟩;have H6:=hd_ HU;clear HU gE;go_wp2_with fail;refine cm_ (gJ.o w1) ?_;rintro e w2 ⟨rfl,H7⟩;have H9:=bt_ H6 H7;clear H7 H6 gJ;go_wp2_with fail
    go_quiet (fail)
    have gk:Hid (Bw_ w (w2.drewN nq)):=Qb H9.o _;clear H9;generalize w2.drewN nq=w3 at *;go_wp2_with fail;refine cm_ (Gj.o w3 gk.o _ (by omega) (by omega)) ?_;rintro e w4 ⟨rfl,gz⟩;have gq:=bt_ gk gz;clear gz gk;go_wp2_with fail;refine cm_ (Gj.o w4 gq.o _ (by omega) (by omega)) ?_;rintro e w5 ⟨rfl,hb5⟩;have gD:=bt_ gq hb5;clear hb5 gq;go_wp2
    go_ret3
    exact⟨rfl,gD.o⟩
   ·obtain⟨e1,e2⟩:=Zcp n b Gu hr;rw[e1,e2];have jw:=Nat.mod_lt n Gu;have Ca:0<n%b:=by omega
    clear e1 e2 hr;generalize n/b=q at *;generalize n%b=r at *;have fH:IntKind.i64.wrap (-(q:Int)) = -(q:Int):=iw_ _ (by omega);have fM:IntKind.i64.wrap (-(r:Int)) = -(r:Int):=iw_ _ (by omega);have dX:IntKind.i64.wrap (-(q:Int)-1) = -(q:Int)-1:=iw_ _ (by omega);have es:IntKind.i64.wrap (-(r:Int)+(b:Int)) = -(r:Int)+(b:Int):=iw_ _ (by omega);have Gd : -9223372036854775808 <= -(q:Int)-1:=by omega
    have gQ : -(q:Int)-1<=9223372036854775807:=by omega
    have dE:(-9223372036854775808:Int) <= -(r:Int)+(b:Int):=by omega
    have eN : -(r:Int)+(b:Int)<=9223372036854775807:=by omega
    have MA:(-(r:Int) != 0)=true:=by rw[bne_iff_ne];omega
    have MB : -(r:Int)<0:=by omega
    rw[show (b:Int)-(r:Int) = -(r:Int)+(b:Int) by omega];generalize itx (-(n:Int))=s at *;generalize dec b=tm at *;go_enter Tryz.func163,Tryz.ntmps163;go_wp2_with fail;refine cm_ (gE.o w) ?_;rintro e w1 ⟨rfl,HU⟩;have H6:=hd_ HU;clear HU gE;go_wp2_with fail;refine cm_ (gJ.o w1) ?_;rintro e w2 ⟨rfl,H7⟩;have H9:=bt_ H6 H7;clear H7 H6 gJ;go_wp2_with fail
    go_quiet (fail)
    have gk:Hid (Bw_ w (w2.drewN nq)):=Qb H9.o _;clear H9;generalize w2.drewN nq=w3 at *;go_wp2_with fail;refine cm_ (Gj.o w3 gk.o _ (by omega) (by omega)) ?_;rintro e w4 ⟨rfl,gz⟩;have gq:=bt_ gk gz;clear gz gk;go_wp2_with fail;refine cm_ (Gj.o w4 gq.o _ (by omega) (by omega)) ?_;rintro e w5 ⟨rfl,hb5⟩;have gD:=bt_ gq hb5;clear hb5 gq;go_wp2
    go_ret3
    exact⟨rfl,gD.o⟩
  ·obtain⟨n,rfl⟩:∃ n:Nat,a=(n:Int):=⟨a.natAbs,by omega⟩;have Fb:n<1000000000000000000:=by omega
   have Db:n/b<=n:=Nat.div_le_self _ _;have ED:n%b<=n:=Nat.mod_le _ _;have lF:Int.tdiv (n:Int) (b:Int)=((n/b:Nat):Int):=by rw[<- Int.ofNat_tdiv]
   have et:Int.tmod (n:Int) (b:Int)=((n%b:Nat):Int):=by rw[<- Int.ofNat_tmod]
   obtain⟨e1,e2⟩:=Zlh n b;rw[e1,e2];clear e1 e2;generalize n/b=q at *;generalize n%b=r at *;have fH:IntKind.i64.wrap (q:Int)=(q:Int):=iw_ _ (by omega);have fM:IntKind.i64.wrap (r:Int)=(r:Int):=iw_ _ (by omega);have Gd : -9223372036854775808<=(q:Int):=by omega
   have gQ:(q:Int)<=9223372036854775807:=by omega
   have dE:(-9223372036854775808:Int)<=(r:Int):=by omega
   have eN:(r:Int)<=9223372036854775807:=by omega
   generalize itx (n:Int)=s at *;generalize dec b=tm at *;rcases Nat.eq_zero_or_pos r with Ca|Ca
   ·subst Ca;have Mr:IntKind.i64.wrap 0=0:=iw_ _ (by omega);go_enter Tryz.func163,Tryz.ntmps163;go_wp2_with fail;refine cm_ (gE.o w) ?_;rintro e w1 ⟨rfl,HU⟩;have H6:=hd_ HU;clear HU gE;go_wp2_with fail;refine cm_ (gJ.o w1) ?_;rintro e w2 ⟨rfl,H7⟩;have H9:=bt_ H6 H7;clear H7 H6 gJ;go_wp2_with fail
    go_quiet (fail)
    have gk:Hid (Bw_ w (w2.drewN nq)):=Qb H9.o _;clear H9;generalize w2.drewN nq=w3 at *;go_wp2_with fail;refine cm_ (Gj.o w3 gk.o _ (by omega) (by omega)) ?_;rintro e w4 ⟨rfl,gz⟩;have gq:=bt_ gk gz;clear gz gk;go_wp2_with fail;refine cm_ (Gj.o w4 gq.o _ (by omega) (by omega)) ?_;rintro e w5 ⟨rfl,hb5⟩;have gD:=bt_ gq hb5;clear hb5 gq;go_wp2
    go_ret3
    exact⟨rfl,gD.o⟩
   ·have MA:((r:Int) != 0)=true:=by rw[bne_iff_ne];omega
    have MB:decide ((r:Int)<0)=false:=decide_eq_false (by omega);have M9:decide ((b:Int)<0)=false:=decide_eq_false (by omega);go_enter Tryz.func163,Tryz.ntmps163;go_wp2_with fail;refine cm_ (gE.o w) ?_;rintro e w1 ⟨rfl,HU⟩;have H6:=hd_ HU;clear HU gE;go_wp2_with fail;refine cm_ (gJ.o w1) ?_;rintro e w2 ⟨rfl,H7⟩;have H9:=bt_ H6 H7;clear H7 H6 gJ;go_wp2_with fail
    go_quiet (fail)
    have gk:Hid (Bw_ w (w2.drewN nq)):=Qb H9.o _;clear H9;generalize w2.drewN nq=w3 at *;go_wp2_with fail;refine cm_ (Gj.o w3 gk.o _ (by omega) (by omega)) ?_;rintro e w4 ⟨rfl,gz⟩;have gq:=bt_ gk gz;clear gz gk;go_wp2_with fail;refine cm_ (Gj.o w4 gq.o _ (by omega) (by omega)) ?_;rintro e w5 ⟨rfl,hb5⟩;have gD:=bt_ gq hb5;clear hb5 gq;go_wp2
    go_ret3
    exact⟨rfl,gD.o⟩
def fv (n:Int) (d:Nat):Value := .agg #[.string (itx n),.string (dec d)]
theorem Zhg(w:World)(z:Int)(hz:Zbo z):
  Kc Tryz.prog 295 #[.string (itx z)] w (if (itx z).size<=9 then .tuple #[.int .i64 z,.bool true] else .tuple #[.int .i64 0,.bool false]):=by
 unfold Kc;have F9:(dec z.natAbs).size<=1000000:=hz;have fA:=Zco z
 by_cases h:(itx z).size<=9
 ·rw[if_pos h];have gd:=Zc z 9 (by decide) (by omega);have Hc:=hd_ (Tryz.strconv_Atoi_ok (itx z) (by omega) z (Zsf z (by omega)) w);have iA:=hd_ (fun t=>Zf w 5 t);have h':((itx z).size:Int)<=9:=by omega
  clear gd F9 fA;generalize itx z=s at *;go_enter Tryz.func295,Tryz.ntmps295;go_wp2_with fail;refine cm_ Hc.o ?_;rintro e w1 ⟨rfl,hw⟩;have Hb:Hid (Bw_ w w1):=by
   show Below _ _ _
   rcases hw with rfl|⟨t,rfl⟩
   ·exact Below.refl _ _
   ·exact iA.o t
  clear hw;go_wp2_with fail
  go_quiet (fail)
  go_wp2
  go_ret2
  exact⟨rfl,Qb Hb.o _⟩
 ·rw[if_neg h];have h':¬ ((itx z).size:Int)<=9:=by omega
  generalize itx z=s at *;go_enter Tryz.func295,Tryz.ntmps295;go_wp2
  go_ret2
  exact⟨rfl,Below.refl _ _⟩
def Zxi (n:Int) (d:Nat):Value :=
 .tuple #[.int .i64 (if (itx n).size<=9 then n else 0),.int .i64 (if (dec d).size<=9 then d else 0),.bool (decide ((itx n).size<=9)&&decide ((dec d).size<=9))]
theorem Zh2(w:World)(n:Int)(d:Nat)(hn:Zbo n)(hd:Num d):
  Kc Tryz.prog 259 #[fv n d] w (Zxi n d):=by
 unfold Kc fv;have gE:Hid (∀ W,Kc Tryz.prog 295 #[.string (itx n)] W (.tuple #[.int .i64 (if (itx n).size<=9 then n else 0),.bool (decide ((itx n).size<=9))])):=fun W=>by
  have:=Zhg W n hn
  by_cases h:(itx n).size<=9
  ·rw[if_pos h] at this;rw[if_pos h,decide_eq_true h];exact this
  ·rw[if_neg h] at this;rw[if_neg h,decide_eq_false h];exact this
 have gJ:Hid (∀ W,Kc Tryz.prog 295 #[.string (dec d)] W (.tuple #[.int .i64 (if (dec d).size<=9 then (d:Int) else 0),.bool (decide ((dec d).size<=9))])):=fun W=>by
  have:=Zhg W (d:Int) (show Num _ from hd)
  rw[Kg] at this
  by_cases h:(dec d).size<=9
  ·rw[if_pos h] at this;rw[if_pos h,decide_eq_true h];exact this
  ·rw[if_neg h] at this;rw[if_neg h,decide_eq_false h];exact this
 have Hv:Hid (Zxi n d = .tuple #[.int .i64 (if (itx n).size<=9 then n else 0),.int .i64 (if (dec d).size<=9 then (d:Int) else 0),.bool (decide ((itx n).size<=9)&&decide ((dec d).size<=9))]):=rfl;rw[Hv.o];clear Hv;generalize (if (itx n).size<=9 then n else 0)=x at *;generalize (if (dec d).size<=9 then (d:Int) else 0)=y at *;generalize decide ((itx n).size<=9)=p at *;generalize decide ((dec d).size<=9)=q at *;generalize itx n=s at *;generalize dec d=t at *;have gF:Hid ((w.alloc (.cells #[.string s,.string t] 101)).cell? ⟨w.heap.size,1,none⟩=some (.string t)):=by
  show _=_
  rw[World.cell?_alloc_new];rfl
 have gC:=hd_ ((Below.refl w.heap.size w).alloc nr_ (.cells #[.string s,.string t] 101));have Ft:w.heap.size<(w.alloc (.cells #[.string s,.string t] 101)).heap.size:=by simp
 have Bv:=hd_ Ft;clear Ft;go_enter Tryz.func259,Tryz.ntmps259;go_wp2_with fail;refine cm_ (gE.o _) ?_;rintro e w1 ⟨rfl,HU⟩;have cx:=gF.o;rw[<- HU.cell (p:=⟨w.heap.size,1,none⟩) Bv.o] at cx;have H6:=hd_ (gC.o.trans (HU.mono (Nat.le_of_lt Bv.o)));clear HU gC gF Bv;go_wp2_with fail;refine cm_ (gJ.o _) ?_;rintro e w2 ⟨rfl,H7⟩;have H9:=bt_ H6 H7;clear H7 H6 cx;cases p<;>cases q
 all_goals
  go_wp2
  go_ret3
  exact⟨rfl,H9.o⟩
end Go.Proofs.YtbielfplgbammaaGreatDoor

namespace Go.Proofs.YtbielfplgbammaaGreatDoor
open Go Go.Sort
section
variable {P:Program} {ops:Array Oper} {md:Region.Mode} {C:World->Prop}
def Zh8 (P:Program) (md:Region.Mode) (ops:Array Oper) (C:World->Prop) (n:Nat) (L:Array Bool->Act->Prop):Nat->Array Bool->Act->Prop
 | 0,listed,a=>L listed a
 | f+1,listed,a=>Region.ready md ops listed≠[]/\∀ i∈Region.ready md ops listed,i<n/\qOp P ops C i (Zh8 P md ops C n L f (listed.setIfInBounds i true)) a
theorem Zh7{n g:Nat}{L:Array Bool->Act->Prop}{Q':Exit->Act->World->Prop}(hL:∀ listed a w,C w->L listed a->wpAny P md ops Q' g listed a w):
  ∀ (f:Nat) (listed:Array Bool) (a:Act) (w:World),C w->Zh8 P md ops C n L f listed a->wpAny P md ops Q' (f+g) listed a w
 | 0,listed,a,w,hw,h=>by rw[Nat.zero_add];exact hL _ _ _ hw h
 | f+1,listed,a,w,hw,h=>by
  rw[show f+1+g=(f+g)+1 by omega];exact⟨fun h0=>absurd h0 h.1,fun i hi=>wpOp_of_qOp hw (fun a' w' hw' h'=>Zh7 hL f _ a' w' hw' h') (h.2 i hi).2⟩
theorem Zlw{n i:Nat}{oi:Oper}{v:Value}{L:Array Bool->Act->Prop}(hi:ops[i]?=some oi)(hsel:∀ (j:Nat) (o:Oper) cs b,ops[j]?=some o->o.op ≠ .select cs b)
  (hs:Region.sinkB md ops n=true) (hc:Region.chainB md ops n=true) (hn:n<ops.size) (Ae:i<n)
  (hdone:∀ listed a,L listed a->∀ j∈Region.ready md ops listed,n<=j) :
  ∀ (f:Nat) (listed:Array Bool) (a:Act),HeadInv md ops n listed ->
   (∀ j oj,ops[j]?=some oj->j≠i->listed.getD j true=false->(∀ e∈oj.after,Region.binds md e=true->e.on≠i)->oi.apart ops oj=true) ->
   i∈Region.ready md ops listed->YieldsIn P ops C oi v a ->
   Zh8 P md ops C n L f (listed.setIfInBounds i true) (a.put oi.dst v)->Zh8 P md ops C n L (f+1) listed a:=by
 intro f
 induction f with
 | zero =>
  intro listed a inv _ hr hy H;have FN:=(mem_ready.1 hr).1;refine⟨fun h=>(by rw[h] at hr;cases hr),fun j hj=>?_⟩;have Cx:j<n:=by
   rcases Nat.lt_or_ge j n with h|h
   ·exact h
   ·exact absurd hj (tail_waits hs hc hn inv _ i rfl Ae FN j h)
  refine⟨Cx,?_⟩
  by_cases GS:j=i
  ·subst GS;exact hy.qOp hi H
  ·have:=hdone _ _ H j (ready_mono hj GS)
   omega
 | succ f ih =>
  intro listed a inv hfree hr hy H;have FN:=(mem_ready.1 hr).1;refine⟨fun h=>(by rw[h] at hr;cases hr),fun j hj=>?_⟩;have Cx:j<n:=by
   rcases Nat.lt_or_ge j n with h|h
   ·exact h
   ·exact absurd hj (tail_waits hs hc hn inv _ i rfl Ae FN j h)
  refine⟨Cx,?_⟩
  by_cases GS:j=i
  ·subst GS;exact hy.qOp hi H
  ·have h1:=(H.2 j (ready_mono hj GS)).2;obtain⟨hjun,oj,hoj,GI⟩:=mem_ready.1 hj;have FU:∀ e∈oj.after,Region.binds md e=true->e.on≠i:=fun e he hb heq=>by
    have h1:=GI e he hb;rw[heq,getD_both FN] at h1;cases h1
   have h2:=qOp_put hoj (hfree j oj hoj GS hjun FU) (fun cs b=>hsel i oi cs b hi) (fun cs b=>hsel j oj cs b hoj) hy h1;have Fz:∀ k ok,ops[k]?=some ok->k≠i->(listed.setIfInBounds j true).getD k true=false ->
     (∀ e∈ok.after,Region.binds md e=true->e.on≠i)->oi.apart ops ok=true:=fun k ok hk DG FN CV=>by
    refine hfree k ok hk DG ?_ CV
    by_cases dZ:j=k
    ·subst dZ;exact hjun
    ·rw[getD_set_ne true dZ] at FN;exact FN
   refine qOp_mono (fun a' h3=>ih (listed.setIfInBounds j true) a' (inv.set hj Cx) Fz (ready_mono hr (Ne.symm GS)) h3.1 ?_) h2;rw[Array.setIfInBounds_comm _ _ GS];exact h3.2
theorem Zh6{n g:Nat}{Lq:Act->Prop}(hsel:Region.noSelect ops=true)(hs:Region.sinkB md ops n=true)(hc:Region.chainB md ops n=true)(hn:n<ops.size):
  ∀ (l:List Oper) (k:Nat) (listed:Array Bool) (a:Act),(∀ j,j<l.length->l[j]?=ops[k+j]?)->k+l.length=n->HeadInv md ops n listed ->
  Region.lexHead md ops g l.length k listed=true->wpQuiet P ops C Lq l a ->
  Zh8 P md ops C n (fun listed' a'=>Region.seqB md ops g n listed'=true/\Lq a') l.length listed a
 | [],k,listed,a,_,hk,_,hB,h=>by
  have:k=n:=by simpa using hk
  subst this;exact⟨by simpa [Region.lexHead] using hB,h⟩
 | o::l,k,listed,a,hl,hk,inv,hB,h=>by
  have h0:ops[k]?=some o:=by simpa using (hl 0 (by simp)).symm
  simp only[List.length_cons,Region.lexHead,Bool.and_eq_true] at hB;obtain⟨⟨hr,hf⟩,hB'⟩:=hB;have CW:k<n:=by simp only[List.length_cons] at hk;omega
  have FT:k∈Region.ready md ops listed:=by simpa using hr
  have Fm:qOp P ops C k (wpQuiet P ops C Lq l) a:=by unfold qOp;simp only[h0];exact h
  obtain⟨v,hy,hK⟩:=yieldsIn_of_qOp h0 Fm;exact Zlw h0 (Region.noSelect_spec hsel) hs hc hn CW (fun listed' a' hL=>seqB_ready hL.1) l.length listed a inv (Region.free_spec h0 hf) FT hy
   (Zh6 hsel hs hc hn l (k+1) _ _ (fun j hj=>by have:=hl (j+1) (by simp;omega);simpa [Nat.add_assoc,Nat.add_comm 1 j] using this) (by simp only[List.length_cons] at hk;omega) (inv.set FT CW) hB' hK)
theorem Zdn{id:Nat}{Q:Exit->Act->World->Prop}{a:Act}{w:World}{l:List Oper}(n:Nat)(hm:P.follows .mixedOrders=true)(hB:Region.lexTailB .any l.toArray n=true)
  (hC:C { w with drawn:=w.drawn+1 }) (h:wpQuiet P l.toArray C (fun a'=>∀ w',C w'->wpList P l.toArray Q (l.drop n) a' w') (l.take n) a):(Code.region id l.toArray true).wp P Q a w:=by
 simp only[Region.lexTailB,Bool.and_eq_true,decide_eq_true_eq] at hB;obtain⟨⟨⟨⟨hsel,hn⟩,hs⟩,hc⟩,hlex⟩:=hB;have dH:n<l.length:=by simpa using hn
 have df:(l.take n).length=n:=by simp;omega
 have Db:(l.drop n).length=l.toArray.size-n:=by simp
 have Ds:HeadInv .any l.toArray n (Array.replicate l.toArray.size false) :=
  ⟨by simp,fun j oj _ hl=>(by rw[getD_replicate_false] at hl;cases hl),fun t _ ht=>getD_in (by simpa using ht) (getD_replicate_false _ _)⟩
 have H:=Zh6 (md := .any) (g:=l.toArray.size-n) hsel hs hc hn (l.take n) 0 _ a (fun j hj=>by
  have lT:j<n:=by rw[df] at hj;exact hj
  simp[lT]) (by simpa using df) Ds (by rw[df];exact hlex) h
 refine wp_region_any hm ?_;have:=Zh7 (Q':=Q) (g:=l.toArray.size-n) (fun listed a' w' hw' hL=>by
  have:=wpAny_of_seq (md := .any) (Q':=Q) (l.drop n) n listed a' w' (fun j=>by simp[List.getElem?_drop]) (by rw[Db];exact hL.1) (hL.2 w' hw')
  rwa [Db] at this) _ _ _ _ hC H
 rw[df,show n+(l.toArray.size-n)=l.toArray.size by omega] at this;exact this
theorem Kt{id:Nat}{Q:Exit->Act->World->Prop}{a:Act}{w:World}{l:List Oper}(n:Nat)(hm:P.follows .mixedOrders=true)(hB:Region.lexTailB .any l.toArray n=true)
  (h:wpQuiet P l.toArray (fun w'=>∃ p:Regrown,w'=grow (redrawn w p.d) p.os) (fun a'=>∀ w',(∃ p:Regrown,w'=grow (redrawn w p.d) p.os)->wpList P l.toArray Q (l.drop n) a' w') (l.take n) a):(Code.region id l.toArray true).wp P Q a w :=
 Zdn n hm hB ⟨⟨w.drawn+1,#[]⟩,by rw[grow_empty];rfl⟩ h
end
end Go.Proofs.YtbielfplgbammaaGreatDoor

namespace Go.Proofs.YtbielfplgbammaaGreatDoor
open Go.RowKit
theorem Zfu(w:World)(z:Int)(h0 : -9223372036854775808<=z)(h1:z<=9223372036854775807)(L:Qg w):
  ∀ d os,Calls Tryz.prog 53 #[.int .i64 z] (Go.Sort.grow (redrawn w d) os) fun e w''=>e = .returned (.string (itx z))/\∃ p:Regrown,w''=Go.Sort.grow (redrawn w p.d) p.os:=fun d os=>by
 have hb:=below_regrown w d os;have:=Tryz.strconv_Itoa z h0 h1 (Go.Sort.grow (redrawn w d) os) (L.below hb).tab
 exact Calls.regrown_of (this.mono fun e w'' ⟨h1,h2⟩=>⟨h1,Zct h2⟩)
theorem Ka{w:World}{g:Nat}{a b:Value}{t:TypeId}(h:w.heap[g]?=some (.cells #[a,b] t (0,0))):
  w.cell? ⟨g,0,none⟩=some a/\w.cell? ⟨g,1,none⟩=some b/\w.frozen? ⟨g,0,none⟩=false/\w.frozen? ⟨g,1,none⟩=false:=by
 refine⟨by rw[cell_of_row w g 0 _ t (0,0) h];rfl,by rw[cell_of_row w g 1 _ t (0,0) h];rfl,?_,?_⟩
 ·simp[World.frozen?,h]
 ·simp[World.frozen?,h]
theorem Kq{w0 w:World}{B g:Nat}{a b:Value}(x y:Value)(k0:w.cell? ⟨g,0,none⟩=some a)(k1:w.cell? ⟨g,1,none⟩=some b)(hB:B<=g)(hb:Below B w0 w):
  ((w.setCell ⟨g,0,none⟩ x).setCell ⟨g,1,none⟩ y).cell? ⟨g,0,none⟩=some x/\((w.setCell ⟨g,0,none⟩ x).setCell ⟨g,1,none⟩ y).cell? ⟨g,1,none⟩=some y /\
  Below B w0 ((w.setCell ⟨g,0,none⟩ x).setCell ⟨g,1,none⟩ y):=by
 refine⟨?_,?_,?_⟩
 ·rw[World.cell?_setCell_other _ _ _ _ (by simp),World.cell?_setCell_same _ _ _ k0]
 ·rw[World.cell?_setCell_same _ _ _ (by rw[World.cell?_setCell_other _ _ _ _ (by simp)];exact k1)]
 ·exact(hb.setCell (p:=⟨g,0,none⟩) hB x).setCell (p:=⟨g,1,none⟩) hB y
theorem Zou(w:World)(n:Int)(d g:Nat)(hn:n.natAbs<9223372036854775808)(hd:d<9223372036854775808)(G':0<d)(hg:Nat.gcd n.natAbs d=g)(L:Qg w):
  Kc Tryz.prog 260 #[.int .i64 n,.int .i64 d] w (fv (n/(g:Int)) (d/g)):=by
 unfold Kc fv;have fK:0<g:=by rw[<- hg];exact Nat.gcd_pos_of_pos_right _ G'
 have dm:g ∣ d:=by rw[<- hg];exact Nat.gcd_dvd_right _ _
 have d9:(g:Int) ∣ n:=by rw[<- hg];exact Int.gcd_dvd_left n (d:Int)
 have Hg:=hd_ hg;have HL:=hd_ L;clear hg L;have gC:=hd_ ((Below.refl w.heap.size w).alloc nr_ (.cells #[.string ⟨#[]⟩,.string ⟨#[]⟩] 101));go_enter Tryz.func260,Tryz.ntmps260;go_wp2_with fail
 go_loopw [5,6] (fun p q wr=>∃ x y:Int,x.natAbs<9223372036854775808/\y.natAbs<9223372036854775808/\p = .int .i64 x/\q = .int .i64 y/\Hid (Nat.gcd x.natAbs y.natAbs=g)/\Hid (∃ k,wr=(w.alloc (.cells #[.string ⟨#[]⟩,.string ⟨#[]⟩] 101)).drewN k)) (fun _ q _=>(intOf q).natAbs)
 case atStart=>exact⟨n,d,hn,by omega,rfl,rfl,Hg.o,⟨0,rfl⟩⟩
 case round =>
  obtain⟨x,y,hx,hy,rfl,rfl,Hxy,Hw⟩:=hrel
  by_cases h0:y=0
  ·subst h0;have Mh:x.natAbs=g:=by
    have:=Hxy.o
    rw[show (0:Int).natAbs=0 from rfl,Nat.gcd_zero_right] at this;exact this
   have og:g<=9223372036854775807:=by omega
   have ow:((g:Int)==0)=false:=by rw[beq_eq_false_iff_ne];omega
   have aU:Int.tdiv n (g:Int)=n/(g:Int):=Int.tdiv_eq_ediv_of_dvd d9;have jh:Int.tdiv (d:Int) (g:Int)=((d/g:Nat):Int):=by rw[<- Int.ofNat_tdiv]
   have eP:(n/(g:Int)).natAbs<=n.natAbs:=by
    rw[<- aU,Int.natAbs_tdiv];exact Nat.div_le_self _ _
   have Cz:d/g<=d:=Nat.div_le_self _ _;have Gd : -9223372036854775808<=n/(g:Int):=by omega
   have gQ:n/(g:Int)<=9223372036854775807:=by omega
   have Ct : -9223372036854775808<=((d/g:Nat):Int):=Int.le_trans (by decide) (Int.natCast_nonneg _);have Cb:((d/g:Nat):Int)<=9223372036854775807:=Int.le_trans (Int.ofNat_le.2 Cz) (by omega);have fH:IntKind.i64.wrap (n/(g:Int))=n/(g:Int):=iw_ _ ⟨Gd,gQ⟩;have fM:IntKind.i64.wrap ((d/g:Nat):Int)=((d/g:Nat):Int):=iw_ _ ⟨Ct,Cb⟩;have mn:Hid (∀ W,Bw_ w W->∀ d' os,Calls Tryz.prog 53 #[.int .i64 (n/(g:Int))] (Go.Sort.grow (redrawn W d') os) fun e w''=>e = .returned (.string (itx (n/(g:Int))))/\∃ p:Regrown,w''=Go.Sort.grow (redrawn W p.d) p.os):=fun W hW=>Zfu W _ Gd gQ (HL.o.below hW)
   have ml:Hid (∀ W,Bw_ w W->∀ d' os,Calls Tryz.prog 53 #[.int .i64 ((d/g:Nat):Int)] (Go.Sort.grow (redrawn W d') os) fun e w''=>e = .returned (.string (dec (d/g)))/\∃ p:Regrown,w''=Go.Sort.grow (redrawn W p.d) p.os):=fun W hW=>by
    have:=Zfu W ((d/g:Nat):Int) Ct Cb (HL.o.below hW)
    rw[Kg] at this;exact this
   have eF:Hid (Bw_ w wr):=by
    obtain⟨k,hk⟩:=Hw.o
    show Below _ _ _
    rw[hk];exact Qb gC.o _
   have gw:Hid (wr.heap[w.heap.size]?=some (.cells #[.string ⟨#[]⟩,.string ⟨#[]⟩] 101 (0,0))):=by
    obtain⟨k,hk⟩:=Hw.o
    show _=_
    rw[hk];exact heap_alloc_new w _
   have gZ:=mn.o wr eF.o;have Gb:=ml.o wr eF.o;clear Hw mn ml dm d9 eP Cz Hxy;obtain⟨rs,hrs⟩:∃ rs,itx (n/(g:Int))=rs:=⟨_,rfl⟩;obtain⟨rt,hrt⟩:∃ rt,dec (d/g)=rt:=⟨_,rfl⟩;rw[hrs] at gZ;rw[hrt] at Gb;have Dj:=hd_ hrs;have Di:=hd_ hrt;clear hrs hrt;generalize n/(g:Int)=q1 at aU Gd gQ fH gZ;generalize ((d/g:Nat):Int)=q2 at jh Ct Cb fM Gb
   by_cases G4:x<0
   ·have I' : -x=(g:Int):=by omega
    have NQ:IntKind.i64.wrap (-x)=(g:Int):=by rw[I'];exact iw_ _ (by omega)
    have oW:=hd_ I';clear I';go_wp2_with fail;refine Kt 9 (by kernel_rfl) (by kernel_rfl) ?_;simp only[List.take_succ_cons,List.take_zero,List.drop_succ_cons,List.drop_zero]
    repeat (first | go_big_quiet_step (first | with_reducible exact gZ _ _ | with_reducible exact Gb _ _) | quiet_step (first | with_reducible exact gZ _ _ | with_reducible exact Gb _ _))
    refine wpQuiet_nil ?_;intro w2 fM;obtain⟨⟨dq,osq⟩,rfl⟩:=fM;have H7:=below_regrown wr dq osq;have E3:Hid ((Go.Sort.grow (redrawn wr dq) osq).heap[w.heap.size]?=some (.cells #[.string ⟨#[]⟩,.string ⟨#[]⟩] 101 (0,0))):=by
     show _=_
     rw[H7.block _ (by have:=gw.o;exact(Array.getElem?_eq_some_iff.1 this).1)];exact gw.o
    have H9:=bt_ eF H7;clear H7 gZ Gb gw;generalize Go.Sort.grow (redrawn wr dq) osq=w2 at *;obtain⟨k0,k1,f0,f1⟩:=Ka E3.o;go_wp2;obtain⟨c0,c1,hb3⟩:=Kq (.string rs) (.string rt) k0 k1 nr_ H9.o;generalize (w2.setCell ⟨w.heap.size,0,none⟩ (.string rs)).setCell ⟨w.heap.size,1,none⟩ (.string rt)=w3 at *;exact bodyPost_ret (v := .agg #[.string rs,.string rt]) (by simp[results,Tryz.results260,go_sem,c0,c1]) rfl ⟨by rw[Dj.o,Di.o],hb3⟩
   ·have Mg:x=(g:Int):=by omega
    clear Mh;subst Mg;go_wp2_with fail;refine Kt 9 (by kernel_rfl) (by kernel_rfl) ?_;simp only[List.take_succ_cons,List.take_zero,List.drop_succ_cons,List.drop_zero]
    repeat (first | go_big_quiet_step (first | with_reducible exact gZ _ _ | with_reducible exact Gb _ _) | quiet_step (first | with_reducible exact gZ _ _ | with_reducible exact Gb _ _))
    refine wpQuiet_nil ?_;intro w2 fM;obtain⟨⟨dq,osq⟩,rfl⟩:=fM;have H7:=below_regrown wr dq osq;have E3:Hid ((Go.Sort.grow (redrawn wr dq) osq).heap[w.heap.size]?=some (.cells #[.string ⟨#[]⟩,.string ⟨#[]⟩] 101 (0,0))):=by
     show _=_
     rw[H7.block _ (by have:=gw.o;exact(Array.getElem?_eq_some_iff.1 this).1)];exact gw.o
    have H9:=bt_ eF H7;clear H7 gZ Gb gw;generalize Go.Sort.grow (redrawn wr dq) osq=w2 at *;obtain⟨k0,k1,f0,f1⟩:=Ka E3.o;go_wp2;obtain⟨c0,c1,hb3⟩:=Kq (.string rs) (.string rt) k0 k1 nr_ H9.o;generalize (w2.setCell ⟨w.heap.size,0,none⟩ (.string rs)).setCell ⟨w.heap.size,1,none⟩ (.string rt)=w3 at *;exact bodyPost_ret (v := .agg #[.string rs,.string rt]) (by simp[results,Tryz.results260,go_sem,c0,c1]) rfl ⟨by rw[Dj.o,Di.o],hb3⟩
  ·have Mc:(y==0)=false:=by rw[beq_eq_false_iff_ne];exact h0
   have et:(Int.tmod x y).natAbs=x.natAbs%y.natAbs:=Int.natAbs_tmod x y;have gd:(Int.tmod x y).natAbs<y.natAbs:=by rw[et];exact Nat.mod_lt _ (by omega)
   have Ni:Hid (Nat.gcd y.natAbs (Int.tmod x y).natAbs=g):=by
    show _=_
    rw[et,Zk9];exact Hxy.o
   have FM:IntKind.i64.wrap (Int.tmod x y)=Int.tmod x y:=iw_ _ (by omega);have nR:Hid (∃ k,wr=(w.alloc (.cells #[.string ⟨#[]⟩,.string ⟨#[]⟩] 101)).drewN k):=Hw.o;have eT:=hd_ gd;clear et Hxy Hw;go_wp2_with fail
   go_quiet (fail)
   go_wp2
   go_roundw
   case rel =>
    refine⟨y,Int.tmod x y,hy,by omega,rfl,rfl,Ni,?_⟩;obtain⟨k,hk⟩:=nR.o;exact⟨k+nq,by rw[hk];exact World.drewN_drewN _ _ _⟩
   case measure=>exact eT.o
theorem Kh{W0 wk:World}{g:Nat}{a b:Value}{t:TypeId}(h:W0.heap[g]?=some (.cells #[a,b] t (0,0)))(hb:Bw_ W0 wk):
  wk.heap[g]?=some (.cells #[a,b] t (0,0)):=by
 rw[hb.block g (Array.getElem?_eq_some_iff.1 h).1];exact h
theorem Zf8{d:Nat}(h:0<d):((d:Nat):Int).sign=1:=Int.sign_eq_one_of_pos (by omega)
theorem Zcl(w:World)(n:Int)(d g:Nat)(hn:Zbo n)(hd:Num d)(G':0<d)(Fb:Num (n.natAbs+1))(G9:Num (d+1))(hg:Nat.gcd n.natAbs d=g)(L:Qg w):
  Kc Tryz.prog 258 #[.string (itx n),.string (dec d)] w (fv (n/(g:Int)) (d/g)):=by
 unfold Kc fv;have fK:0<g:=by rw[<- hg];exact Nat.gcd_pos_of_pos_right _ G'
 have fB:g<=d:=by rw[<- hg];exact Nat.gcd_le_right _ G'
 have d9:Num g:=hd.le fB;have gC:=hd_ ((Below.refl w.heap.size w).alloc nr_ (.cells #[.string ⟨#[]⟩,.string ⟨#[]⟩] 101));have gi:Hid ((w.alloc (.cells #[.string ⟨#[]⟩,.string ⟨#[]⟩] 101)).heap[w.heap.size]?=some (.cells #[.string ⟨#[]⟩,.string ⟨#[]⟩] 101 (0,0))):=heap_alloc_new w _;have HL:=hd_ (L.below gC.o);have gI:Hid (∀ W,Kc Tryz.prog 59 #[.string (dec d)] W (.int .i64 1)):=fun W=>by
  have:=Ys W (d:Int)
  rw[Kg,Zf8 G'] at this;exact this
 clear L;go_enter Tryz.func258,Tryz.ntmps258;go_wp2_with fail;generalize w.alloc (.cells #[.string ⟨#[]⟩,.string ⟨#[]⟩] 101)=W0 at *;have fF:Hid (∀ W,Bw_ W0 W->Kc Tryz.prog 219 #[.string (itx n),.string (dec d)] W (.string (dec g))):=fun W hW=>by
  have:=Zk8 W n (d:Int) hn (show Num _ from hd) (HL.o.below hW)
  rw[Kg,show Int.gcd n (d:Int)=g from hg] at this;exact this
 have FH:Hid (∀ W,Bw_ W0 W->Kc Tryz.prog 163 #[.string (itx n),.string (dec g)] W (.tuple #[.string (itx (n/(g:Int))),.string (itx (n%(g:Int))),.int .i64 0])):=fun W hW=>Yj W n g hn d9 fK Fb (HL.o.below hW)
 have ek:Hid (∀ W,Bw_ W0 W->Kc Tryz.prog 163 #[.string (dec d),.string (dec g)] W (.tuple #[.string (dec (d/g)),.string (itx ((d:Int)%(g:Int))),.int .i64 0])):=fun W hW=>by
  have:=Yj W (d:Int) g (show Num _ from hd) d9 fK (show Num (d+1) from G9) (HL.o.below hW)
  rw[Kg,show (d:Int)/(g:Int)=((d/g:Nat):Int) from rfl,Kg] at this;exact this
 have ho:=Zjp g
 by_cases h1:g=1
 ·have Dj:Hid (itx (n/(g:Int))=itx n):=by show _=_;rw[h1];congr 1;exact Int.ediv_one n
  have Di:Hid (dec (d/g)=dec d):=by show _=_;rw[h1,Nat.div_one]
  rw[decide_eq_true h1] at ho;clear h1 FH ek hg fK fB d9 hn hd Fb G9;obtain⟨s,hs⟩:∃ s,itx n=s:=⟨_,rfl⟩;obtain⟨t,ht⟩:∃ t,dec d=t:=⟨_,rfl⟩;rw[hs] at Dj fF ⊢;rw[ht] at Di fF gI ⊢;clear hs ht;generalize dec g=u at *;refine cm_ (gI.o _) ?_;rintro e w1 ⟨rfl,HU⟩;have H6:=hd_ HU;clear HU gI;go_wp2_with fail;refine cm_ (fF.o w1 H6.o) ?_;rintro e w2 ⟨rfl,H7⟩;have H9:=bt_ H6 H7;clear H7 H6 fF;have gw:=hd_ (Kh gi.o H9.o);have gY:=bt_ gC H9.o;obtain⟨k0,k1,f0,f1⟩:=Ka gw.o;clear H9 gC gw gi HL;go_wp2;obtain⟨c0,c1,hb3⟩:=Kq (.string s) (.string t) k0 k1 nr_ gY.o;generalize (w2.setCell ⟨w.heap.size,0,none⟩ (.string s)).setCell ⟨w.heap.size,1,none⟩ (.string t)=w9 at *;exact bodyPost_ret (v := .agg #[.string s,.string t]) (by simp[results,Tryz.results258,go_sem,c0,c1]) rfl ⟨by rw[Dj.o,Di.o],hb3⟩
 ·rw[decide_eq_false h1] at ho;obtain⟨rs,hrs⟩:∃ rs,itx (n/(g:Int))=rs:=⟨_,rfl⟩;obtain⟨rt,hrt⟩:∃ rt,dec (d/g)=rt:=⟨_,rfl⟩;rw[hrs] at FH;rw[hrt] at ek;have Dj:=hd_ hrs;have Di:=hd_ hrt;clear h1 hg fK fB d9 hn hd Fb G9 hrs hrt;generalize itx (n%(g:Int))=e1 at FH;generalize itx ((d:Int)%(g:Int))=e2 at ek;obtain⟨s,hs⟩:∃ s,itx n=s:=⟨_,rfl⟩;obtain⟨t,ht⟩:∃ t,dec d=t:=⟨_,rfl⟩;obtain⟨u,hu⟩:∃ u,dec g=u:=⟨_,rfl⟩;rw[hs] at FH fF ⊢;rw[ht] at ek fF gI ⊢;rw[hu] at FH ek fF ho;clear hs ht hu;refine cm_ (gI.o _) ?_;rintro e w1 ⟨rfl,HU⟩;have H6:=hd_ HU;clear HU gI;go_wp2_with fail;refine cm_ (fF.o w1 H6.o) ?_;rintro e w2 ⟨rfl,H7⟩;have H9:=bt_ H6 H7;clear H7 H6 fF;go_wp2_with fail;refine cm_ (FH.o w2 H9.o) ?_;rintro e w3 ⟨rfl,hb3⟩;have gk:=bt_ H9 hb3;clear hb3 H9 FH;go_wp2_with fail;refine cm_ (ek.o w3 gk.o) ?_;rintro e w4 ⟨rfl,gz⟩;have gq:=bt_ gk gz;clear gz gk ek;have gw:=hd_ (Kh gi.o gq.o);have gY:=bt_ gC gq.o;obtain⟨k0,k1,f0,f1⟩:=Ka gw.o;clear gq gC gw gi HL;go_wp2;obtain⟨c0,c1,hb3⟩:=Kq (.string rs) (.string rt) k0 k1 nr_ gY.o;generalize (w4.setCell ⟨w.heap.size,0,none⟩ (.string rs)).setCell ⟨w.heap.size,1,none⟩ (.string rt)=w9 at *;exact bodyPost_ret (v := .agg #[.string rs,.string rt]) (by simp[results,Tryz.results258,go_sem,c0,c1]) rfl ⟨by rw[Dj.o,Di.o],hb3⟩
def Zlz (n:Int) (d:Nat):Value:=fv (n/((Nat.gcd n.natAbs d:Nat):Int)) (d/Nat.gcd n.natAbs d)
structure Zil (w:World) (s t s' t':ByteArray) (W0:World):Prop where
 fa:W0.heap[w.heap.size]?=some (.cells #[.string s,.string t] 101 (0,0))
 fb:W0.heap[w.heap.size+1]?=some (.cells #[.string s',.string t'] 101 (0,0))
 fr:W0.heap[w.heap.size+1+1]?=some (.cells #[.string ⟨#[]⟩,.string ⟨#[]⟩] 101 (0,0))
 bel:Bw_ w W0
theorem Zil.mk'(w:World)(s t s' t':ByteArray):Zil w s t s' t' (((w.alloc (.cells #[.string s,.string t] 101)).alloc (.cells #[.string s',.string t'] 101)).alloc (.cells #[.string ⟨#[]⟩,.string ⟨#[]⟩] 101)):=by
 have hA:=heap_alloc_new w (.cells #[.string s,.string t] 101);have hB:=heap_alloc_new (w.alloc (.cells #[.string s,.string t] 101)) (.cells #[.string s',.string t'] 101);have hR:=heap_alloc_new ((w.alloc (.cells #[.string s,.string t] 101)).alloc (.cells #[.string s',.string t'] 101)) (.cells #[.string ⟨#[]⟩,.string ⟨#[]⟩] 101);have e1:(w.alloc (.cells #[.string s,.string t] 101)).heap.size=w.heap.size+1:=by simp
 have e2:((w.alloc (.cells #[.string s,.string t] 101)).alloc (.cells #[.string s',.string t'] 101)).heap.size=w.heap.size+1+1:=by simp
 refine⟨?_,?_,?_,?_⟩
 ·exact Kh hA (((Below.refl _ _).alloc nr_ _).alloc (by simp) _)
 ·rw[e1] at hB;exact Kh hB ((Below.refl _ _).alloc nr_ _)
 ·rw[e2] at hR;exact hR
 ·exact(((Below.refl _ _).alloc nr_ _).alloc (by simp) _).alloc (by simp;omega) _
theorem Zil.next{w W0 W:World}{s t s' t':ByteArray}(h:Zil w s t s' t' W0)(hb:Bw_ W0 W):Zil w s t s' t' W :=
 ⟨Kh h.fa hb,Kh h.fb hb,Kh h.fr hb,h.bel.trans (hb.mono h.bel.size)⟩
theorem Zjz(w:World)(n:Int)(d:Nat)(hn:Zbo n)(hd:Num d):
  (((itx n).size<=9/\(dec d).size<=9)/\Kc Tryz.prog 259 #[fv n d] w (.tuple #[.int .i64 n,.int .i64 d,.bool true])) \/
  (¬ ((itx n).size<=9/\(dec d).size<=9)/\∃ x y:Int,∀ W,Kc Tryz.prog 259 #[fv n d] W (.tuple #[.int .i64 x,.int .i64 y,.bool false])):=by
 by_cases h1:(itx n).size<=9
 ·by_cases h2:(dec d).size<=9
  ·left;have:=Zh2 w n d hn hd
   unfold Zxi at this;rw[if_pos h1,if_pos h2,decide_eq_true h1,decide_eq_true h2] at this;exact⟨⟨h1,h2⟩,this⟩
  ·right;refine⟨fun h=>h2 h.2,n,0,fun W=>?_⟩;have:=Zh2 W n d hn hd
   unfold Zxi at this;rw[if_pos h1,if_neg h2,decide_eq_false h2,Bool.and_false] at this;exact this
 ·right;refine⟨fun h=>h1 h.1,0,if (dec d).size<=9 then d else 0,fun W=>?_⟩;have:=Zh2 W n d hn hd
  unfold Zxi at this;rw[if_neg h1,decide_eq_false h1,Bool.false_and] at this;exact this
theorem Zh(n:Int)(d:Nat)(hn:Zbo n)(hd:Num d)(h:(itx n).size<=9/\(dec d).size<=9)(W:World):
  Kc Tryz.prog 259 #[fv n d] W (.tuple #[.int .i64 n,.int .i64 d,.bool true]):=by
 rcases Zjz W n d hn hd with⟨-,h2⟩|⟨h2,-⟩
 ·exact h2
 ·exact absurd h h2
theorem Zi(n:Int)(d:Nat)(hn:Zbo n)(hd:Num d)(h:¬ ((itx n).size<=9/\(dec d).size<=9)):
  ∃ x y:Int,∀ W,Kc Tryz.prog 259 #[fv n d] W (.tuple #[.int .i64 x,.int .i64 y,.bool false]):=by
 rcases Zjz default n d hn hd with⟨h2,-⟩|⟨-,h2⟩
 ·exact absurd h2 h
 ·exact h2
theorem Zyv(w:World)(n m:Int)(d e:Nat)(hn:Zbo n)(hm:Zbo m)(hd:Num d)(he:Num e)(G':0<d)(Ik:0<e)(dh:Num ((n*m).natAbs+1))(hde:Num (d*e+1))(L:Qg w):
  Kc Tryz.prog 206 #[fv n d,fv m e] w (Zlz (n*m) (d*e)):=by
 obtain⟨rs,hrs⟩:∃ rs,itx (n*m/((Nat.gcd (n*m).natAbs (d*e):Nat):Int))=rs:=⟨_,rfl⟩;obtain⟨rt,hrt⟩:∃ rt,dec (d*e/Nat.gcd (n*m).natAbs (d*e))=rt:=⟨_,rfl⟩;have hv:Zlz (n*m) (d*e) = .agg #[.string rs,.string rt]:=by unfold Zlz fv;rw[hrs,hrt]
 have Hv:=hd_ hv;have G7:0<d*e:=Nat.mul_pos G' Ik;unfold Kc;have H3:=hd_ (Zil.mk' w (itx n) (dec d) (itx m) (dec e));have HL:=hd_ (L.below H3.o.bel);clear L;have GU:Hid (∀ W,Below (((w.alloc (.cells #[.string (itx n),.string (dec d)] 101)).alloc (.cells #[.string (itx m),.string (dec e)] 101)).alloc (.cells #[.string ⟨#[]⟩,.string ⟨#[]⟩] 101)).heap.size (((w.alloc (.cells #[.string (itx n),.string (dec d)] 101)).alloc (.cells #[.string (itx m),.string (dec e)] 101)).alloc (.cells #[.string ⟨#[]⟩,.string ⟨#[]⟩] 101)) W->∀ d' os,Calls Tryz.prog 14 #[.string (itx n),.string (itx m)] (Go.Sort.grow (redrawn W d') os) fun x w''=>x = .returned (.string (itx (n*m)))/\∃ p:Regrown,w''=Go.Sort.grow (redrawn W p.d) p.os):=fun W hW d' os =>
  Calls.regrown_of (Yv _ n m hn hm (dh.le (Nat.le_succ _)) ((HL.o.below hW).below (below_regrown W d' os)))
 have GJ:Hid (∀ W,Below (((w.alloc (.cells #[.string (itx n),.string (dec d)] 101)).alloc (.cells #[.string (itx m),.string (dec e)] 101)).alloc (.cells #[.string ⟨#[]⟩,.string ⟨#[]⟩] 101)).heap.size (((w.alloc (.cells #[.string (itx n),.string (dec d)] 101)).alloc (.cells #[.string (itx m),.string (dec e)] 101)).alloc (.cells #[.string ⟨#[]⟩,.string ⟨#[]⟩] 101)) W->∀ d' os,Calls Tryz.prog 14 #[.string (dec d),.string (dec e)] (Go.Sort.grow (redrawn W d') os) fun x w''=>x = .returned (.string (dec (d*e)))/\∃ p:Regrown,w''=Go.Sort.grow (redrawn W p.d) p.os):=fun W hW d' os=>by
  have:=Yv (Go.Sort.grow (redrawn W d') os) (d:Int) (e:Int) (show Num _ from hd) (show Num _ from he) (show Num _ from by rw[Int.natAbs_mul];exact hde.le (Nat.le_succ _)) ((HL.o.below hW).below (below_regrown W d' os))
  rw[Kg,Kg,<- Int.natCast_mul,Kg] at this;exact Calls.regrown_of this
 have fT:Hid (∀ W,Below (((w.alloc (.cells #[.string (itx n),.string (dec d)] 101)).alloc (.cells #[.string (itx m),.string (dec e)] 101)).alloc (.cells #[.string ⟨#[]⟩,.string ⟨#[]⟩] 101)).heap.size (((w.alloc (.cells #[.string (itx n),.string (dec d)] 101)).alloc (.cells #[.string (itx m),.string (dec e)] 101)).alloc (.cells #[.string ⟨#[]⟩,.string ⟨#[]⟩] 101)) W->∀ d' os,Calls Tryz.prog 258 #[.string (itx (n*m)),.string (dec (d*e))] (Go.Sort.grow (redrawn W d') os) fun x w''=>x = .returned (.agg #[.string rs,.string rt])/\∃ p:Regrown,w''=Go.Sort.grow (redrawn W p.d) p.os):=fun W hW d' os=>by
  have:=Zcl (Go.Sort.grow (redrawn W d') os) (n*m) (d*e) _ (dh.le (Nat.le_succ _)) (hde.le (Nat.le_succ _)) G7 dh hde rfl ((HL.o.below hW).below (below_regrown W d' os))
  unfold fv at this;rw[hrs,hrt] at this;exact Calls.regrown_of this
 by_cases h1:(itx n).size<=9/\(dec d).size<=9
 ·have gF:=hd_ (Zh n d hn hd h1)
  by_cases h2:(itx m).size<=9/\(dec e).size<=9
  ·have gP:=hd_ (Zh m e hm he h2);have q1:=Zc n 9 (by decide) h1.1;have q2:=Zc m 9 (by decide) h2.1;have q3:=(Ks d 9 (by decide)).1 (by rw[<- Qc];exact h1.2);have q4:=(Ks e 9 (by decide)).1 (by rw[<- Qc];exact h2.2);have q5:(n*m).natAbs<=1000000000*1000000000:=by rw[Int.natAbs_mul];exact Nat.mul_le_mul (by omega) (by omega)
   have q6:d*e<=1000000000*1000000000:=Nat.mul_le_mul (by omega) (by omega);have fH:IntKind.i64.wrap (n*m)=n*m:=iw_ _ (by omega);have fM:IntKind.i64.wrap ((d:Int)*(e:Int))=((d*e:Nat):Int):=by rw[<- Int.natCast_mul];exact iw_ _ ⟨Int.le_trans (by decide) (Int.natCast_nonneg _),Int.le_trans (Int.ofNat_le.2 q6) (by decide)⟩
   have Gj:Hid (∀ W,Below (((w.alloc (.cells #[.string (itx n),.string (dec d)] 101)).alloc (.cells #[.string (itx m),.string (dec e)] 101)).alloc (.cells #[.string ⟨#[]⟩,.string ⟨#[]⟩] 101)).heap.size (((w.alloc (.cells #[.string (itx n),.string (dec d)] 101)).alloc (.cells #[.string (itx m),.string (dec e)] 101)).alloc (.cells #[.string ⟨#[]⟩,.string ⟨#[]⟩] 101)) W->Kc Tryz.prog 260 #[.int .i64 (n*m),.int .i64 ((d*e:Nat):Int)] W (.agg #[.string rs,.string rt])):=fun W hW=>by
    have:=Zou W (n*m) (d*e) _ (by omega) (by omega) G7 rfl (HL.o.below hW)
    unfold fv at this;rw[hrs,hrt] at this;exact this
   unfold fv at gF gP ⊢;clear GU GJ fT q1 q2 q3 q4 q5 q6 h1 h2 hrs hrt hv G7;go_enter Tryz.func206,Tryz.ntmps206;obtain⟨k0,k1,-,-⟩:=Ka H3.o.fa;obtain⟨k2,k3,-,-⟩:=Ka H3.o.fb;go_wp2_with fail;generalize ((w.alloc (.cells #[.string (itx n),.string (dec d)] 101)).alloc (.cells #[.string (itx m),.string (dec e)] 101)).alloc (.cells #[.string ⟨#[]⟩,.string ⟨#[]⟩] 101)=W0 at *;clear k0 k1 k2 k3;refine cm_ (gF.o _) ?_;rintro e w1 ⟨rfl,HU⟩;have H6:=hd_ HU;clear HU gF;obtain⟨k0,k1,-,-⟩:=Ka (H3.o.next H6.o).fa;obtain⟨k2,k3,-,-⟩:=Ka (H3.o.next H6.o).fb;go_wp2_with fail;clear k0 k1 k2 k3;refine cm_ (gP.o _) ?_;rintro e w2 ⟨rfl,H7⟩;have H9:=bt_ H6 H7;clear H7 H6 gP;go_wp2_with fail;refine cm_ (Gj.o w2 H9.o) ?_;rintro e w3 ⟨rfl,hb3⟩;have gk:=bt_ H9 hb3;clear hb3 H9 Gj;have H8:=hd_ (H3.o.next gk.o);clear H3 gk;obtain⟨k0,k1,f0,f1⟩:=Ka H8.o.fr;have gY:=hd_ H8.o.bel;clear H8;go_wp2;obtain⟨c0,c1,hb3⟩:=Kq (B:=w.heap.size) (.string rs) (.string rt) k0 k1 (by omega) gY.o;generalize (w3.setCell ⟨w.heap.size+1+1,0,none⟩ (.string rs)).setCell ⟨w.heap.size+1+1,1,none⟩ (.string rt)=w9 at *;exact bodyPost_ret (v := .agg #[.string rs,.string rt]) (by simp[results,Tryz.results206,go_sem,c0,c1]) rfl ⟨by rw[Hv.o],hb3⟩
  ·obtain⟨x,y,Gp⟩:=Zi m e hm he h2;have gP:=hd_ Gp;unfold fv at gF gP ⊢;clear h1 h2 hrs hrt hv G7 Gp;go_enter Tryz.func206,Tryz.ntmps206;obtain⟨k0,k1,-,-⟩:=Ka H3.o.fa;obtain⟨k2,k3,-,-⟩:=Ka H3.o.fb;go_wp2_with fail;generalize ((w.alloc (.cells #[.string (itx n),.string (dec d)] 101)).alloc (.cells #[.string (itx m),.string (dec e)] 101)).alloc (.cells #[.string ⟨#[]⟩,.string ⟨#[]⟩] 101)=W0 at *;clear k0 k1 k2 k3;refine cm_ (gF.o _) ?_;rintro e w1 ⟨rfl,HU⟩;have H6:=hd_ HU;clear HU gF;obtain⟨k0,k1,-,-⟩:=Ka (H3.o.next H6.o).fa;obtain⟨k2,k3,-,-⟩:=Ka (H3.o.next H6.o).fb;go_wp2_with fail;clear k0 k1 k2 k3;refine cm_ (gP.o _) ?_;rintro e w2 ⟨rfl,H7⟩;have H9:=bt_ H6 H7;clear H7 H6 gP;obtain⟨k0,k1,-,-⟩:=Ka (H3.o.next H9.o).fa;obtain⟨k2,k3,-,-⟩:=Ka (H3.o.next H9.o).fb;have q0:=cell_regrown k0;have q1:=cell_regrown k1;have q2:=cell_regrown k2;have q3:=cell_regrown k3;have gZ:=GU.o w2 H9.o;have Gb:=GJ.o w2 H9.o;have Gr:=fT.o w2 H9.o;clear k0 k1 k2 k3 GU GJ fT;go_wp2_with fail;refine Kt 11 (by kernel_rfl) (by kernel_rfl) ?_;simp only[List.take_succ_cons,List.take_zero,List.drop_succ_cons,List.drop_zero]
   repeat (first | go_big_quiet_step (first | with_reducible exact gZ _ _ | with_reducible exact Gb _ _ | with_reducible exact Gr _ _) | quiet_step (first | with_reducible exact gZ _ _ | with_reducible exact Gb _ _ | with_reducible exact Gr _ _))
   refine wpQuiet_nil ?_;intro w8 hw8;obtain⟨⟨dq,osq⟩,rfl⟩:=hw8;have GT:=below_regrown w2 dq osq;have H8:=hd_ ((H3.o.next H9.o).next GT);clear GT gZ Gb Gr q0 q1 q2 q3 H3 H9;generalize Go.Sort.grow (redrawn w2 dq) osq=w8 at *;obtain⟨k0,k1,f0,f1⟩:=Ka H8.o.fr;have gY:=hd_ H8.o.bel;clear H8;go_wp2;obtain⟨c0,c1,hb3⟩:=Kq (B:=w.heap.size) (.string rs) (.string rt) k0 k1 (by omega) gY.o;generalize (w8.setCell ⟨w.heap.size+1+1,0,none⟩ (.string rs)).setCell ⟨w.heap.size+1+1,1,none⟩ (.string rt)=w9 at *;exact bodyPost_ret (v := .agg #[.string rs,.string rt]) (by simp[results,Tryz.results206,go_sem,c0,c1]) rfl ⟨by rw[Hv.o],hb3⟩
 ·obtain⟨x,y,Ga⟩:=Zi n d hn hd h1;have gF:=hd_ Ga;unfold fv at gF ⊢;clear h1 hrs hrt hv G7 Ga;go_enter Tryz.func206,Tryz.ntmps206;obtain⟨k0,k1,-,-⟩:=Ka H3.o.fa;obtain⟨k2,k3,-,-⟩:=Ka H3.o.fb;go_wp2_with fail;generalize ((w.alloc (.cells #[.string (itx n),.string (dec d)] 101)).alloc (.cells #[.string (itx m),.string (dec e)] 101)).alloc (.cells #[.string ⟨#[]⟩,.string ⟨#[]⟩] 101)=W0 at *;clear k0 k1 k2 k3;refine cm_ (gF.o _) ?_;rintro e w1 ⟨rfl,HU⟩;have H6:=hd_ HU;clear HU gF;obtain⟨k0,k1,-,-⟩:=Ka (H3.o.next H6.o).fa;obtain⟨k2,k3,-,-⟩:=Ka (H3.o.next H6.o).fb;have q0:=cell_regrown k0;have q1:=cell_regrown k1;have q2:=cell_regrown k2;have q3:=cell_regrown k3;have gZ:=GU.o w1 H6.o;have Gb:=GJ.o w1 H6.o;have Gr:=fT.o w1 H6.o;clear k0 k1 k2 k3 GU GJ fT;go_wp2_with fail;refine Kt 11 (by kernel_rfl) (by kernel_rfl) ?_;simp only[List.take_succ_cons,List.take_zero,List.drop_succ_cons,List.drop_zero]
  repeat (first | go_big_quiet_step (first | with_reducible exact gZ _ _ | with_reducible exact Gb _ _ | with_reducible exact Gr _ _) | quiet_step (first | with_reducible exact gZ _ _ | with_reducible exact Gb _ _ | with_reducible exact Gr _ _))
  refine wpQuiet_nil ?_;intro w8 hw8;obtain⟨⟨dq,osq⟩,rfl⟩:=hw8;have GT:=below_regrown w1 dq osq;have H8:=hd_ ((H3.o.next H6.o).next GT);clear GT gZ Gb Gr q0 q1 q2 q3 H3 H6;generalize Go.Sort.grow (redrawn w1 dq) osq=w8 at *;obtain⟨k0,k1,f0,f1⟩:=Ka H8.o.fr;have gY:=hd_ H8.o.bel;clear H8;go_wp2;obtain⟨c0,c1,hb3⟩:=Kq (B:=w.heap.size) (.string rs) (.string rt) k0 k1 (by omega) gY.o;generalize (w8.setCell ⟨w.heap.size+1+1,0,none⟩ (.string rs)).setCell ⟨w.heap.size+1+1,1,none⟩ (.string rt)=w9 at *;exact bodyPost_ret (v := .agg #[.string rs,.string rt]) (by simp[results,Tryz.results206,go_sem,c0,c1]) rfl ⟨by rw[Hv.o],hb3⟩
theorem Zyg(x:Int):Zlz x 1=fv x 1:=by
 unfold Zlz;rw[Nat.gcd_one_right,show ((1:Nat):Int)=1 from rfl,Int.ediv_one]
theorem Zz6(w:World)(n m:Int)(d e:Nat)(hn:Zbo n)(hm:Zbo m)(hd:Num d)(he:Num e)(G':0<d)(Ik:0<e)
  (dh:Num ((n*e).natAbs+(m*d).natAbs+1)) (hnp:Num (n.natAbs+m.natAbs)) (hde:Num (d*e+1)) (L:Qg w) :
  Kc Tryz.prog 207 #[fv n d,fv m e] w (Zlz (n*e+m*d) (d*e)):=by
 have G7:0<d*e:=Nat.mul_pos G' Ik;have fN:(n*e+m*d).natAbs<=(n*e).natAbs+(m*d).natAbs:=Int.natAbs_add_le _ _;have Ez:Num ((n*e+m*d).natAbs+1):=dh.le (by omega);have gm:Num (n*e).natAbs:=dh.le (by omega);have Cv:Num (m*d).natAbs:=dh.le (by omega);have H3:=hd_ (Zil.mk' w (itx n) (dec d) (itx m) (dec e));have HL:=hd_ (L.below H3.o.bel);clear L;have o1:=Zjp d;have o2:=Zjp e
 by_cases fE:d=1/\e=1
 ·obtain⟨rfl,rfl⟩:=fE;obtain⟨rs,hrs⟩:∃ rs,itx (n+m)=rs:=⟨_,rfl⟩;obtain⟨rt,hrt⟩:∃ rt,dec 1=rt:=⟨_,rfl⟩;have Jn:=hd_ (hrt.symm.trans Yo);have hv:Zlz (n*(1:Nat)+m*(1:Nat)) (1*1) = .agg #[.string rs,.string rt]:=by
   rw[show (1*1:Nat)=1 from rfl,Zyg,show ((1:Nat):Int)=1 from rfl,Int.mul_one,Int.mul_one];unfold fv;rw[hrs,hrt]
  have Hv:=hd_ hv;unfold Kc;have Gw:Hid (∀ W,Below (((w.alloc (.cells #[.string (itx n),.string (dec 1)] 101)).alloc (.cells #[.string (itx m),.string (dec 1)] 101)).alloc (.cells #[.string ⟨#[]⟩,.string ⟨#[]⟩] 101)).heap.size (((w.alloc (.cells #[.string (itx n),.string (dec 1)] 101)).alloc (.cells #[.string (itx m),.string (dec 1)] 101)).alloc (.cells #[.string ⟨#[]⟩,.string ⟨#[]⟩] 101)) W->Kc Tryz.prog 205 #[.string (itx n),.string (itx m)] W (.string rs)):=fun W hW=>by
   have:=Zgl W n m hn hm hnp (HL.o.below hW)
   rw[hrs] at this;exact this
  rw[decide_eq_true rfl] at o1 o2;unfold fv;rw[hrt] at H3 HL Gw o1 o2 ⊢;clear hv hrs hrt gm Cv Ez fN dh hde G7 hd he;go_enter Tryz.func207,Tryz.ntmps207;obtain⟨k0,k1,-,-⟩:=Ka H3.o.fa;obtain⟨k2,k3,-,-⟩:=Ka H3.o.fb;go_wp2_with fail;generalize ((w.alloc (.cells #[.string (itx n),.string (rt)] 101)).alloc (.cells #[.string (itx m),.string (rt)] 101)).alloc (.cells #[.string ⟨#[]⟩,.string ⟨#[]⟩] 101)=W0 at *;clear k0 k1 k2 k3;refine cm_ (Gw.o _ (Below.refl _ _)) ?_;rintro e w1 ⟨rfl,HU⟩;have H6:=hd_ HU;clear HU Gw;have H8:=hd_ (H3.o.next H6.o);clear H3 H6;rw[Jn.o] at *
  obtain⟨k0,k1,f0,f1⟩:=Ka H8.o.fr;have gY:=hd_ H8.o.bel;clear H8;go_wp2;obtain⟨c0,c1,hb3⟩:=Kq (B:=w.heap.size) (.string rs) (.string ⟨#[49]⟩) k0 k1 (by omega) gY.o;generalize (w1.setCell ⟨w.heap.size+1+1,0,none⟩ (.string rs)).setCell ⟨w.heap.size+1+1,1,none⟩ (.string ⟨#[49]⟩)=w9 at *;exact bodyPost_ret (v := .agg #[.string rs,.string ⟨#[49]⟩]) (by simp[results,Tryz.results207,go_sem,c0,c1]) rfl ⟨by rw[Hv.o],hb3⟩
 ·obtain⟨rs,hrs⟩:∃ rs,itx ((n*e+m*d)/((Nat.gcd (n*e+m*d).natAbs (d*e):Nat):Int))=rs:=⟨_,rfl⟩;obtain⟨rt,hrt⟩:∃ rt,dec (d*e/Nat.gcd (n*e+m*d).natAbs (d*e))=rt:=⟨_,rfl⟩;have hv:Zlz (n*e+m*d) (d*e) = .agg #[.string rs,.string rt]:=by unfold Zlz fv;rw[hrs,hrt]
  have Hv:=hd_ hv;unfold Kc;have GU:Hid (∀ W,Below (((w.alloc (.cells #[.string (itx n),.string (dec d)] 101)).alloc (.cells #[.string (itx m),.string (dec e)] 101)).alloc (.cells #[.string ⟨#[]⟩,.string ⟨#[]⟩] 101)).heap.size (((w.alloc (.cells #[.string (itx n),.string (dec d)] 101)).alloc (.cells #[.string (itx m),.string (dec e)] 101)).alloc (.cells #[.string ⟨#[]⟩,.string ⟨#[]⟩] 101)) W->∀ d' os,Calls Tryz.prog 14 #[.string (itx n),.string (dec e)] (Go.Sort.grow (redrawn W d') os) fun x w''=>x = .returned (.string (itx (n*e)))/\∃ p:Regrown,w''=Go.Sort.grow (redrawn W p.d) p.os):=fun W hW d' os=>by
   have:=Yv (Go.Sort.grow (redrawn W d') os) n (e:Int) hn (show Num _ from he) gm ((HL.o.below hW).below (below_regrown W d' os))
   rw[Kg] at this;exact Calls.regrown_of this
  have GJ:Hid (∀ W,Below (((w.alloc (.cells #[.string (itx n),.string (dec d)] 101)).alloc (.cells #[.string (itx m),.string (dec e)] 101)).alloc (.cells #[.string ⟨#[]⟩,.string ⟨#[]⟩] 101)).heap.size (((w.alloc (.cells #[.string (itx n),.string (dec d)] 101)).alloc (.cells #[.string (itx m),.string (dec e)] 101)).alloc (.cells #[.string ⟨#[]⟩,.string ⟨#[]⟩] 101)) W->∀ d' os,Calls Tryz.prog 14 #[.string (itx m),.string (dec d)] (Go.Sort.grow (redrawn W d') os) fun x w''=>x = .returned (.string (itx (m*d)))/\∃ p:Regrown,w''=Go.Sort.grow (redrawn W p.d) p.os):=fun W hW d' os=>by
   have:=Yv (Go.Sort.grow (redrawn W d') os) m (d:Int) hm (show Num _ from hd) Cv ((HL.o.below hW).below (below_regrown W d' os))
   rw[Kg] at this;exact Calls.regrown_of this
  have fT:Hid (∀ W,Below (((w.alloc (.cells #[.string (itx n),.string (dec d)] 101)).alloc (.cells #[.string (itx m),.string (dec e)] 101)).alloc (.cells #[.string ⟨#[]⟩,.string ⟨#[]⟩] 101)).heap.size (((w.alloc (.cells #[.string (itx n),.string (dec d)] 101)).alloc (.cells #[.string (itx m),.string (dec e)] 101)).alloc (.cells #[.string ⟨#[]⟩,.string ⟨#[]⟩] 101)) W->∀ d' os,Calls Tryz.prog 205 #[.string (itx (n*e)),.string (itx (m*d))] (Go.Sort.grow (redrawn W d') os) fun x w''=>x = .returned (.string (itx (n*e+m*d)))/\∃ p:Regrown,w''=Go.Sort.grow (redrawn W p.d) p.os):=fun W hW d' os=>by
   exact Calls.regrown_of (Zgl (Go.Sort.grow (redrawn W d') os) (n*e) (m*d) gm Cv (dh.le (Nat.le_succ _)) ((HL.o.below hW).below (below_regrown W d' os)))
  have eS:Hid (∀ W,Below (((w.alloc (.cells #[.string (itx n),.string (dec d)] 101)).alloc (.cells #[.string (itx m),.string (dec e)] 101)).alloc (.cells #[.string ⟨#[]⟩,.string ⟨#[]⟩] 101)).heap.size (((w.alloc (.cells #[.string (itx n),.string (dec d)] 101)).alloc (.cells #[.string (itx m),.string (dec e)] 101)).alloc (.cells #[.string ⟨#[]⟩,.string ⟨#[]⟩] 101)) W->∀ d' os,Calls Tryz.prog 14 #[.string (dec d),.string (dec e)] (Go.Sort.grow (redrawn W d') os) fun x w''=>x = .returned (.string (dec (d*e)))/\∃ p:Regrown,w''=Go.Sort.grow (redrawn W p.d) p.os):=fun W hW d' os=>by
   have:=Yv (Go.Sort.grow (redrawn W d') os) (d:Int) (e:Int) (show Num _ from hd) (show Num _ from he) (show Num _ from by rw[Int.natAbs_mul];exact hde.le (Nat.le_succ _)) ((HL.o.below hW).below (below_regrown W d' os))
   rw[Kg,Kg,<- Int.natCast_mul,Kg] at this;exact Calls.regrown_of this
  have Cl:Hid (∀ W,Below (((w.alloc (.cells #[.string (itx n),.string (dec d)] 101)).alloc (.cells #[.string (itx m),.string (dec e)] 101)).alloc (.cells #[.string ⟨#[]⟩,.string ⟨#[]⟩] 101)).heap.size (((w.alloc (.cells #[.string (itx n),.string (dec d)] 101)).alloc (.cells #[.string (itx m),.string (dec e)] 101)).alloc (.cells #[.string ⟨#[]⟩,.string ⟨#[]⟩] 101)) W->∀ d' os,Calls Tryz.prog 258 #[.string (itx (n*e+m*d)),.string (dec (d*e))] (Go.Sort.grow (redrawn W d') os) fun x w''=>x = .returned (.agg #[.string rs,.string rt])/\∃ p:Regrown,w''=Go.Sort.grow (redrawn W p.d) p.os):=fun W hW d' os=>by
   have:=Zcl (Go.Sort.grow (redrawn W d') os) (n*e+m*d) (d*e) _ (Ez.le (Nat.le_succ _)) (hde.le (Nat.le_succ _)) G7 Ez hde rfl ((HL.o.below hW).below (below_regrown W d' os))
   unfold fv at this;rw[hrs,hrt] at this;exact Calls.regrown_of this
  by_cases G9:d=1
  ·rw[decide_eq_true G9] at o1;rw[decide_eq_false (fun h=>fE ⟨G9,h⟩)] at o2;clear G9 fE
   by_cases h1:(itx n).size<=9/\(dec d).size<=9
   ·have gF:=hd_ (Zh n d hn hd h1)
    by_cases h2:(itx m).size<=9/\(dec e).size<=9
    ·have gP:=hd_ (Zh m e hm he h2);have q1:=Zc n 9 (by decide) h1.1;have q2:=Zc m 9 (by decide) h2.1;have q3:=(Ks d 9 (by decide)).1 (by rw[<- Qc];exact h1.2);have q4:=(Ks e 9 (by decide)).1 (by rw[<- Qc];exact h2.2);have q5:(n*e).natAbs<=1000000000*1000000000:=by rw[Int.natAbs_mul];exact Nat.mul_le_mul (by omega) (by omega)
     have q7:(m*d).natAbs<=1000000000*1000000000:=by rw[Int.natAbs_mul];exact Nat.mul_le_mul (by omega) (by omega)
     have q6:d*e<=1000000000*1000000000:=Nat.mul_le_mul (by omega) (by omega);have fH:IntKind.i64.wrap (n*e)=n*e:=iw_ _ (by omega);have dX:IntKind.i64.wrap (m*d)=m*d:=iw_ _ (by omega);have es:IntKind.i64.wrap (n*e+m*d)=n*e+m*d:=iw_ _ (by omega);have fM:IntKind.i64.wrap ((d:Int)*(e:Int))=((d*e:Nat):Int):=by rw[<- Int.natCast_mul];exact iw_ _ ⟨Int.le_trans (by decide) (Int.natCast_nonneg _),Int.le_trans (Int.ofNat_le.2 q6) (by decide)⟩
     have Gj:Hid (∀ W,Below (((w.alloc (.cells #[.string (itx n),.string (dec d)] 101)).alloc (.cells #[.string (itx m),.string (dec e)] 101)).alloc (.cells #[.string ⟨#[]⟩,.string ⟨#[]⟩] 101)).heap.size (((w.alloc (.cells #[.string (itx n),.string (dec d)] 101)).alloc (.cells #[.string (itx m),.string (dec e)] 101)).alloc (.cells #[.string ⟨#[]⟩,.string ⟨#[]⟩] 101)) W->Kc Tryz.prog 260 #[.int .i64 (n*e+m*d),.int .i64 ((d*e:Nat):Int)] W (.agg #[.string rs,.string rt])):=fun W hW=>by
      have:=Zou W (n*e+m*d) (d*e) _ (by omega) (by omega) G7 rfl (HL.o.below hW)
      unfold fv at this;rw[hrs,hrt] at this;exact this
     unfold fv at gF gP ⊢;clear GU GJ fT eS Cl q1 q2 q3 q4 q5 q6 q7 h1 h2 hrs hrt hv G7 fN;go_enter Tryz.func207,Tryz.ntmps207;obtain⟨k0,k1,-,-⟩:=Ka H3.o.fa;obtain⟨k2,k3,-,-⟩:=Ka H3.o.fb;go_wp2_with fail;generalize ((w.alloc (.cells #[.string (itx n),.string (dec d)] 101)).alloc (.cells #[.string (itx m),.string (dec e)] 101)).alloc (.cells #[.string ⟨#[]⟩,.string ⟨#[]⟩] 101)=W0 at *;clear k0 k1 k2 k3;refine cm_ (gF.o _) ?_;rintro e w1 ⟨rfl,HU⟩;have H6:=hd_ HU;clear HU gF;obtain⟨k0,k1,-,-⟩:=Ka (H3.o.next H6.o).fa;obtain⟨k2,k3,-,-⟩:=Ka (H3.o.next H6.o).fb;go_wp2_with fail;clear k0 k1 k2 k3;refine cm_ (gP.o _) ?_;rintro e w2 ⟨rfl,H7⟩;have H9:=bt_ H6 H7;clear H7 H6 gP;go_wp2_with fail;refine cm_ (Gj.o w2 H9.o) ?_;rintro e w3 ⟨rfl,hb3⟩;have gk:=bt_ H9 hb3;clear hb3 H9 Gj;have H8:=hd_ (H3.o.next gk.o);clear H3 gk;obtain⟨k0,k1,f0,f1⟩:=Ka H8.o.fr;have gY:=hd_ H8.o.bel;clear H8;go_wp2;obtain⟨c0,c1,hb3⟩:=Kq (B:=w.heap.size) (.string rs) (.string rt) k0 k1 (by omega) gY.o;generalize (w3.setCell ⟨w.heap.size+1+1,0,none⟩ (.string rs)).setCell ⟨w.heap.size+1+1,1,none⟩ (.string rt)=w9 at *;exact bodyPost_ret (v := .agg #[.string rs,.string rt]) (by simp[results,Tryz.results207,go_sem,c0,c1]) rfl ⟨by rw[Hv.o],hb3⟩
    ·obtain⟨x,y,Gp⟩:=Zi m e hm he h2;have gP:=hd_ Gp;unfold fv at gF gP ⊢;clear h1 h2 hrs hrt hv G7 Gp fN;go_enter Tryz.func207,Tryz.ntmps207;obtain⟨k0,k1,-,-⟩:=Ka H3.o.fa;obtain⟨k2,k3,-,-⟩:=Ka H3.o.fb;go_wp2_with fail;generalize ((w.alloc (.cells #[.string (itx n),.string (dec d)] 101)).alloc (.cells #[.string (itx m),.string (dec e)] 101)).alloc (.cells #[.string ⟨#[]⟩,.string ⟨#[]⟩] 101)=W0 at *;clear k0 k1 k2 k3;refine cm_ (gF.o _) ?_;rintro e w1 ⟨rfl,HU⟩;have H6:=hd_ HU;clear HU gF;obtain⟨k0,k1,-,-⟩:=Ka (H3.o.next H6.o).fa;obtain⟨k2,k3,-,-⟩:=Ka (H3.o.next H6.o).fb;go_wp2_with fail;clear k0 k1 k2 k3;refine cm_ (gP.o _) ?_;rintro e w2 ⟨rfl,H7⟩;have H9:=bt_ H6 H7;clear H7 H6 gP;obtain⟨k0,k1,-,-⟩:=Ka (H3.o.next H9.o).fa;obtain⟨k2,k3,-,-⟩:=Ka (H3.o.next H9.o).fb;have q0:=cell_regrown k0;have q1:=cell_regrown k1;have q2:=cell_regrown k2;have q3:=cell_regrown k3;have gZ:=GU.o w2 H9.o;have Gb:=GJ.o w2 H9.o;have Gr:=fT.o w2 H9.o;have GR:=eS.o w2 H9.o;have Fd:=Cl.o w2 H9.o;clear k0 k1 k2 k3 GU GJ fT eS Cl;go_wp2_with fail;refine Kt 17 (by kernel_rfl) (by kernel_rfl) ?_;simp only[List.take_succ_cons,List.take_zero,List.drop_succ_cons,List.drop_zero]
     repeat (first | go_big_quiet_step (first | with_reducible exact gZ _ _ | with_reducible exact Gb _ _ | with_reducible exact Gr _ _ | with_reducible exact GR _ _ | with_reducible exact Fd _ _) | quiet_step (first | with_reducible exact gZ _ _ | with_reducible exact Gb _ _ | with_reducible exact Gr _ _ | with_reducible exact GR _ _ | with_reducible exact Fd _ _))
     refine wpQuiet_nil ?_;intro w8 hw8;obtain⟨⟨dq,osq⟩,rfl⟩:=hw8;have GT:=below_regrown w2 dq osq;have H8:=hd_ ((H3.o.next H9.o).next GT);clear GT gZ Gb Gr GR Fd q0 q1 q2 q3 H3 H9;generalize Go.Sort.grow (redrawn w2 dq) osq=w8 at *;obtain⟨k0,k1,f0,f1⟩:=Ka H8.o.fr;have gY:=hd_ H8.o.bel;clear H8;go_wp2;obtain⟨c0,c1,hb3⟩:=Kq (B:=w.heap.size) (.string rs) (.string rt) k0 k1 (by omega) gY.o;generalize (w8.setCell ⟨w.heap.size+1+1,0,none⟩ (.string rs)).setCell ⟨w.heap.size+1+1,1,none⟩ (.string rt)=w9 at *;exact bodyPost_ret (v := .agg #[.string rs,.string rt]) (by simp[results,Tryz.results207,go_sem,c0,c1]) rfl ⟨by rw[Hv.o],hb3⟩
   ·obtain⟨x,y,Ga⟩:=Zi n d hn hd h1;have gF:=hd_ Ga;unfold fv at gF ⊢;clear h1 hrs hrt hv G7 Ga fN;go_enter Tryz.func207,Tryz.ntmps207;obtain⟨k0,k1,-,-⟩:=Ka H3.o.fa;obtain⟨k2,k3,-,-⟩:=Ka H3.o.fb;go_wp2_with fail;generalize ((w.alloc (.cells #[.string (itx n),.string (dec d)] 101)).alloc (.cells #[.string (itx m),.string (dec e)] 101)).alloc (.cells #[.string ⟨#[]⟩,.string ⟨#[]⟩] 101)=W0 at *;clear k0 k1 k2 k3;refine cm_ (gF.o _) ?_;rintro e w1 ⟨rfl,HU⟩;have H6:=hd_ HU;clear HU gF;obtain⟨k0,k1,-,-⟩:=Ka (H3.o.next H6.o).fa;obtain⟨k2,k3,-,-⟩:=Ka (H3.o.next H6.o).fb;have q0:=cell_regrown k0;have q1:=cell_regrown k1;have q2:=cell_regrown k2;have q3:=cell_regrown k3;have gZ:=GU.o w1 H6.o;have Gb:=GJ.o w1 H6.o;have Gr:=fT.o w1 H6.o;have GR:=eS.o w1 H6.o;have Fd:=Cl.o w1 H6.o;clear k0 k1 k2 k3 GU GJ fT eS Cl;go_wp2_with fail;refine Kt 17 (by kernel_rfl) (by kernel_rfl) ?_;simp only[List.take_succ_cons,List.take_zero,List.drop_succ_cons,List.drop_zero]
    repeat (first | go_big_quiet_step (first | with_reducible exact gZ _ _ | with_reducible exact Gb _ _ | with_reducible exact Gr _ _ | with_reducible exact GR _ _ | with_reducible exact Fd _ _) | quiet_step (first | with_reducible exact gZ _ _ | with_reducible exact Gb _ _ | with_reducible exact Gr _ _ | with_reducible exact GR _ _ | with_reducible exact Fd _ _))
    refine wpQuiet_nil ?_;intro w8 hw8;obtain⟨⟨dq,osq⟩,rfl⟩:=hw8;have GT:=below_regrown w1 dq osq;have H8:=hd_ ((H3.o.next H6.o).next GT);clear GT gZ Gb Gr GR Fd q0 q1 q2 q3 H3 H6;generalize Go.Sort.grow (redrawn w1 dq) osq=w8 at *;obtain⟨k0,k1,f0,f1⟩:=Ka H8.o.fr;have gY:=hd_ H8.o.bel;clear H8;go_wp2;obtain⟨c0,c1,hb3⟩:=Kq (B:=w.heap.size) (.string rs) (.string rt) k0 k1 (by omega) gY.o;generalize (w8.setCell ⟨w.heap.size+1+1,0,none⟩ (.string rs)).setCell ⟨w.heap.size+1+1,1,none⟩ (.string rt)=w9 at *;exact bodyPost_ret (v := .agg #[.string rs,.string rt]) (by simp[results,Tryz.results207,go_sem,c0,c1]) rfl ⟨by rw[Hv.o],hb3⟩
  ·rw[decide_eq_false G9] at o1;clear G9 fE o2
   by_cases h1:(itx n).size<=9/\(dec d).size<=9
   ·have gF:=hd_ (Zh n d hn hd h1)
    by_cases h2:(itx m).size<=9/\(dec e).size<=9
    ·have gP:=hd_ (Zh m e hm he h2);have q1:=Zc n 9 (by decide) h1.1;have q2:=Zc m 9 (by decide) h2.1;have q3:=(Ks d 9 (by decide)).1 (by rw[<- Qc];exact h1.2);have q4:=(Ks e 9 (by decide)).1 (by rw[<- Qc];exact h2.2);have q5:(n*e).natAbs<=1000000000*1000000000:=by rw[Int.natAbs_mul];exact Nat.mul_le_mul (by omega) (by omega)
     have q7:(m*d).natAbs<=1000000000*1000000000:=by rw[Int.natAbs_mul];exact Nat.mul_le_mul (by omega) (by omega)
     have q6:d*e<=1000000000*1000000000:=Nat.mul_le_mul (by omega) (by omega);have fH:IntKind.i64.wrap (n*e)=n*e:=iw_ _ (by omega);have dX:IntKind.i64.wrap (m*d)=m*d:=iw_ _ (by omega);have es:IntKind.i64.wrap (n*e+m*d)=n*e+m*d:=iw_ _ (by omega);have fM:IntKind.i64.wrap ((d:Int)*(e:Int))=((d*e:Nat):Int):=by rw[<- Int.natCast_mul];exact iw_ _ ⟨Int.le_trans (by decide) (Int.natCast_nonneg _),Int.le_trans (Int.ofNat_le.2 q6) (by decide)⟩
     have Gj:Hid (∀ W,Below (((w.alloc (.cells #[.string (itx n),.string (dec d)] 101)).alloc (.cells #[.string (itx m),.string (dec e)] 101)).alloc (.cells #[.string ⟨#[]⟩,.string ⟨#[]⟩] 101)).heap.size (((w.alloc (.cells #[.string (itx n),.string (dec d)] 101)).alloc (.cells #[.string (itx m),.string (dec e)] 101)).alloc (.cells #[.string ⟨#[]⟩,.string ⟨#[]⟩] 101)) W->Kc Tryz.prog 260 #[.int .i64 (n*e+m*d),.int .i64 ((d*e:Nat):Int)] W (.agg #[.string rs,.string rt])):=fun W hW=>by
      have:=Zou W (n*e+m*d) (d*e) _ (by omega) (by omega) G7 rfl (HL.o.below hW)
      unfold fv at this;rw[hrs,hrt] at this;exact this
     unfold fv at gF gP ⊢;clear GU GJ fT eS Cl q1 q2 q3 q4 q5 q6 q7 h1 h2 hrs hrt hv G7 fN;go_enter Tryz.func207,Tryz.ntmps207;obtain⟨k0,k1,-,-⟩:=Ka H3.o.fa;obtain⟨k2,k3,-,-⟩:=Ka H3.o.fb;go_wp2_with fail;generalize ((w.alloc (.cells #[.string (itx n),.string (dec d)] 101)).alloc (.cells #[.string (itx m),.string (dec e)] 101)).alloc (.cells #[.string ⟨#[]⟩,.string ⟨#[]⟩] 101)=W0 at *;clear k0 k1 k2 k3;refine cm_ (gF.o _) ?_;rintro e w1 ⟨rfl,HU⟩;have H6:=hd_ HU;clear HU gF;obtain⟨k0,k1,-,-⟩:=Ka (H3.o.next H6.o).fa;obtain⟨k2,k3,-,-⟩:=Ka (H3.o.next H6.o).fb;go_wp2_with fail;clear k0 k1 k2 k3;refine cm_ (gP.o _) ?_;rintro e w2 ⟨rfl,H7⟩;have H9:=bt_ H6 H7;clear H7 H6 gP;go_wp2_with fail;refine cm_ (Gj.o w2 H9.o) ?_;rintro e w3 ⟨rfl,hb3⟩;have gk:=bt_ H9 hb3;clear hb3 H9 Gj;have H8:=hd_ (H3.o.next gk.o);clear H3 gk;obtain⟨k0,k1,f0,f1⟩:=Ka H8.o.fr;have gY:=hd_ H8.o.bel;clear H8;go_wp2;obtain⟨c0,c1,hb3⟩:=Kq (B:=w.heap.size) (.string rs) (.string rt) k0 k1 (by omega) gY.o;generalize (w3.setCell ⟨w.heap.size+1+1,0,none⟩ (.string rs)).setCell ⟨w.heap.size+1+1,1,none⟩ (.string rt)=w9 at *;exact bodyPost_ret (v := .agg #[.string rs,.string rt]) (by simp[results,Tryz.results207,go_sem,c0,c1]) rfl ⟨by rw[Hv.o],hb3⟩
    ·obtain⟨x,y,Gp⟩:=Zi m e hm he h2;have gP:=hd_ Gp;unfold fv at gF gP ⊢;clear h1 h2 hrs hrt hv G7 Gp fN;go_enter Tryz.func207,Tryz.ntmps207;obtain⟨k0,k1,-,-⟩:=Ka H3.o.fa;obtain⟨k2,k3,-,-⟩:=Ka H3.o.fb;go_wp2_with fail;generalize ((w.alloc (.cells #[.string (itx n),.string (dec d)] 101)).alloc (.cells #[.string (itx m),.string (dec e)] 101)).alloc (.cells #[.string ⟨#[]⟩,.string ⟨#[]⟩] 101)=W0 at *;clear k0 k1 k2 k3;refine cm_ (gF.o _) ?_;rintro e w1 ⟨rfl,HU⟩;have H6:=hd_ HU;clear HU gF;obtain⟨k0,k1,-,-⟩:=Ka (H3.o.next H6.o).fa;obtain⟨k2,k3,-,-⟩:=Ka (H3.o.next H6.o).fb;go_wp2_with fail;clear k0 k1 k2 k3;refine cm_ (gP.o _) ?_;rintro e w2 ⟨rfl,H7⟩;have H9:=bt_ H6 H7;clear H7 H6 gP;obtain⟨k0,k1,-,-⟩:=Ka (H3.o.next H9.o).fa;obtain⟨k2,k3,-,-⟩:=Ka (H3.o.next H9.o).fb;have q0:=cell_regrown k0;have q1:=cell_regrown k1;have q2:=cell_regrown k2;have q3:=cell_regrown k3;have gZ:=GU.o w2 H9.o;have Gb:=GJ.o w2 H9.o;have Gr:=fT.o w2 H9.o;have GR:=eS.o w2 H9.o;have Fd:=Cl.o w2 H9.o;clear k0 k1 k2 k3 GU GJ fT eS Cl;go_wp2_with fail;refine Kt 17 (by kernel_rfl) (by kernel_rfl) ?_;simp only[List.take_succ_cons,List.take_zero,List.drop_succ_cons,List.drop_zero]
     repeat (first | go_big_quiet_step (first | with_reducible exact gZ _ _ | with_reducible exact Gb _ _ | with_reducible exact Gr _ _ | with_reducible exact GR _ _ | with_reducible exact Fd _ _) | quiet_step (first | with_reducible exact gZ _ _ | with_reducible exact Gb _ _ | with_reducible exact Gr _ _ | with_reducible exact GR _ _ | with_reducible exact Fd _ _))
     refine wpQuiet_nil ?_;intro w8 hw8;obtain⟨⟨dq,osq⟩,rfl⟩:=hw8;have GT:=below_regrown w2 dq osq;have H8:=hd_ ((H3.o.next H9.o).next GT);clear GT gZ Gb Gr GR Fd q0 q1 q2 q3 H3 H9;generalize Go.Sort.grow (redrawn w2 dq) osq=w8 at *;obtain⟨k0,k1,f0,f1⟩:=Ka H8.o.fr;have gY:=hd_ H8.o.bel;clear H8;go_wp2;obtain⟨c0,c1,hb3⟩:=Kq (B:=w.heap.size) (.string rs) (.string rt) k0 k1 (by omega) gY.o;generalize (w8.setCell ⟨w.heap.size+1+1,0,none⟩ (.string rs)).setCell ⟨w.heap.size+1+1,1,none⟩ (.string rt)=w9 at *;exact bodyPost_ret (v := .agg #[.string rs,.string rt]) (by simp[results,Tryz.results207,go_sem,c0,c1]) rfl ⟨by rw[Hv.o],hb3⟩
   ·obtain⟨x,y,Ga⟩:=Zi n d hn hd h1;have gF:=hd_ Ga;unfold fv at gF ⊢;clear h1 hrs hrt hv G7 Ga fN;go_enter Tryz.func207,Tryz.ntmps207;obtain⟨k0,k1,-,-⟩:=Ka H3.o.fa;obtain⟨k2,k3,-,-⟩:=Ka H3.o.fb;go_wp2_with fail;generalize ((w.alloc (.cells #[.string (itx n),.string (dec d)] 101)).alloc (.cells #[.string (itx m),.string (dec e)] 101)).alloc (.cells #[.string ⟨#[]⟩,.string ⟨#[]⟩] 101)=W0 at *;clear k0 k1 k2 k3;refine cm_ (gF.o _) ?_;rintro e w1 ⟨rfl,HU⟩;have H6:=hd_ HU;clear HU gF;obtain⟨k0,k1,-,-⟩:=Ka (H3.o.next H6.o).fa;obtain⟨k2,k3,-,-⟩:=Ka (H3.o.next H6.o).fb;have q0:=cell_regrown k0;have q1:=cell_regrown k1;have q2:=cell_regrown k2;have q3:=cell_regrown k3;have gZ:=GU.o w1 H6.o;have Gb:=GJ.o w1 H6.o;have Gr:=fT.o w1 H6.o;have GR:=eS.o w1 H6.o;have Fd:=Cl.o w1 H6.o;clear k0 k1 k2 k3 GU GJ fT eS Cl;go_wp2_with fail;refine Kt 17 (by kernel_rfl) (by kernel_rfl) ?_;simp only[List.take_succ_cons,List.take_zero,List.drop_succ_cons,List.drop_zero]
    repeat (first | go_big_quiet_step (first | with_reducible exact gZ _ _ | with_reducible exact Gb _ _ | with_reducible exact Gr _ _ | with_reducible exact GR _ _ | with_reducible exact Fd _ _) | quiet_step (first | with_reducible exact gZ _ _ | with_reducible exact Gb _ _ | with_reducible exact Gr _ _ | with_reducible exact GR _ _ | with_reducible exact Fd _ _))
    refine wpQuiet_nil ?_;intro w8 hw8;obtain⟨⟨dq,osq⟩,rfl⟩:=hw8;have GT:=below_regrown w1 dq osq;have H8:=hd_ ((H3.o.next H6.o).next GT);clear GT gZ Gb Gr GR Fd q0 q1 q2 q3 H3 H6;generalize Go.Sort.grow (redrawn w1 dq) osq=w8 at *;obtain⟨k0,k1,f0,f1⟩:=Ka H8.o.fr;have gY:=hd_ H8.o.bel;clear H8;go_wp2;obtain⟨c0,c1,hb3⟩:=Kq (B:=w.heap.size) (.string rs) (.string rt) k0 k1 (by omega) gY.o;generalize (w8.setCell ⟨w.heap.size+1+1,0,none⟩ (.string rs)).setCell ⟨w.heap.size+1+1,1,none⟩ (.string rt)=w9 at *;exact bodyPost_ret (v := .agg #[.string rs,.string rt]) (by simp[results,Tryz.results207,go_sem,c0,c1]) rfl ⟨by rw[Hv.o],hb3⟩
theorem Zjv(w:World)(n:Int)(d:Nat)(hn:Zbo n)(hd:Num d)(G':0<d)(L:Qg w):
  Kc Tryz.prog 139 #[fv n d] w (.int .i64 (if ((dec n.natAbs).size<=400/\(dec d).size<=400)/\Nat.gcd n.natAbs d=1 then 0 else 2)):=by
 unfold Kc fv;have gC:=hd_ ((Below.refl w.heap.size w).alloc nr_ (.cells #[.string (itx n),.string (dec d)] 101));have gi:Hid ((w.alloc (.cells #[.string (itx n),.string (dec d)] 101)).heap[w.heap.size]?=some (.cells #[.string (itx n),.string (dec d)] 101 (0,0))):=heap_alloc_new w _;have HL:=hd_ (L.below gC.o);have gF:=hd_ (fun W=>Zfi W n hn);have gP:Hid (∀ W,Kc Tryz.prog 218 #[.string (dec d)] W (.int .i64 (if (dec d).size<=400 then 0 else 2))):=fun W=>by
  have:=Zfi W (d:Int) (show Num _ from hd)
  rw[Kg] at this;exact this
 have gI:Hid (∀ W,Kc Tryz.prog 59 #[.string (dec d)] W (.int .i64 1)):=fun W=>by
  have:=Ys W (d:Int)
  rw[Kg,Zf8 G'] at this;exact this
 have fF:Hid (∀ W,Below (w.alloc (.cells #[.string (itx n),.string (dec d)] 101)).heap.size (w.alloc (.cells #[.string (itx n),.string (dec d)] 101)) W->Kc Tryz.prog 219 #[.string (itx n),.string (dec d)] W (.string (dec (Nat.gcd n.natAbs d)))):=fun W hW=>by
  have:=Zk8 W n (d:Int) hn (show Num _ from hd) (HL.o.below hW)
  rw[Kg] at this;exact this
 have ho:=Zjp (Nat.gcd n.natAbs d);clear L HL hn hd G'
 by_cases h1:(dec n.natAbs).size<=400
 ·rw[if_pos h1] at gF
  by_cases h2:(dec d).size<=400
  ·rw[if_pos h2] at gP
   by_cases h3:Nat.gcd n.natAbs d=1
   ·rw[if_pos ⟨⟨h1,h2⟩,h3⟩];rw[decide_eq_true h3] at ho;clear h1 h2 h3;generalize dec (Nat.gcd n.natAbs d)=u at *;go_enter Tryz.func139,Tryz.ntmps139;obtain⟨k0,k1,-,-⟩:=Ka gi.o;go_wp2_with fail;generalize w.alloc (.cells #[.string (itx n),.string (dec d)] 101)=W0 at *;clear k0 k1;refine cm_ (gF.o _) ?_;rintro e w1 ⟨rfl,HU⟩;have H6:=hd_ HU;clear HU gF;obtain⟨k0,k1,-,-⟩:=Ka (Kh gi.o H6.o);go_wp2_with fail;clear k0 k1;refine cm_ (gP.o _) ?_;rintro e w2 ⟨rfl,H7⟩;have H9:=bt_ H6 H7;clear H7 H6 gP;obtain⟨k0,k1,-,-⟩:=Ka (Kh gi.o H9.o);go_wp2_with fail;clear k0 k1;refine cm_ (gI.o _) ?_;rintro e w3 ⟨rfl,hb3⟩;have gk:=bt_ H9 hb3;clear hb3 H9 gI;obtain⟨k0,k1,-,-⟩:=Ka (Kh gi.o gk.o);go_wp2_with fail;clear k0 k1;refine cm_ (fF.o _ gk.o) ?_;rintro e w4 ⟨rfl,gz⟩;have gq:=bt_ gk gz;clear gz gk fF;have gY:=bt_ gC gq.o;obtain⟨k0,k1,-,-⟩:=Ka (Kh gi.o gq.o);go_wp2;go_ret;exact⟨rfl,gY.o⟩
   ·rw[if_neg (fun h=>h3 h.2)];rw[decide_eq_false h3] at ho;clear h1 h2 h3;generalize dec (Nat.gcd n.natAbs d)=u at *;go_enter Tryz.func139,Tryz.ntmps139;obtain⟨k0,k1,-,-⟩:=Ka gi.o;go_wp2_with fail;generalize w.alloc (.cells #[.string (itx n),.string (dec d)] 101)=W0 at *;clear k0 k1;refine cm_ (gF.o _) ?_;rintro e w1 ⟨rfl,HU⟩;have H6:=hd_ HU;clear HU gF;obtain⟨k0,k1,-,-⟩:=Ka (Kh gi.o H6.o);go_wp2_with fail;clear k0 k1;refine cm_ (gP.o _) ?_;rintro e w2 ⟨rfl,H7⟩;have H9:=bt_ H6 H7;clear H7 H6 gP;obtain⟨k0,k1,-,-⟩:=Ka (Kh gi.o H9.o);go_wp2_with fail;clear k0 k1;refine cm_ (gI.o _) ?_;rintro e w3 ⟨rfl,hb3⟩;have gk:=bt_ H9 hb3;clear hb3 H9 gI;obtain⟨k0,k1,-,-⟩:=Ka (Kh gi.o gk.o);go_wp2_with fail;clear k0 k1;refine cm_ (fF.o _ gk.o) ?_;rintro e w4 ⟨rfl,gz⟩;have gq:=bt_ gk gz;clear gz gk fF;have gY:=bt_ gC gq.o;obtain⟨k0,k1,-,-⟩:=Ka (Kh gi.o gq.o);go_wp2;go_ret;exact⟨rfl,gY.o⟩
  ·rw[if_neg h2] at gP;rw[if_neg (fun h=>h2 h.1.2)];clear h1 h2 fF ho;go_enter Tryz.func139,Tryz.ntmps139;obtain⟨k0,k1,-,-⟩:=Ka gi.o;go_wp2_with fail;generalize w.alloc (.cells #[.string (itx n),.string (dec d)] 101)=W0 at *;clear k0 k1;refine cm_ (gF.o _) ?_;rintro e w1 ⟨rfl,HU⟩;have H6:=hd_ HU;clear HU gF;obtain⟨k0,k1,-,-⟩:=Ka (Kh gi.o H6.o);go_wp2_with fail;clear k0 k1;refine cm_ (gP.o _) ?_;rintro e w2 ⟨rfl,H7⟩;have H9:=bt_ H6 H7;clear H7 H6 gP;have gY:=bt_ gC H9.o;obtain⟨k0,k1,-,-⟩:=Ka (Kh gi.o H9.o);go_wp2;go_ret;exact⟨rfl,gY.o⟩
 ·rw[if_neg h1] at gF;rw[if_neg (fun h=>h1 h.1.1)];clear h1 fF ho gP;go_enter Tryz.func139,Tryz.ntmps139;obtain⟨k0,k1,-,-⟩:=Ka gi.o;go_wp2_with fail;generalize w.alloc (.cells #[.string (itx n),.string (dec d)] 101)=W0 at *;clear k0 k1;refine cm_ (gF.o _) ?_;rintro e w1 ⟨rfl,HU⟩;have H6:=hd_ HU;clear HU gF;have gY:=bt_ gC H6.o;obtain⟨k0,k1,-,-⟩:=Ka (Kh gi.o H6.o);go_wp2;go_ret;exact⟨rfl,gY.o⟩
theorem Zmg(w:World)(n:Int)(d:Nat):
  Kc Tryz.prog 121 #[fv n d] w (.int .i64 n.sign):=by
 unfold Kc fv;have gC:=hd_ ((Below.refl w.heap.size w).alloc nr_ (.cells #[.string (itx n),.string (dec d)] 101));have gi:Hid ((w.alloc (.cells #[.string (itx n),.string (dec d)] 101)).heap[w.heap.size]?=some (.cells #[.string (itx n),.string (dec d)] 101 (0,0))):=heap_alloc_new w _;have gI:=hd_ (fun W=>Ys W n);go_enter Tryz.func121,Tryz.ntmps121;obtain⟨k0,k1,-,-⟩:=Ka gi.o;go_wp2_with fail;generalize w.alloc (.cells #[.string (itx n),.string (dec d)] 101)=W0 at *;clear k0 k1;refine cm_ (gI.o _) ?_;rintro e w1 ⟨rfl,HU⟩;have H6:=hd_ HU;clear HU gI;have gY:=bt_ gC H6.o;obtain⟨k0,k1,-,-⟩:=Ka (Kh gi.o H6.o);go_wp2;go_ret;exact⟨rfl,gY.o⟩
theorem Ztx(w:World)(n:Int)(d:Nat)(hn:Zbo n)(hd:Num d)(G':0<d)(Fb:Num (n.natAbs+1))(L:Qg w):
  Kc Tryz.prog 239 #[fv n d] w (.string (itx (n/(d:Int)))):=by
 unfold Kc fv;have gC:=hd_ ((Below.refl w.heap.size w).alloc nr_ (.cells #[.string (itx n),.string (dec d)] 101));have gi:Hid ((w.alloc (.cells #[.string (itx n),.string (dec d)] 101)).heap[w.heap.size]?=some (.cells #[.string (itx n),.string (dec d)] 101 (0,0))):=heap_alloc_new w _;have HL:=hd_ (L.below gC.o);have fL:Hid (∀ W,Below (w.alloc (.cells #[.string (itx n),.string (dec d)] 101)).heap.size (w.alloc (.cells #[.string (itx n),.string (dec d)] 101)) W->Kc Tryz.prog 163 #[.string (itx n),.string (dec d)] W (.tuple #[.string (itx (n/(d:Int))),.string (itx (n%(d:Int))),.int .i64 0])):=fun W hW=>Yj W n d hn hd G' Fb (HL.o.below hW)
 clear L;go_enter Tryz.func239,Tryz.ntmps239;obtain⟨k0,k1,-,-⟩:=Ka gi.o;go_wp2_with fail;generalize w.alloc (.cells #[.string (itx n),.string (dec d)] 101)=W0 at *;clear k0 k1;refine cm_ (fL.o _ (Below.refl _ _)) ?_;rintro e w1 ⟨rfl,HU⟩;have H6:=hd_ HU;clear HU fL;have gY:=bt_ gC H6.o;obtain⟨k0,k1,-,-⟩:=Ka (Kh gi.o H6.o);go_wp2;go_ret;exact⟨rfl,gY.o⟩
theorem Zq8(w:World)(n:Int)(d:Nat)(hn:Zbo n)(hd:Num d)(G':0<d)(Fb:Num (n.natAbs+1))(G9:Num (d+1))(L:Qg w):
  Kc Tryz.prog 204 #[.string (itx n),.string (dec d)] w (.tuple #[Zlz n d,.int .i64 0]):=by
 obtain⟨rs,hrs⟩:∃ rs,itx (n/((Nat.gcd n.natAbs d:Nat):Int))=rs:=⟨_,rfl⟩;obtain⟨rt,hrt⟩:∃ rt,dec (d/Nat.gcd n.natAbs d)=rt:=⟨_,rfl⟩;have hv:Zlz n d = .agg #[.string rs,.string rt]:=by unfold Zlz fv;rw[hrs,hrt]
 have Hv:=hd_ hv;unfold Kc;have gC:=hd_ ((Below.refl w.heap.size w).alloc nr_ (.cells #[.string ⟨#[]⟩,.string ⟨#[]⟩] 101));have gi:Hid ((w.alloc (.cells #[.string ⟨#[]⟩,.string ⟨#[]⟩] 101)).heap[w.heap.size]?=some (.cells #[.string ⟨#[]⟩,.string ⟨#[]⟩] 101 (0,0))):=heap_alloc_new w _;have HL:=hd_ (L.below gC.o);clear L;have gI:Hid (∀ W,Kc Tryz.prog 59 #[.string (dec d)] W (.int .i64 1)):=fun W=>by
  have:=Ys W (d:Int)
  rw[Kg,Zf8 G'] at this;exact this
 have cF:Hid (∀ W,Below (w.alloc (.cells #[.string ⟨#[]⟩,.string ⟨#[]⟩] 101)).heap.size (w.alloc (.cells #[.string ⟨#[]⟩,.string ⟨#[]⟩] 101)) W->Kc Tryz.prog 258 #[.string (itx n),.string (dec d)] W (.agg #[.string rs,.string rt])):=fun W hW=>by
  have:=Zcl W n d _ hn hd G' Fb G9 rfl (HL.o.below hW)
  unfold fv at this;rw[hrs,hrt] at this;exact this
 clear hrs hrt hv;go_enter Tryz.func204,Tryz.ntmps204;go_wp2_with fail;generalize w.alloc (.cells #[.string ⟨#[]⟩,.string ⟨#[]⟩] 101)=W0 at *;refine cm_ (gI.o _) ?_;rintro e w1 ⟨rfl,HU⟩;have H6:=hd_ HU;clear HU gI;go_wp2_with fail;refine cm_ (cF.o _ H6.o) ?_;rintro e w2 ⟨rfl,H7⟩;have H9:=bt_ H6 H7;clear H7 H6 cF;have gw:=hd_ (Kh gi.o H9.o);have gY:=bt_ gC H9.o;obtain⟨k0,k1,f0,f1⟩:=Ka gw.o;clear H9 gC gw gi HL;go_wp2;obtain⟨c0,c1,hb3⟩:=Kq (.string rs) (.string rt) k0 k1 nr_ gY.o;generalize (w2.setCell ⟨w.heap.size,0,none⟩ (.string rs)).setCell ⟨w.heap.size,1,none⟩ (.string rt)=w9 at *;exact bodyPost_ret (v := .tuple #[.agg #[.string rs,.string rt],.int .i64 0]) (by simp[results,Tryz.results204,go_sem,c0,c1]) rfl ⟨by rw[Hv.o],hb3⟩
theorem Zq4(w:World)(n:Int)(d:Nat)(q1 : -9223372036854775808<=n)(q2:n<=9223372036854775807)(q3:d<=9223372036854775807)(hn:Zbo n)(hd:Num d)(G':0<d)(Fb:Num (n.natAbs+1))(G9:Num (d+1))(L:Qg w):
  Kc Tryz.prog 126 #[.int .i64 n,.int .i64 d] w (.tuple #[Zlz n d,.int .i64 0]):=by
 obtain⟨rs,hrs⟩:∃ rs,itx (n/((Nat.gcd n.natAbs d:Nat):Int))=rs:=⟨_,rfl⟩;obtain⟨rt,hrt⟩:∃ rt,dec (d/Nat.gcd n.natAbs d)=rt:=⟨_,rfl⟩;have hv:Zlz n d = .agg #[.string rs,.string rt]:=by unfold Zlz fv;rw[hrs,hrt]
 have Hv:=hd_ hv;unfold Kc;have gC:=hd_ ((Below.refl w.heap.size w).alloc nr_ (.cells #[.string ⟨#[]⟩,.string ⟨#[]⟩] 101));have gi:Hid ((w.alloc (.cells #[.string ⟨#[]⟩,.string ⟨#[]⟩] 101)).heap[w.heap.size]?=some (.cells #[.string ⟨#[]⟩,.string ⟨#[]⟩] 101 (0,0))):=heap_alloc_new w _;have HL:=hd_ (L.below gC.o);clear L;have FQ:Hid (∀ W,Below (w.alloc (.cells #[.string ⟨#[]⟩,.string ⟨#[]⟩] 101)).heap.size (w.alloc (.cells #[.string ⟨#[]⟩,.string ⟨#[]⟩] 101)) W->Kc Tryz.prog 13 #[.int .i64 n] W (.string (itx n))):=fun W hW=>Zam W n q1 q2 (HL.o.below hW)
 have ia:Hid (∀ W,Below (w.alloc (.cells #[.string ⟨#[]⟩,.string ⟨#[]⟩] 101)).heap.size (w.alloc (.cells #[.string ⟨#[]⟩,.string ⟨#[]⟩] 101)) W->Kc Tryz.prog 13 #[.int .i64 d] W (.string (dec d))):=fun W hW=>by
  have:=Zam W (d:Int) (by omega) (by omega) (HL.o.below hW)
  rw[Kg] at this;exact this
 have bv:Hid (∀ W,Below (w.alloc (.cells #[.string ⟨#[]⟩,.string ⟨#[]⟩] 101)).heap.size (w.alloc (.cells #[.string ⟨#[]⟩,.string ⟨#[]⟩] 101)) W->Kc Tryz.prog 204 #[.string (itx n),.string (dec d)] W (.tuple #[.agg #[.string rs,.string rt],.int .i64 0])):=fun W hW=>by
  have:=Zq8 W n d hn hd G' Fb G9 (HL.o.below hW)
  rw[hv] at this;exact this
 clear hrs hrt hv;go_enter Tryz.func126,Tryz.ntmps126;go_wp2_with fail;generalize w.alloc (.cells #[.string ⟨#[]⟩,.string ⟨#[]⟩] 101)=W0 at *;refine cm_ (FQ.o _ (Below.refl _ _)) ?_;rintro e w1 ⟨rfl,HU⟩;have H6:=hd_ HU;clear HU FQ;go_wp2_with fail;refine cm_ (ia.o _ H6.o) ?_;rintro e w2 ⟨rfl,H7⟩;have H9:=bt_ H6 H7;clear H7 H6 ia;go_wp2_with fail;refine cm_ (bv.o _ H9.o) ?_;rintro e w3 ⟨rfl,hb3⟩;have gk:=bt_ H9 hb3;clear hb3 H9 bv;have gw:=hd_ (Kh gi.o gk.o);have gY:=bt_ gC gk.o;obtain⟨k0,k1,f0,f1⟩:=Ka gw.o;clear gk gC gw gi HL;go_wp2;obtain⟨c0,c1,hb3⟩:=Kq (.string rs) (.string rt) k0 k1 nr_ gY.o;generalize (w3.setCell ⟨w.heap.size,0,none⟩ (.string rs)).setCell ⟨w.heap.size,1,none⟩ (.string rt)=w9 at *;exact bodyPost_ret (v := .tuple #[.agg #[.string rs,.string rt],.int .i64 0]) (by simp[results,Tryz.results126,go_sem,c0,c1]) rfl ⟨by rw[Hv.o],hb3⟩
theorem Zb2(w:World)(z:Int)(q1 : -9223372036854775808<=z)(q2:z<=9223372036854775807)(L:Qg w):
  Kc Tryz.prog 58 #[.int .i64 z] w (fv z 1):=by
 obtain⟨rs,hrs⟩:∃ rs,itx z=rs:=⟨_,rfl⟩;have hv:fv z 1 = .agg #[.string rs,.string ⟨#[49]⟩]:=by unfold fv;rw[hrs,Yo]
 have Hv:=hd_ hv;unfold Kc;have gC:=hd_ ((Below.refl w.heap.size w).alloc nr_ (.cells #[.string ⟨#[]⟩,.string ⟨#[]⟩] 101));have gi:Hid ((w.alloc (.cells #[.string ⟨#[]⟩,.string ⟨#[]⟩] 101)).heap[w.heap.size]?=some (.cells #[.string ⟨#[]⟩,.string ⟨#[]⟩] 101 (0,0))):=heap_alloc_new w _;have HL:=hd_ (L.below gC.o);clear L;have FQ:Hid (∀ W,Below (w.alloc (.cells #[.string ⟨#[]⟩,.string ⟨#[]⟩] 101)).heap.size (w.alloc (.cells #[.string ⟨#[]⟩,.string ⟨#[]⟩] 101)) W->Kc Tryz.prog 13 #[.int .i64 z] W (.string rs)):=fun W hW=>by
  have:=Zam W z q1 q2 (HL.o.below hW)
  rw[hrs] at this;exact this
 clear hrs hv;go_enter Tryz.func58,Tryz.ntmps58;go_wp2_with fail;generalize w.alloc (.cells #[.string ⟨#[]⟩,.string ⟨#[]⟩] 101)=W0 at *;refine cm_ (FQ.o _ (Below.refl _ _)) ?_;rintro e w1 ⟨rfl,HU⟩;have H6:=hd_ HU;clear HU FQ;have gw:=hd_ (Kh gi.o H6.o);have gY:=bt_ gC H6.o;obtain⟨k0,k1,f0,f1⟩:=Ka gw.o;clear H6 gC gw gi HL;go_wp2;obtain⟨c0,c1,hb3⟩:=Kq (.string rs) (.string ⟨#[49]⟩) k0 k1 nr_ gY.o;generalize (w1.setCell ⟨w.heap.size,0,none⟩ (.string rs)).setCell ⟨w.heap.size,1,none⟩ (.string ⟨#[49]⟩)=w9 at *;exact bodyPost_ret (v := .agg #[.string rs,.string ⟨#[49]⟩]) (by simp[results,Tryz.results58,go_sem,c0,c1]) rfl ⟨by rw[Hv.o],hb3⟩
theorem Zu1(w:World)(n:Int)(d:Nat):
  Kc Tryz.prog 161 #[fv n d] w (.bool (decide ((dec n.natAbs).size<=30/\(dec d).size<=30))):=by
 unfold Kc fv;have gC:=hd_ ((Below.refl w.heap.size w).alloc nr_ (.cells #[.string (itx n),.string (dec d)] 101));have gi:Hid ((w.alloc (.cells #[.string (itx n),.string (dec d)] 101)).heap[w.heap.size]?=some (.cells #[.string (itx n),.string (dec d)] 101 (0,0))):=heap_alloc_new w _;have aG:=hd_ (fun W=>Zd2 W n)
 by_cases h1:(dec n.natAbs).size<=30
 ·have FV:((dec n.natAbs).size:Int)<=30:=by omega
  by_cases h2:(dec d).size<=30
  ·have Ei:((dec d).size:Int)<=30:=by omega
   rw[decide_eq_true (show _/\_ from ⟨h1,h2⟩)];clear h1 h2;go_enter Tryz.func161,Tryz.ntmps161;obtain⟨k0,k1,-,-⟩:=Ka gi.o;go_wp2_with fail;generalize w.alloc (.cells #[.string (itx n),.string (dec d)] 101)=W0 at *;clear k0 k1;refine cm_ (aG.o _) ?_;rintro e w1 ⟨rfl,HU⟩;have H6:=hd_ HU;clear HU aG;have gY:=bt_ gC H6.o;obtain⟨k0,k1,-,-⟩:=Ka (Kh gi.o H6.o);go_wp2;go_ret;exact⟨rfl,gY.o⟩
  ·have Ei:¬ ((dec d).size:Int)<=30:=by omega
   have Nz:=hd_ (decide_eq_false Ei);rw[decide_eq_false (fun h:_/\_=>h2 h.2)];clear h1 h2;go_enter Tryz.func161,Tryz.ntmps161;obtain⟨k0,k1,-,-⟩:=Ka gi.o;go_wp2_with fail;generalize w.alloc (.cells #[.string (itx n),.string (dec d)] 101)=W0 at *;clear k0 k1;refine cm_ (aG.o _) ?_;rintro e w1 ⟨rfl,HU⟩;have H6:=hd_ HU;clear HU aG;have gY:=bt_ gC H6.o;obtain⟨k0,k1,-,-⟩:=Ka (Kh gi.o H6.o);go_wp2;go_ret;exact⟨by rw[Nz.o];rfl,gY.o⟩
 ·have FV:¬ ((dec n.natAbs).size:Int)<=30:=by omega
  rw[decide_eq_false (fun h:_/\_=>h1 h.1)];clear h1;go_enter Tryz.func161,Tryz.ntmps161;obtain⟨k0,k1,-,-⟩:=Ka gi.o;go_wp2_with fail;generalize w.alloc (.cells #[.string (itx n),.string (dec d)] 101)=W0 at *;clear k0 k1;refine cm_ (aG.o _) ?_;rintro e w1 ⟨rfl,HU⟩;have H6:=hd_ HU;clear HU aG;have gY:=bt_ gC H6.o;obtain⟨k0,k1,-,-⟩:=Ka (Kh gi.o H6.o);go_wp2;go_ret;exact⟨rfl,gY.o⟩
def IsP (n:Nat):Prop:=2<=n/\n<=97/\∀ j,j<10->2<=j->j*j<=n->n%j≠0
instance (n:Nat):Decidable (IsP n):=by unfold IsP;infer_instance
theorem Zpg(w:World)(n:Nat)(hn:n<=9223372036854775807):
  Kc Tryz.prog 160 #[.int .i64 n] w (.bool (decide (IsP n))):=by
 unfold Kc
 by_cases h2:2<=n
 ·by_cases Is:n<=97
  ·have Ei:¬ (n:Int)<2:=by omega
   have j6:¬ (97:Int)<n:=by omega
   have H2:=hd_ h2;go_enter Tryz.func160,Tryz.ntmps160;go_wp2_with fail
   go_loopw [3] (fun i wr=>∃ k:Nat,2<=k/\k<=10/\i = .int .i64 k/\Hid (∀ j,2<=j->j<k->j*j<=n->n%j≠0)/\Hid (Bw_ w wr)) (fun i _=>10-(intOf i).toNat)
   case atStart=>exact⟨2,by omega,by omega,rfl,fun j h1 h2=>by omega,Below.refl _ _⟩
   case round =>
    obtain⟨k,hk,fQ,rfl,Hj,Hb⟩:=hrel;have Cd:k*k<=100:=Nat.mul_le_mul fQ fQ;have FM:IntKind.i64.wrap ((k:Int)*(k:Int))=((k*k:Nat):Int):=by rw[<- Int.natCast_mul];exact iw_ _ (by omega)
    by_cases fO:k*k<=n
    ·have DF:((k*k:Nat):Int)<=n:=by omega
     have a8:k<10:=by
      rcases Nat.lt_or_ge k 10 with h|h
      ·exact h
      ·have:k=10:=by omega
       subst this;omega
     have ou:((k:Int)==0)=false:=by rw[beq_eq_false_iff_ne];omega
     have et:Int.tmod (n:Int) (k:Int)=((n%k:Nat):Int):=by rw[<- Int.ofNat_tmod]
     have ED:=Nat.mod_lt n (show 0<k by omega);have dS:=hd_ fO
     by_cases hz:n%k=0
     ·have Hv:Hid (decide (IsP n)=false):=by
       show _=_
       rw[decide_eq_false_iff_not];exact fun h=>h.2.2 k a8 hk fO hz
      rw[hz] at et;rw[show ((0:Nat):Int)=0 from rfl] at et;have EM:IntKind.i64.wrap 0=0:=iw_ _ (by omega);clear hz fO ED Cd;generalize k*k=q at *;go_wp2;go_ret;exact⟨by rw[Hv.o];rfl,Hb.o⟩
     ·have GY:Hid (∀ j,2<=j->j<k+1->j*j<=n->n%j≠0):=fun j h1 h2 h3=>by
       rcases Nat.lt_or_ge j k with h|h
       ·exact Hj.o j h1 h h3
       ·have:j=k:=by omega
        subst this;exact hz
      have fH:IntKind.i64.wrap ((n%k:Nat):Int)=((n%k:Nat):Int):=iw_ _ (by omega);have gm:(((n%k:Nat):Int)==0)=false:=by rw[beq_eq_false_iff_ne];omega
      clear hz fO Cd;generalize n%k=r at *;generalize k*k=q at *;go_wp2
      go_roundw
      case rel=>exact⟨k+1,by omega,by omega,by go_num,GY,Hb⟩
      case measure=>simp[intOf];omega
    ·have DF:¬ ((k*k:Nat):Int)<=n:=by omega
     have Hv:Hid (decide (IsP n)=true):=by
      show _=_
      rw[decide_eq_true_eq];refine⟨H2.o,Is,fun j h2 h1 h3=>?_⟩;rcases Nat.lt_or_ge j k with h|h
      ·exact Hj.o j h1 h h3
      ·have:=Nat.mul_le_mul h h;omega
     clear fO Cd;generalize k*k=q at *;go_wp2;go_ret;exact⟨by rw[Hv.o];rfl,Hb.o⟩
  ·have Hv:Hid (decide (IsP n)=false):=by
    show _=_
    rw[decide_eq_false_iff_not];exact fun h=>Is h.2.1
   have j6:(97:Int)<n:=by omega
   have Ei:¬ (n:Int)<2:=by omega
   go_enter Tryz.func160,Tryz.ntmps160;go_wp2;go_ret;exact⟨by rw[Hv.o];rfl,Below.refl _ _⟩
 ·have Hv:Hid (decide (IsP n)=false):=by
   show _=_
   rw[decide_eq_false_iff_not];exact fun h=>h2 h.1
  have Ei:(n:Int)<2:=by omega
  go_enter Tryz.func160,Tryz.ntmps160;go_wp2;go_ret;exact⟨by rw[Hv.o];rfl,Below.refl _ _⟩
def Rd (w:World) (a:OA_) (vs:List Value):Prop :=
 vs=[]\/∃ b off,a=some ⟨b,off,none⟩/\b<w.heap.size/\∀ i v,vs[i]?=some v->w.cell? ⟨b,off+i,none⟩=some v
theorem Rd.below{w w':World}{a:OA_}{vs:List Value}{B:Nat}(h:Rd w a vs)(hb:Below B w w')(hB:w.heap.size<=B):Rd w' a vs:=by
 rcases h with h|⟨b,off,h1,h2,h3⟩
 ·exact .inl h
 ·exact .inr ⟨b,off,h1,Nat.lt_of_lt_of_le h2 hb.size,fun i v hi=>by rw[hb.cell (p:=⟨b,off+i,none⟩) (by show b<B;omega)];exact h3 i v hi⟩
theorem Rd.kept{w w':World}{a:OA_}{vs:List Value}(h:Rd w a vs)(hb:Bw_ w w'):Rd w' a vs:=h.below hb nr_
theorem Rd.open{w:World}{a:OA_}{vs:List Value}(h:Rd w a vs)(h0:0<vs.length):
  ∃ b off,a=some ⟨b,off,none⟩/\b<w.heap.size/\∀ i v,vs[i]?=some v->w.cell? ⟨b,off+i,none⟩=some v:=by
 rcases h with h|h
 ·subst h;simp at h0
 ·exact h
theorem Rd.nil(w:World)(a:OA_):Rd w a [] := .inl rfl
def Zuh (n:Int):Prop:=0<=n/\IsP n.toNat
instance (n:Int):Decidable (Zuh n):=by unfold Zuh;infer_instance
theorem Zfv(w:World)(n:Int)(h0 : -9223372036854775808<=n)(h1:n<=9223372036854775807):
  Kc Tryz.prog 160 #[.int .i64 n] w (.bool (decide (Zuh n))):=by
 by_cases hn:0<=n
 ·obtain⟨m,rfl⟩:=Int.eq_ofNat_of_zero_le hn;have:=Zpg w m (by omega)
  have e:decide (Zuh (m:Int))=decide (IsP m):=by
   rw[decide_eq_decide];unfold Zuh;simp
  rw[e];exact this
 ·have e:decide (Zuh n)=false:=decide_eq_false (fun h=>hn h.1);rw[e];have Ei:n<2:=by omega
  unfold Kc;go_enter Tryz.func160,Tryz.ntmps160;go_wp2;go_ret;exact⟨rfl,Below.refl _ _⟩
def pgo:Option Int->List Int->Int
 | _,[]=>0
 | prev,n::l=>if ¬ Zuh n then 25 else if prev.any (fun m=>decide (n<=m))=true then 6 else pgo (some n) l
def Zqz (ps:List Int):Nat->Option Int
 | 0=>none
 | m+1=>ps[m]?
def Vd (ps:List Int):Int:=if ps.length=0 then 13 else if 6<ps.length then 4 else pgo none ps
def Zgm (l:List Int):Prop:=∀ x∈l,-9223372036854775808<=x/\x<=9223372036854775807
theorem Zgm.get{l:List Int}(h:Zgm l)(k:Nat)(hk:k<l.length): -9223372036854775808<=l[k]/\l[k]<=9223372036854775807:=h _ (List.getElem_mem hk)
theorem Zbt(w:World)(a:OA_)(c:Nat)(ps:List Int)(hr:Rd w a (Qw ps))(hi:Zgm ps)(hl:ps.length<=1000000):
  Kc Tryz.prog 76 #[.slice a ps.length c] w (.int .i64 (Vd ps)):=by
 unfold Kc;have Hr:=hd_ hr;have Hi:=hd_ hi;have Hp:=hd_ (fun W (z:Int) q1 q2=>Zfv W z q1 q2);clear hr hi
 by_cases h0:ps.length=0
 ·have hv:Vd ps=13:=by unfold Vd;rw[if_pos h0]
  rw[hv,h0];go_enter Tryz.func76,Tryz.ntmps76;go_wp2;go_ret;exact⟨rfl,Below.refl _ _⟩
 by_cases h6:6<ps.length
 ·have hv:Vd ps=4:=by unfold Vd;rw[if_neg h0,if_pos h6]
  rw[hv];have j7:((ps.length:Int)==0)=false:=by rw[beq_eq_false_iff_ne];omega
  have nE:(6:Int)<ps.length:=by omega
  clear hv;generalize ps.length=n at *;go_enter Tryz.func76,Tryz.ntmps76;go_wp2;go_ret;exact⟨rfl,Below.refl _ _⟩
 have Hv:Hid (Vd ps=pgo none ps):=by
  show _=_
  unfold Vd;rw[if_neg h0,if_neg h6]
 have j7:((ps.length:Int)==0)=false:=by rw[beq_eq_false_iff_ne];omega
 have nE:¬ (6:Int)<ps.length:=by omega
 obtain⟨b,off,rfl,hb,hcells⟩:=Hr.o.open (by rw[Qn];omega);have Gt:Hid (∀ k,k<ps.length->w.cell? ⟨b,off+k,none⟩=some (.int .i64 (ps.getD k 0))):=fun k hk=>by
  rw[List.getD_eq_getElem?_getD,List.getElem?_eq_getElem hk];exact hcells k _ (Zaf ps k hk)
 clear hcells Hr;generalize hn:ps.length=n at *;have Hn:=hd_ hn;clear hn;go_enter Tryz.func76,Tryz.ntmps76;go_wp2_with fail
 go_loopw [15] (fun i wr=>∃ k:Nat,k<=n/\i = .int .i64 k/\Hid (pgo none ps=pgo (Zqz ps k) (ps.drop k))/\Hid (Bw_ w wr)) (fun i _=>n-(intOf i).toNat)
 case atStart=>exact⟨0,Nat.zero_le _,rfl,rfl,Below.refl _ _⟩
 case round =>
  obtain⟨k,hk,rfl,Hg,Hb⟩:=hrel
  by_cases gd:k<n
  ·have gu:(k:Int)<n:=by omega
   have Gl:k<ps.length:=by rw[Hn.o];exact gd
   have cx:wr.cell? ⟨b,off+k,none⟩=some (.int .i64 (ps.getD k 0)):=by
    rw[Hb.o.cell (p:=⟨b,off+k,none⟩) hb];exact Gt.o k gd
   have hd:ps.drop k=ps[k]::ps.drop (k+1):=List.drop_eq_getElem_cons Gl;have Hd:=hd_ hd;have lU:ps.getD k 0=ps[k]:=by rw[List.getD_eq_getElem?_getD,List.getElem?_eq_getElem Gl];rfl
   rw[lU] at cx;clear lU;have hz:=Hi.o.get k Gl;obtain⟨z,c8⟩:∃ z,ps[k]=z:=⟨_,rfl⟩;have AK:=hd_ c8;rw[c8] at cx hz;have dF:=Hp.o wr z hz.1 hz.2;clear hd c8
   by_cases hp:Zuh z
   ·rw[decide_eq_true hp] at dF
    by_cases EF:k=0
    ·subst EF;rw[Nat.add_zero] at cx;have EN:¬ (0:Int)<0:=by omega
     go_wp2_with fail;refine cm_ dF ?_;rintro e w1 ⟨rfl,HU⟩;have H6:=bt_ Hb HU;clear HU dF Hb;go_wp2
     go_roundw
     case rel =>
      refine⟨1,by omega,by go_num,?_,H6⟩
      show _=_
      rw[Hg.o,Hd.o];simp only[pgo,Zqz,AK.o];rw[if_neg (fun h=>h hp),if_neg (by simp)];have:ps[0]?=some z:=by rw[List.getElem?_eq_getElem Gl,AK.o]
      rw[this]
     case measure=>simp[intOf];omega
    ·obtain⟨m,rfl⟩:∃ m,k=m+1:=⟨k-1,by omega⟩;have EN:(0:Int)<((m+1:Nat):Int):=by omega
     have ED:m<ps.length:=by omega
     have fH:IntKind.i64.wrap (((m+1:Nat):Int)-1)=(m:Int):=by
      rw[show ((m+1:Nat):Int)-1=(m:Int) by omega];exact iw_ _ (by omega)
     obtain⟨y,aP⟩:∃ y,ps[m]=y:=⟨_,rfl⟩;have IA:=hd_ aP;have Np:Hid (w.cell? ⟨b,off+m,none⟩=some (.int .i64 y)):=by
      show _=_
      rw[Gt.o m (by omega),<- aP,List.getD_eq_getElem?_getD,List.getElem?_eq_getElem ED];rfl
     have bw:Hid (pgo none ps=if z<=y then 6 else pgo (some z) (ps.drop (m+1+1))):=by
      show _=_
      rw[Hg.o,Hd.o];have:ps[m]?=some y:=by rw[List.getElem?_eq_getElem ED,aP]
      simp only[pgo,Zqz,AK.o,this,Option.any_some,decide_eq_true_eq];rw[if_neg (fun h=>h hp)]
     have di:0<=(m:Int):=by omega
     have oh:(m:Int)<n:=by omega
     clear aP Hg;go_wp2_with fail;refine cm_ dF ?_;rintro e w1 ⟨rfl,HU⟩;have H6:=bt_ Hb HU;clear HU dF Hb cx;have cy:w1.cell? ⟨b,off+m,none⟩=some (.int .i64 y):=by
      rw[H6.o.cell (p:=⟨b,off+m,none⟩) hb];exact Np.o
     by_cases hzy:z<=y
     ·have Fe:Hid (Vd ps=6):=by
       show _=_
       rw[Hv.o,bw.o,if_pos hzy]
      go_wp2;go_ret;exact⟨by rw[Fe.o];rfl,H6.o⟩
     ·have dT:Hid (pgo none ps=pgo (some z) (ps.drop (m+1+1))):=by
       show _=_
       rw[bw.o,if_neg hzy]
      clear bw;go_wp2
      go_roundw
      case rel =>
       refine⟨m+1+1,by omega,by go_num,?_,H6⟩
       show _=_
       rw[dT.o];have:ps[m+1]?=some z:=by rw[List.getElem?_eq_getElem Gl,AK.o]
       simp only[Zqz,this]
      case measure=>simp[intOf];omega
   ·rw[decide_eq_false hp] at dF;have Fe:Hid (Vd ps=25):=by
     show _=_
     rw[Hv.o,Hg.o,Hd.o];simp only[pgo,AK.o];rw[if_pos hp]
    go_wp2_with fail;refine cm_ dF ?_;rintro e w1 ⟨rfl,HU⟩;have H6:=bt_ Hb HU;clear HU dF Hb;go_wp2;go_ret;exact⟨by rw[Fe.o];rfl,H6.o⟩
  ·have gu:¬ (k:Int)<n:=by omega
   have Fe:Hid (Vd ps=0):=by
    show _=_
    rw[Hv.o,Hg.o,List.drop_of_length_le (by rw[Hn.o];omega)];rfl
   go_wp2;go_ret;exact⟨by rw[Fe.o];rfl,Hb.o⟩
end Go.Proofs.YtbielfplgbammaaGreatDoor

namespace Go.Proofs.YtbielfplgbammaaGreatDoor
open Go.ChangeShapes Go.WideShapes Go.ChangeAt Go.RowKit
theorem Zpb:laidOutB Tryz.prog=true:=by kernel_rfl
theorem own:ownKnob Tryz.prog.godebug=none:=by kernel_rfl
def Zwc {H : Type} : List (String × DataW H) := [("math/bits.deBruijn32tab", Rows.laid_math_bits_deBruijn32tab), ("math/bits.deBruijn64tab", Rows.laid_math_bits_deBruijn64tab), ("internal/strconv.uint64pow10", Rows.laid_internal_strconv_uint64pow10), ("strconv.ErrRange", Rows.laid_strconv_ErrRange), ("strconv.ErrSyntax", Rows.laid_strconv_ErrSyntax)]
theorem gER : Tryz.prog.globalNamed "strconv.ErrRange" = some 1 := by kernel_rfl
theorem gES : Tryz.prog.globalNamed "strconv.ErrSyntax" = some 0 := by kernel_rfl
theorem tER:(Tryz.prog.globals[1]?).map (·.type)=some 174:=by kernel_rfl
theorem tES:(Tryz.prog.globals[0]?).map (·.type)=some 174:=by kernel_rfl
theorem Qgr:(Tryz.prog.globals[2]?).map (·.type)=some 364:=by kernel_rfl
theorem Zsc:Tryz.prog.cellsOf 371=1:=by kernel_rfl
theorem Zsb:Tryz.prog.cellsOf 9=1:=by kernel_rfl
theorem Zz0:Tryz.prog.cellsOf 204=1:=by kernel_rfl
theorem Zz1:Tryz.prog.cellsOf 364=20:=by kernel_rfl
theorem Qdr : "*" ++ "errors.errorString" = "*errors.errorString" := by decide
theorem Qgf (u : TypeId) (h : Tryz.prog.typeName? 3 u = some "*errors.errorString") : u = 369 :=
 typeName_ptr_named (nm := "errors.errorString") (by rw [Qdr]; kernel_rfl) (by kernel_rfl) (by decide) u (by rw [Qdr]; exact h)
theorem Zzp(os:Os)(args:Array Value):laidMetH Tryz.prog Zwc ((World.doorLaid Tryz.prog 400 os).forCall (fun _ _=>0) ⟨#[],args,[]⟩).memory :=
 laidMetH_of_parts3 (fuel:=8) (laidMet_of_run' 8 (by kernel_rfl) (by kernel_rfl)) (by kernel_rfl) (by kernel_rfl)
theorem Qce{W:World}(h:laidMetH Tryz.prog Zwc W):Qg W:=by
 rw[MakeChecks.laidMetH_plain _ _ _ (by kernel_rfl)] at h;have h3:=laidMet.tail (laidMet.tail h);have h4:=laidMet.tail h3;have h5:=laidMet.tail h4;obtain⟨a0,s0,Ib,-,-,-⟩:=laid_sentinel h4 gER tER Tryz.underlying174 Qgf Tryz.underlying369 Tryz.underlying371 rfl rfl Tryz.underlying9 Zsc Zsb;obtain⟨a1,s1,hv1,-,-,-⟩:=laid_sentinel h5 gES tES Tryz.underlying174 Qgf Tryz.underlying369 Tryz.underlying371 rfl rfl Tryz.underlying9 Zsc Zsb;have k0:W.cell? ⟨1,0,none⟩=some (.iface 369 (.pointer (some a0))):=by
  have h0:=World.var?_cell gER Ib 0
  simpa using h0
 have k1:W.cell? ⟨0,0,none⟩=some (.iface 369 (.pointer (some a1))):=by
  have h0:=World.var?_cell gES hv1 0
  simpa using h0
 exact⟨Lib.tabIs_of_head (k := .u64) (zs:=Lib.pow10Tab) Ze8 Qgr Tryz.underlying364 Tryz.underlying204 Zz0 Zz1 h3,⟨_,k0,.inr ⟨_,_,rfl⟩⟩,⟨_,k1,.inr ⟨_,_,rfl⟩⟩⟩
end Go.Proofs.YtbielfplgbammaaGreatDoor

namespace Go.Proofs.YtbielfplgbammaaGreatDoor
open Go.RowKit
theorem Zm1(n:Int)(d:Nat)(h:d≠0):(mkRat n d).num=n/((Nat.gcd n.natAbs d:Nat):Int):=by
 rw[<- Rat.normalize_eq_mkRat h,Rat.num_normalize]
theorem Zm2(n:Int)(d:Nat)(h:d≠0):(mkRat n d).den=d/Nat.gcd n.natAbs d:=by
 rw[<- Rat.normalize_eq_mkRat h,Rat.den_normalize]
def Sm (D:Nat) (q:Rat):Prop:=q.num.natAbs<10^D/\q.den<10^D
theorem Sm.mk'{D:Nat}{n:Int}{d:Nat}(h:d≠0)(h1:n.natAbs<10^D)(h2:d<10^D):Sm D (mkRat n d):=by
 refine⟨?_,?_⟩
 ·rw[Zm1 n d h];have:(n/((Nat.gcd n.natAbs d:Nat):Int)).natAbs<=n.natAbs:=by
   have h3:((Nat.gcd n.natAbs d:Nat):Int) ∣ n:=Int.gcd_dvd_left n (d:Int);rw[Int.natAbs_ediv_of_dvd h3];exact Nat.div_le_self _ _
  omega
 ·rw[Zm2 n d h];exact Nat.lt_of_le_of_lt (Nat.div_le_self _ _) h2
theorem Sm.le{D E:Nat}{q:Rat}(h:Sm D q)(hE:D<=E):Sm E q :=
 ⟨Nat.lt_of_lt_of_le h.1 (Nat.pow_le_pow_right (by decide) hE),Nat.lt_of_lt_of_le h.2 (Nat.pow_le_pow_right (by decide) hE)⟩
theorem Qi{a b D E:Nat}(h1:a<10^D)(h2:b<10^E):a*b<10^(D+E):=by
 rw[Nat.pow_add];exact Nat.mul_lt_mul'' h1 h2
theorem Sm.mul{D E:Nat}{a b:Rat}(ha:Sm D a)(hb:Sm E b):Sm (D+E) (a*b):=by
 rw[Rat.mul_def'];refine Sm.mk' (Nat.mul_ne_zero a.den_nz b.den_nz) ?_ (Qi ha.2 hb.2);rw[Int.natAbs_mul];exact Qi ha.1 hb.1
theorem Qag{n m:Int}{d e D E:Nat}(h1:n.natAbs<10^D)(h2:m.natAbs<10^E)(h3:d<10^D)(h4:e<10^E):(n*e).natAbs+(m*d).natAbs+1<10^(D+E+1):=by
 have e1:=Qi h1 h4;have e2:=Qi h2 h3;rw[Nat.add_comm E D] at e2;rw[Int.natAbs_mul,Int.natAbs_mul,Int.natAbs_natCast,Int.natAbs_natCast,Nat.pow_succ];have:=Nat.pow_pos (n:=D+E) (show 0<10 by decide)
 omega
theorem Sm.add{D E:Nat}{a b:Rat}(ha:Sm D a)(hb:Sm E b):Sm (D+E+1) (a+b):=by
 rw[Rat.add_def'];have e1:=Qag ha.1 hb.1 ha.2 hb.2;have e2:=Qi ha.2 hb.2;have e3:=Int.natAbs_add_le (a.num*b.den) (b.num*a.den);have e4:10^(D+E)<=10^(D+E+1):=Nat.pow_le_pow_right (by decide) (by omega);exact Sm.mk' (Nat.mul_ne_zero a.den_nz b.den_nz) (by omega) (by omega)
theorem Sm.pos{D:Nat}{q:Rat}(h:Sm D q):0<D:=by
 rcases Nat.eq_zero_or_pos D with h0|h0
 ·subst h0;have:=h.2
  have:=q.den_pos
  omega
 ·exact h0
theorem Ku{x D:Nat}(h:x<10^D)(hD:0<D)(h6:D<=1000000):Num x:=by
 unfold Num;rw[Qc];exact Nat.le_trans ((Ks x D hD).2 h) h6
theorem Yz(x D:Nat)(hD:0<D):(dec x).size<=D↔x<10^D:=by
 rw[Qc];exact Ks x D hD
def fr (q:Rat):Value:=fv q.num q.den
theorem Zdk(n:Int)(d:Nat)(h:d≠0):Zlz n d=fr (mkRat n d):=by
 unfold Zlz fr;rw[Zm1 n d h,Zm2 n d h]
theorem Zxy(w:World)(a b:Rat)(D E:Nat)(ha:Sm D a)(hb:Sm E b)(h6:D+E+2<=1000000)(L:Qg w):
  Kc Tryz.prog 207 #[fr a,fr b] w (fr (a+b)):=by
 have h1:=Qag ha.1 hb.1 ha.2 hb.2;have h2:=Qi ha.2 hb.2;have h3:10^(D+E)<10^(D+E+1):=Nat.pow_lt_pow_right (by decide) (by omega);have p1:=ha.pos;have p2:=hb.pos;have q1:10^D<=10^(D+E):=Nat.pow_le_pow_right (by decide) (by omega);have q2:10^E<=10^(D+E):=Nat.pow_le_pow_right (by decide) (by omega);have q3:10^(D+E+1)=10^(D+E)*10:=Nat.pow_succ ..;have:=ha.1
 have:=hb.1
 have h:=Zz6 w a.num b.num a.den b.den (Ku ha.1 p1 (by omega)) (Ku hb.1 p2 (by omega)) (Ku ha.2 p1 (by omega)) (Ku hb.2 p2 (by omega)) a.den_pos b.den_pos
  (Ku (D:=D+E+1) h1 (by omega) (by omega)) (Ku (D:=D+E+1) (by omega) (by omega) (by omega)) (Ku (D:=D+E+1) (by omega) (by omega) (by omega)) L
 rw[Zdk _ _ (Nat.mul_ne_zero a.den_nz b.den_nz),<- Rat.add_def'] at h;exact h
theorem Qdb(w:World)(a b:Rat)(D E:Nat)(ha:Sm D a)(hb:Sm E b)(h6:D+E+2<=1000000)(L:Qg w):
  Kc Tryz.prog 206 #[fr a,fr b] w (fr (a*b)):=by
 have h1:=Qi ha.1 hb.1;have h2:=Qi ha.2 hb.2;have h3:10^(D+E)<10^(D+E+1):=Nat.pow_lt_pow_right (by decide) (by omega);have p1:=ha.pos;have p2:=hb.pos;rw[<- Int.natAbs_mul] at h1;have h:=Zyv w a.num b.num a.den b.den (Ku ha.1 p1 (by omega)) (Ku hb.1 p2 (by omega)) (Ku ha.2 p1 (by omega)) (Ku hb.2 p2 (by omega)) a.den_pos b.den_pos
  (Ku (D:=D+E+1) (by omega) (by omega) (by omega)) (Ku (D:=D+E+1) (by omega) (by omega) (by omega)) L
 rw[Zdk _ _ (Nat.mul_ne_zero a.den_nz b.den_nz),<- Rat.mul_def'] at h;exact h
theorem Zsy(w:World)(a:Rat):Kc Tryz.prog 121 #[fr a] w (.int .i64 a.num.sign):=Zmg w a.num a.den
theorem Qa3(w:World)(a:Rat)(D:Nat)(ha:Sm D a)(h6:D+1<=1000000)(L:Qg w):Kc Tryz.prog 239 #[fr a] w (.string (itx a.floor)):=by
 have p:=ha.pos;have h3:10^D<10^(D+1):=Nat.pow_lt_pow_right (by decide) (by omega);have:=ha.1
 have h:=Ztx w a.num a.den (Ku ha.1 p (by omega)) (Ku ha.2 p (by omega)) a.den_pos (Ku (D:=D+1) (by omega) (by omega) (by omega)) L;rw[<- Rat.floor_def] at h;exact h
theorem Zov(w:World)(z:Int)(q1 : -9223372036854775808<=z)(q2:z<=9223372036854775807)(L:Qg w):
  Kc Tryz.prog 58 #[.int .i64 z] w (fr (z:Rat)):=Zb2 w z q1 q2 L
def Yd (q:Rat):Prop:=q.num.natAbs<10^30/\q.den<10^30
instance (q:Rat):Decidable (Yd q):=by unfold Yd;infer_instance
theorem Zu2(w:World)(a:Rat):Kc Tryz.prog 161 #[fr a] w (.bool (decide (Yd a))):=by
 have h:=Zu1 w a.num a.den;have e:decide ((dec a.num.natAbs).size<=30/\(dec a.den).size<=30)=decide (Yd a):=by
  rw[decide_eq_decide];unfold Yd;rw[Yz _ _ (by decide),Yz _ _ (by decide)]
 rw[e] at h;exact h
def IsQ (s t:ByteArray):Prop:=∃ q:Rat,s=itx q.num/\t=dec q.den/\Sm 400 q
theorem Zsa(w:World)(q:Rat)(hq:Sm 400 q)(L:Qg w):Kc Tryz.prog 139 #[fr q] w (.int .i64 0):=by
 have p:=hq.pos;have h:=Zjv w q.num q.den (Ku hq.1 p (by decide)) (Ku hq.2 p (by decide)) q.den_pos L;rw[if_pos ⟨⟨(Yz _ _ (by decide)).2 hq.1,(Yz _ _ (by decide)).2 hq.2⟩,q.reduced⟩] at h;exact h
def Qp (l:List (ByteArray×ByteArray)):List Value:=l.flatMap fun x=>[.string x.1,.string x.2]
theorem Vf(l:List (ByteArray×ByteArray)):(Qp l).length=l.length*2:=by
 induction l with
 | nil=>rfl
 | cons x l ih=>simp only[Qp,List.flatMap_cons,List.length_append,List.length_cons,List.length_nil] at ih ⊢;omega
theorem Zac(x:ByteArray×ByteArray)(l):Qp (x::l) = .string x.1 :: .string x.2::Qp l:=rfl
theorem Zlr(l m:List (ByteArray×ByteArray)):Qp (l++m)=Qp l++Qp m:=by simp[Qp]
theorem Zb7:∀ (l:List (ByteArray×ByteArray)) (k:Nat) (h:k<l.length),(Qp l)[k*2]?=some (.string l[k].1)/\(Qp l)[k*2+1]?=some (.string l[k].2)
 | [],k,h=>by simp at h
 | x::l,0,h=>by rw[Zac];exact⟨rfl,rfl⟩
 | x::l,k+1,h=>by
  rw[Zac,show (k+1)*2=k*2+1+1 by omega,show k*2+1+1+1=(k*2+1)+1+1 by omega];simp only[List.getElem?_cons_succ,List.getElem_cons_succ];exact Zb7 l k (by simpa using h)
theorem Zjy:∀ (l:List (ByteArray×ByteArray)) (k:Nat) (s t:ByteArray),k<l.length->((Qp l).set (k*2) (.string s)).set (k*2+1) (.string t)=Qp (l.set k (s,t))
 | [],k,s,t,h=>by simp at h
 | x::l,0,s,t,h=>by rw[List.set_cons_zero,Zac,Zac];rfl
 | x::l,k+1,s,t,h=>by
  rw[List.set_cons_succ,Zac,Zac,show (k+1)*2=k*2+1+1 by omega,show k*2+1+1+1=(k*2+1)+1+1 by omega];simp only[List.set_cons_succ];rw[Zjy l k s t (by simpa using h)]
theorem Zt6(l:List (ByteArray×ByteArray)):∀ u∈Qp l,u.oneCell'=true:=fun u hu=>by
 obtain⟨x,_,hx⟩:=List.mem_flatMap.1 hu;simp only[List.mem_cons,List.not_mem_nil,or_false] at hx;rcases hx with rfl|rfl<;>rfl
def qs (q:Rat):ByteArray×ByteArray:=(itx q.num,dec q.den)
def Km (l:List Rat):List Value:=Qp (l.map qs)
theorem Kw(l:List Rat):(Km l).length=l.length*2:=by unfold Km;rw[Vf,List.length_map]
def Zlx (w:World) (B:Nat) (a:OA_) (c:Nat) (l:List (ByteArray×ByteArray)):Prop:=w.ownsRow B 101 2 (.slice a l.length c) l.length (Qp l)
theorem Zlx.open{w:World}{B c:Nat}{a:OA_}{l:List (ByteArray×ByteArray)}(h:Zlx w B a c l)(hn:0<l.length):
  ∃ g,a=some ⟨g,0,none⟩/\B<=g/\g<w.heap.size/\l.length<=c/\(∀ j (hj:j<l.length),w.cell? ⟨g,j*2,none⟩=some (.string l[j].1)/\w.cell? ⟨g,j*2+1,none⟩=some (.string l[j].2))/\(∀ j,w.frozen? ⟨g,j,none⟩=false):=by
 obtain⟨g,cap,hv,h1,h2,h3,h4,h5⟩:=Ye h hn;simp only[Value.slice.injEq] at hv;obtain⟨rfl,-,rfl⟩:=hv;exact⟨g,rfl,h1,h2,h3,fun j hj=>⟨by rw[h4 (j*2) (by omega),(Zb7 l j hj).1],by rw[h4 (j*2+1) (by omega),(Zb7 l j hj).2]⟩,h5⟩
theorem Zlx.rd{w:World}{B c:Nat}{a:OA_}{l:List (ByteArray×ByteArray)}(h:Zlx w B a c l):Rd w a (Qp l):=by
 by_cases hn:0<l.length
 ·obtain⟨g,cap,hv,h1,h2,h3,h4,h5⟩:=Ye h hn;simp only[Value.slice.injEq] at hv;obtain⟨rfl,-,rfl⟩:=hv;refine .inr ⟨g,0,rfl,h2,fun i v hi=>?_⟩;rw[Nat.zero_add,h4 i (by have:=(List.getElem?_eq_some_iff.1 hi).1;rw[Vf] at this;exact this)];exact hi
 ·rw[List.eq_nil_of_length_eq_zero (show l.length=0 by omega)];exact .inl rfl
theorem Zlx.below{w w':World}{B c:Nat}{a:OA_}{l:List (ByteArray×ByteArray)}(h:Zlx w B a c l){D:Nat}(hb:Below D w w')(hD:w.heap.size<=D):Zlx w' B a c l:=Yg h hb hD
theorem Zlx.store{w:World}{B c g:Nat}{l:List (ByteArray×ByteArray)}(h:Zlx w B (some ⟨g,0,none⟩) c l)(j:Nat)(hj:j<l.length)(s t:ByteArray):
  Zlx ((w.setCell ⟨g,j*2,none⟩ (.string s)).setCell ⟨g,j*2+1,none⟩ (.string t)) B (some ⟨g,0,none⟩) c (l.set j (s,t)):=by
 have h1:=(World.ownsRow.stored h (j*2) (.string s)).1;have h2:=(World.ownsRow.stored h1 (j*2+1) (.string t)).1;rw[Zjy l j s t hj] at h2;unfold Zlx;rw[List.length_set];exact h2
theorem Qel:(Tryz.prog.info? 101).map (fun i=>(i.zero,i.size,i.bytes))=some (some (.agg #[.string ⟨#[]⟩,.string ⟨#[]⟩]),2,32):=by kernel_rfl
theorem elQ:Zba Tryz.prog 35 101 (.agg #[.string ⟨#[]⟩,.string ⟨#[]⟩]) 2 32:=⟨Tryz.underlying35,info_parts Qel,rfl,by decide⟩
def Yn (n:Nat):List (ByteArray×ByteArray):=List.replicate n (⟨#[]⟩,⟨#[]⟩)
theorem Zpp(n j:Nat)(h:j<(Qp (Yn n)).length):(Qp (Yn n))[j] = .string ⟨#[]⟩:=by
 have hm:=List.getElem_mem h;obtain⟨x,E',fh⟩:=List.mem_flatMap.1 hm;obtain rfl:=List.eq_of_mem_replicate E'
 simpa using fh
theorem Zte(n:Nat):madeCells #[.string ⟨#[]⟩,.string ⟨#[]⟩] (n*2)=(Qp (Yn n)).toArray:=by
 apply Array.ext
 ·rw[size_madeCells,List.size_toArray,Vf];simp[Yn]
 ·intro i h1 h2;rw[List.size_toArray] at h2;have e:(Qp (Yn n)).toArray[i] = .string ⟨#[]⟩:=by rw[List.getElem_toArray];exact Zpp n i h2
  rw[e];simp only[madeCells,Array.getElem_map,Array.getElem_range];rcases(show i%2=0\/i%2=1 by omega) with h|h<;>simp[h]
theorem Qd4(n:Nat)(w:World)(hn:n<=100000000):
  (Instr.makeSlice 35 (.int .i64 (n:Int)) (.int .i64 (n:Int))).run Tryz.prog w = .ok (.slice (some ⟨w.heap.size,0,none⟩) n n) (w.alloc (.cells (Qp (Yn n)).toArray 101)):=by
 obtain⟨i,hi,hz,hs,hb⟩:=info_parts Qel;have:=run_make (P:=Tryz.prog) w 35 101 i _ Tryz.underlying35 hi hz .i64 .i64 n n (by omega) (by omega) (by rw[hb];omega) (by omega)
 simp only[Int.toNat_natCast,hs] at this;rw[show (Value.agg #[.string ⟨#[]⟩,.string ⟨#[]⟩]).cells = #[.string ⟨#[]⟩,.string ⟨#[]⟩] from rfl,Zte] at this;exact this
theorem Zmu(w:World)(l:List (ByteArray×ByteArray))(hl:l.length<=100000000):Zlx (w.alloc (.cells (Qp l).toArray 101)) w.heap.size (some ⟨w.heap.size,0,none⟩) l.length l :=
 ⟨Vf l,.inr ⟨w.heap.size,l.length,(Qp l).toArray,rfl,Nat.le_refl _,heap_alloc_new _ _,Nat.le_refl _,by unfold maxLen;omega,by simp[Vf],List.take_of_length_le (by simp[Vf])⟩⟩
def Zbr (n k:Nat):List (ByteArray×ByteArray):=List.replicate k (qs 0)++Yn (n-k)
theorem Zad(n k:Nat)(h:k<=n):(Zbr n k).length=n:=by simp[Zbr,Yn];omega
theorem Zn1(n k:Nat)(h:k<n):(Zbr n k).set k (qs 0)=Zbr n (k+1):=by
 unfold Zbr Yn;rw[List.set_append_right _ _ (by simp),List.length_replicate,Nat.sub_self];obtain⟨m,hm⟩:∃ m,n-k=m+1:=⟨n-k-1,by omega⟩;rw[hm,show n-(k+1)=m by omega,List.replicate_succ,List.set_cons_zero];rw[List.replicate_succ',List.append_assoc];rfl
def Zbc (w:World) (B:Nat) (a:OA_) (c:Nat) (l:List Rat):Prop:=Zlx w B a c (l.map qs)
theorem Zbc.rd{w:World}{B c:Nat}{a:OA_}{l:List Rat}(h:Zbc w B a c l):Rd w a (Km l):=Zlx.rd h
theorem Zbc.below{w w':World}{B c:Nat}{a:OA_}{l:List Rat}(h:Zbc w B a c l){D:Nat}(hb:Below D w w')(hD:w.heap.size<=D):Zbc w' B a c l:=Zlx.below h hb hD
theorem Zbc.open{w:World}{B c:Nat}{a:OA_}{l:List Rat}(h:Zbc w B a c l)(hn:0<l.length):
  ∃ g,a=some ⟨g,0,none⟩/\B<=g/\g<w.heap.size/\l.length<=c/\(∀ j (hj:j<l.length),w.cell? ⟨g,j*2,none⟩=some (.string (itx l[j].num))/\w.cell? ⟨g,j*2+1,none⟩=some (.string (dec l[j].den)))/\(∀ j,w.frozen? ⟨g,j,none⟩=false):=by
 obtain⟨g,h1,h2,h3,h4,h5,h6⟩:=Zlx.open h (by simpa using hn);refine⟨g,h1,h2,h3,by simpa using h4,fun j hj=>?_,h6⟩;have:=h5 j (by simpa using hj)
 simpa [qs] using this
theorem Zbc.store{w:World}{B c g:Nat}{l:List Rat}(h:Zbc w B (some ⟨g,0,none⟩) c l)(j:Nat)(hj:j<l.length)(q:Rat):
  Zbc ((w.setCell ⟨g,j*2,none⟩ (.string (itx q.num))).setCell ⟨g,j*2+1,none⟩ (.string (dec q.den))) B (some ⟨g,0,none⟩) c (l.set j q):=by
 have:=Zlx.store h j (by simpa using hj) (itx q.num) (dec q.den)
 unfold Zbc;rw[List.map_set];exact this
def Zdh (f:FuncId) (args:Array Value) (w:World) (l:List Rat):Prop :=
 Calls Tryz.prog f args w fun e w'=>∃ a c,e = .returned (.slice a l.length c)/\Zbc w' w.heap.size a c l/\Bw_ w w'
theorem Zqg(w:World)(n:Nat)(hn:n<=1000)(L:Qg w):Zdh 103 #[.int .i64 n] w (List.replicate n 0):=by
 unfold Zdh;have eA:=Qd4 n w (by omega);have HL:=hd_ L;have Ho:=hd_ (Zmu w (Yn n) (by simp[Yn];omega));have gC:=hd_ ((Below.refl w.heap.size w).alloc nr_ (.cells (Qp (Yn n)).toArray 101));have CH:Hid (∀ W,Bw_ w W->Kc Tryz.prog 58 #[.int .i64 0] W (.agg #[.string (itx 0),.string (dec 1)])):=fun W hW=>Zb2 W 0 (by decide) (by decide) (HL.o.below hW)
 have lC:IntKind.i64.wrap (n:Int)=n:=iw_ _ (by omega);clear L;go_enter Tryz.func103,Tryz.ntmps103;go_wp2_with fail
 go_loopw [9] (fun i wr=>∃ k:Nat,k<=n/\i = .int .i64 k/\Hid (Zlx wr w.heap.size (some ⟨w.heap.size,0,none⟩) n (Zbr n k))/\Hid (Bw_ w wr)) (fun i _=>n-(intOf i).toNat)
 case atStart =>
  refine⟨0,Nat.zero_le _,rfl,?_,gC⟩;have:=Ho.o
  rw[show (Yn n).length=n by simp[Yn]] at this
  show Zlx _ _ _ _ _
  rw[show Zbr n 0=Yn n by simp[Zbr]];exact this
 case round =>
  obtain⟨k,hk,rfl,gA,Hb⟩:=hrel
  by_cases gd:k<n
  ·have gu:(k:Int)<n:=by omega
   have aY:=CH.o wr Hb.o;go_wp2_with fail;refine cm_ aY ?_;rintro e w1 ⟨rfl,HU⟩;have fW:=gA.o.below HU nr_;have hb:=Hb.o.trans (HU.mono Hb.o.size);obtain⟨g,hg,hB,fB,-,hcells,ee⟩:=fW.open (by rw[Zad n k hk];omega);simp only[Option.some.injEq,Addr.mk.injEq,and_true] at hg;subst hg;have c0:=(hcells k (by rw[Zad n k hk];exact gd)).1;have c1:=(hcells k (by rw[Zad n k hk];exact gd)).2;have f0:=ee (k*2);have f1:=ee (k*2+1);have Ep:=hd_ fW;have H6:=hd_ hb;clear fW hb hcells HU aY gA Hb ee;go_wp2
   go_roundw
   case rel =>
    refine⟨k+1,by omega,by go_num,?_,?_⟩
    ·have:=Ep.o.store k (by rw[Zad n k hk];exact gd) (itx 0) (dec 1)
     rw[show ((itx 0,dec 1):ByteArray×ByteArray)=qs 0 from rfl,Zn1 n k gd] at this;exact this
    ·exact(H6.o.setCell (p:=⟨w.heap.size,k*2,none⟩) nr_ _).setCell (p:=⟨w.heap.size,k*2+1,none⟩) nr_ _
   case measure=>simp[intOf];omega
  ·have gu:¬ (k:Int)<n:=by omega
   have CW:k=n:=by omega
   subst CW;go_wp2;go_ret;refine⟨some ⟨w.heap.size,0,none⟩,k,by first | rfl | (rw[show (List.replicate k (0:Rat)).length=k from List.length_replicate];rfl),?_,Hb.o⟩;have:=gA.o
   unfold Zbc;rw[List.map_replicate];have e:Zbr k k=List.replicate k (qs 0):=by simp[Zbr,Yn]
   rw[e] at this;exact this
def Zdb (s:ByteArray):Bool:=decide (0<s.size/\(lb s).getD 0 0=45)
def Ze9 (s:ByteArray):ByteArray:=if Zdb s then s.extract 1 s.size else s
theorem Zvx(s:ByteArray):(Ze9 s).size<=s.size:=by
 unfold Ze9;split
 ·rw[ByteArray.size_extract];omega
 ·omega
theorem Zsu(w:World)(s:ByteArray)(hs:s.size<=10000000):
  Kc Tryz.prog 50 #[.string s] w (.tuple #[.bool (Zdb s),.string (Ze9 s)]):=by
 unfold Kc
 by_cases h0:0<s.size
 ·have EG:∀ W,(Instr.index 38 (.string s) (.int .i64 0)).run Tryz.prog W = .ok (.int .u8 ((lb s).getD 0 0).toNat) W:=fun W=>Zwi W s h0
  have ft:(0:Int)<s.size:=by omega
  have fE:(1:Int)<=s.size:=by omega
  by_cases hc:(lb s).getD 0 0=45
  ·have Hv:Hid (Zdb s=true):=by show _=_;unfold Zdb;rw[decide_eq_true_eq];exact⟨h0,hc⟩
   have Hm:Hid (Ze9 s=s.extract 1 s.size):=by show _=_;unfold Ze9;rw[if_pos Hv.o]
   rw[hc] at EG;rw[show (((45:UInt8).toNat:Nat):Int)=45 from rfl] at EG;rw[Hv.o,Hm.o];clear Hv Hm hc;go_enter Tryz.func50,Tryz.ntmps50;go_wp2_with fail
   go_quiet (fail)
   go_wp2
   go_ret2
   exact⟨by first | rfl | simp,by first | exact Below.refl _ _ | exact Qj _ _⟩
  ·have Hv:Hid (Zdb s=false):=by show _=_;unfold Zdb;rw[decide_eq_false_iff_not];exact fun h=>hc h.2
   have Hm:Hid (Ze9 s=s):=by show _=_;unfold Ze9;rw[if_neg (by rw[Hv.o];decide)]
   rw[Hv.o,Hm.o];have FO:((((lb s).getD 0 0).toNat:Int)==45)=false:=by
    rw[beq_eq_false_iff_ne];intro h;apply hc;apply UInt8.toNat_inj.1;have:(45:UInt8).toNat=45:=rfl
    omega
   clear Hv Hm hc;generalize (((lb s).getD 0 0).toNat:Int)=c at *;go_enter Tryz.func50,Tryz.ntmps50;go_wp2
   go_ret2
   exact⟨rfl,Below.refl _ _⟩
 ·have Hv:Hid (Zdb s=false):=by show _=_;unfold Zdb;rw[decide_eq_false_iff_not];exact fun h=>h0 h.1
  have Hm:Hid (Ze9 s=s):=by show _=_;unfold Ze9;rw[if_neg (by rw[Hv.o];decide)]
  rw[Hv.o,Hm.o];have ft:¬ (0:Int)<s.size:=by omega
  clear Hv Hm;go_enter Tryz.func50,Tryz.ntmps50;go_wp2
  go_ret2
  exact⟨rfl,Below.refl _ _⟩
def IsZ (s:ByteArray):Prop:=∃ z:Int,s=itx z/\(dec z.natAbs).size<=400
theorem Zel(z:Int):Zdb (itx z)=decide (z<0):=by
 unfold Zdb;rw[decide_eq_decide];rcases Int.eq_nat_or_neg z with⟨n,rfl|rfl⟩
 ·rw[Kg];have:=Za9 n
  constructor
  ·intro h;rw[h.2] at this;exact absurd this (by decide)
  ·omega
 ·rcases Nat.eq_zero_or_pos n with h | h
  ·subst h;have hd:=Za9 0
   show 0<(itx ((0:Nat):Int)).size/\(lb (itx ((0:Nat):Int))).getD 0 0=45↔_
   rw[Kg];constructor
   ·intro h;rw[h.2] at hd;exact absurd hd (by decide)
   ·intro h;exact absurd h (by decide)
  ·rw[Zg n h,Vv n h];constructor
   ·intro _;omega
   ·intro _;exact⟨by omega,rfl⟩
theorem Zk2(z:Int):Ze9 (itx z)=dec z.natAbs:=by
 unfold Ze9;rw[Zel]
 by_cases h:z<0
 ·rw[if_pos (decide_eq_true h)];obtain⟨n,rfl⟩:∃ n:Nat,z = -(n:Int):=⟨z.natAbs,by omega⟩;rw[Zk6 n (by omega)];congr 1;omega
 ·rw[if_neg (by rw[decide_eq_false h];decide)];obtain⟨n,rfl⟩:∃ n:Nat,z=(n:Int):=⟨z.natAbs,by omega⟩;rw[Kg];rfl
theorem Znt{s:ByteArray}(h:Zcv (lb s)):∃ n,s=dec n:=by
 refine⟨Qt (lb s),?_⟩;have:=congrArg bs (Znu h)
 rw[bs_lb] at this;exact this
theorem Zox{s:ByteArray}(h:Zdb s=true):lb s=45::lb (s.extract 1 s.size):=by
 unfold Zdb at h;rw[decide_eq_true_eq] at h;obtain⟨h0,h1⟩:=h;have hl:lb (s.extract 1 s.size)=(lb s).drop 1:=by
  unfold lb;rw[ByteArray.data_extract,Array.toList_extract]
  show (s.data.toList.drop 1).take (s.size-1)=s.data.toList.drop 1
  refine List.take_of_length_le ?_;rw[List.length_drop,Array.length_toList];exact Nat.le_refl _
 rw[hl];rw[<- Yi] at h0;generalize lb s=u at *;cases u with
 | nil=>exact absurd h0 (by decide)
 | cons c l =>
  rw[show (c::l).getD 0 0=c from rfl] at h1;rw[h1];rfl
theorem Qci(s:ByteArray):IsZ s↔¬ (Zdb s=true/\Ze9 s=⟨#[48]⟩)/\Zcv (lb (Ze9 s))/\(Ze9 s).size<=400:=by
 constructor
 ·rintro⟨z,rfl,hz⟩;rw[Zk2,Zel];refine⟨?_,Zns _,hz⟩;rintro⟨h1,h2⟩;rw[decide_eq_true_eq] at h1;have h3:((dec z.natAbs).toList==[48])=true:=by rw[h2,Vp];rfl
  rw[Zd,decide_eq_true_eq] at h3;omega
 ·rintro⟨h1,h2,h3⟩;obtain⟨n,hn⟩:=Znt h2
  by_cases G4:Zdb s=true
  ·have e9:1<=n:=by
    rcases Nat.eq_zero_or_pos n with h|h
    ·subst h;exact absurd ⟨G4,hn.trans Zdm⟩ h1
    ·exact h
   refine⟨-(n:Int),?_,?_⟩
   ·have e:=Zox G4;have hm:s.extract 1 s.size=dec n:=by rw[<- hn];unfold Ze9;rw[if_pos G4]
    rw[hm] at e;have:=congrArg bs e
    rw[bs_lb,Yf] at this;rw[this,Zhl n e9]
   ·have e:(-(n:Int)).natAbs=n:=by omega
    rw[e,<- hn];exact h3
  ·have hm:Ze9 s=s:=by unfold Ze9;rw[if_neg G4]
   rw[hm] at hn h3;refine⟨(n:Int),by rw[Kg];exact hn,?_⟩;rw[show ((n:Nat):Int).natAbs=n from rfl,<- hn];exact h3
theorem Zhy(w:World)(s:ByteArray)(h:IsZ s):Kc Tryz.prog 218 #[.string s] w (.int .i64 0):=by
 obtain⟨z,rfl,hz⟩:=h;have:=Zfi w z (Nat.le_trans hz (by decide))
 rw[if_pos hz] at this;exact this
theorem Zjw(w:World)(s:ByteArray)(hs:s.size<=10000000)(h:¬ IsZ s):Kc Tryz.prog 218 #[.string s] w (.int .i64 2):=by
 unfold Kc;have Hs:=hd_ (Zsu w s hs);have Hc:=hd_ (fun W=>Znp W (Ze9 s) (Nat.le_trans (Zvx s) hs));rw[Qci] at h
 by_cases hz:Zdb s=true/\Ze9 s=⟨#[48]⟩
 ·have c8:((Ze9 s).toList==[48])=true:=by rw[hz.2,Vp];rfl
  rw[hz.1] at Hs;clear Hc hz h;generalize Ze9 s=t at *;go_enter Tryz.func218,Tryz.ntmps218;go_wp2_with fail;refine cm_ Hs.o ?_;rintro e w1 ⟨rfl,HU⟩;have H6:=hd_ HU;clear HU Hs;go_wp2;go_ret;exact⟨rfl,H6.o⟩
 ·have CV:¬ (Zcv (lb (Ze9 s))/\(Ze9 s).size<=400):=fun h'=>h ⟨hz,h'⟩
  rw[if_neg CV] at Hc;clear h CV
  by_cases G4:Zdb s=true
  ·have c8:((Ze9 s).toList==[48])=false:=by
    rw[Bool.eq_false_iff];intro h';apply hz;refine⟨G4,?_⟩;have h2:=eq_of_beq h';rw[Vp] at h2;have:=congrArg bs h2
    rw[bs_lb] at this;exact this
   rw[G4] at Hs;clear hz G4;generalize Ze9 s=t at *;go_enter Tryz.func218,Tryz.ntmps218;go_wp2_with fail;refine cm_ Hs.o ?_;rintro e w1 ⟨rfl,HU⟩;have H6:=hd_ HU;clear HU Hs;go_wp2_with fail;refine cm_ (Hc.o w1) ?_;rintro e w2 ⟨rfl,H7⟩;have H9:=bt_ H6 H7;clear H7 H6 Hc;go_wp2;go_ret;exact⟨rfl,H9.o⟩
  ·rw[Bool.not_eq_true] at G4;rw[G4] at Hs;clear hz G4;generalize Ze9 s=t at *;go_enter Tryz.func218,Tryz.ntmps218;go_wp2_with fail;refine cm_ Hs.o ?_;rintro e w1 ⟨rfl,HU⟩;have H6:=hd_ HU;clear HU Hs;go_wp2_with fail;refine cm_ (Hc.o w1) ?_;rintro e w2 ⟨rfl,H7⟩;have H9:=bt_ H6 H7;clear H7 H6 Hc;go_wp2;go_ret;exact⟨rfl,H9.o⟩
theorem Qfq{q:Rat}{D:Nat}(hD:0<D)(h1:(dec q.num.natAbs).size<=D)(h2:(dec q.den).size<=D):Sm D q:=⟨(Yz _ _ hD).1 h1,(Yz _ _ hD).1 h2⟩
theorem Qei{n:Int}{d:Nat}(h0:0<d)(hg:Nat.gcd n.natAbs d=1)(h1:(dec n.natAbs).size<=400)(h2:(dec d).size<=400):IsQ (itx n) (dec d) :=
 ⟨⟨n,d,by omega,hg⟩,rfl,rfl,Qfq (by decide) h1 h2⟩
theorem Zhz(w:World)(s t:ByteArray)(hs:s.size<=10000000)(ht:t.size<=10000000)(h:¬ IsQ s t)(L:Qg w):
  Kc Tryz.prog 139 #[.agg #[.string s,.string t]] w (.int .i64 2):=by
 have gC:=hd_ ((Below.refl w.heap.size w).alloc nr_ (.cells #[.string s,.string t] 101));have gi:Hid ((w.alloc (.cells #[.string s,.string t] 101)).heap[w.heap.size]?=some (.cells #[.string s,.string t] 101 (0,0))):=heap_alloc_new w _
 by_cases h1:IsZ s
 ·have gF:=hd_ (fun W=>Zhy W s h1)
  by_cases h2:IsZ t
  ·have gP:=hd_ (fun W=>Zhy W t h2);obtain⟨n,rfl,hn⟩:=h1;obtain⟨z,rfl,hz⟩:=h2
   by_cases eM:0<z
   ·obtain⟨d,rfl⟩:∃ d:Nat,z=(d:Int):=⟨z.toNat,by omega⟩;rw[show ((d:Nat):Int).natAbs=d from rfl] at hz;rw[Kg] at h ⊢;have:=Zjv w n d (Nat.le_trans hn (by decide)) (Nat.le_trans hz (by decide)) (by omega) L
    rw[if_neg (fun hh=>h (Qei (by omega) hh.2 hn hz))] at this;exact this
   ·have gI:=hd_ (fun W=>Ys W z);have GM:z.sign<=0:=by
     rcases Int.lt_or_eq_of_le (show z<=0 by omega) with h|h
     ·rw[Int.sign_eq_neg_one_of_neg h];decide
     ·rw[h];decide
    unfold Kc;clear h hn hz eM L;generalize z.sign=g at *;generalize itx n=s at *;generalize itx z=t at *;go_enter Tryz.func139,Tryz.ntmps139;obtain⟨k0,k1,-,-⟩:=Ka gi.o;go_wp2_with fail;generalize w.alloc (.cells #[.string s,.string t] 101)=W0 at *;clear k0 k1;refine cm_ (gF.o _) ?_;rintro e w1 ⟨rfl,HU⟩;have H6:=hd_ HU;clear HU gF ;obtain⟨k0,k1,-,-⟩:=Ka (Kh gi.o H6.o);go_wp2_with fail
    skip
    clear k0 k1;refine cm_ (gP.o _) ?_;rintro e w2 ⟨rfl,H7⟩;have H9:=bt_ H6 H7;clear H7 gP H6;obtain⟨k0,k1,-,-⟩:=Ka (Kh gi.o H9.o);go_wp2_with fail
    skip
    clear k0 k1;refine cm_ (gI.o _) ?_;rintro e w3 ⟨rfl,hb3⟩;have gk:=bt_ H9 hb3;clear hb3 gI H9;have gY:=bt_ gC gk.o;obtain⟨k0,k1,-,-⟩:=Ka (Kh gi.o gk.o);go_wp2;go_ret;exact⟨rfl,gY.o⟩
  ·have gP:=hd_ (fun W=>Zjw W t ht h2);unfold Kc;clear h h1 h2 L;go_enter Tryz.func139,Tryz.ntmps139;obtain⟨k0,k1,-,-⟩:=Ka gi.o;go_wp2_with fail;generalize w.alloc (.cells #[.string s,.string t] 101)=W0 at *;clear k0 k1;refine cm_ (gF.o _) ?_;rintro e w1 ⟨rfl,HU⟩;have H6:=hd_ HU;clear HU gF ;obtain⟨k0,k1,-,-⟩:=Ka (Kh gi.o H6.o);go_wp2_with fail
   skip
   clear k0 k1;refine cm_ (gP.o _) ?_;rintro e w2 ⟨rfl,H7⟩;have H9:=bt_ H6 H7;clear H7 gP H6;have gY:=bt_ gC H9.o;obtain⟨k0,k1,-,-⟩:=Ka (Kh gi.o H9.o);go_wp2;go_ret;exact⟨rfl,gY.o⟩
 ·have gF:=hd_ (fun W=>Zjw W s hs h1);unfold Kc;clear h h1 L;go_enter Tryz.func139,Tryz.ntmps139;obtain⟨k0,k1,-,-⟩:=Ka gi.o;go_wp2_with fail;generalize w.alloc (.cells #[.string s,.string t] 101)=W0 at *;clear k0 k1;refine cm_ (gF.o _) ?_;rintro e w1 ⟨rfl,HU⟩;have H6:=hd_ HU;clear HU gF ;have gY:=bt_ gC H6.o;obtain⟨k0,k1,-,-⟩:=Ka (Kh gi.o H6.o);go_wp2;go_ret;exact⟨rfl,gY.o⟩
end Go.Proofs.YtbielfplgbammaaGreatDoor

namespace Go.Proofs.YtbielfplgbammaaGreatDoor
open Go.RowKit
open Classical in
noncomputable def sgo:List (ByteArray×ByteArray)->Int
 | []=>0
 | x::l=>if ∃ q:Rat,x=qs q/\Sm 400 q then if ∃ q:Rat,x=qs q/\Yd q then sgo l else 4 else 2
noncomputable def Zcz (n:Nat) (l:List (ByteArray×ByteArray)):Int:=if l.length=n then sgo l else 5
theorem Qx{w:World}{b off:Nat}{l:List (ByteArray×ByteArray)}(h:∀ i v,(Qp l)[i]?=some v->w.cell? ⟨b,off+i,none⟩=some v)(k:Nat)(hk:k<l.length):
  w.cell? ⟨b,off+k*2,none⟩=some (.string (l.getD k default).1)/\w.cell? ⟨b,off+k*2+1,none⟩=some (.string (l.getD k default).2):=by
 have e:l.getD k default=l[k]:=by rw[List.getD_eq_getElem?_getD,List.getElem?_eq_getElem hk];rfl
 rw[e];exact⟨h _ _ (Zb7 l k hk).1,by rw[Nat.add_assoc];exact h _ _ (Zb7 l k hk).2⟩
theorem Zln{a b:Nat}(h:dec a=dec b):a=b:=Zp2 (Qe6 h)
theorem Zk7{a b:Int}(h:itx a=itx b):a=b:=by
 have h1:=congrArg Zdb h;rw[Zel,Zel,decide_eq_decide] at h1;have h2:=congrArg Ze9 h;rw[Zk2,Zk2] at h2;have h3:=Zln h2;omega
theorem Qdx{p q:Rat}(h:qs p=qs q):p=q:=by
 simp only[qs,Prod.mk.injEq] at h;exact Rat.ext (Zk7 h.1) (Zln h.2)
open Classical in
theorem Zi6(w:World)(a1 a2:OA_)(c1 c2 n:Nat)(l:List (ByteArray×ByteArray))(hr:Rd w a2 (Qp l))(hl:l.length<=1000000)(hn:n<=1000000)(hs:∀ x∈l,x.1.size<=1000000/\x.2.size<=1000000)(L:Qg w):
  Kc Tryz.prog 77 #[.slice a1 n c1,.slice a2 l.length c2] w (.int .i64 (Zcz n l)):=by
 unfold Kc;have HL:=hd_ L;have Hs:=hd_ hs;clear L hs
 by_cases eQ:l.length=n
 ·have Hv:Hid (Zcz n l=sgo l):=by show _=_;unfold Zcz;rw[if_pos eQ]
  by_cases h0:0<l.length
  ·obtain⟨b,off,rfl,hb,hcells⟩:=hr.open (by rw[Vf];omega);have Gt:=hd_ hcells;clear hcells hr;rw[eQ];have Hn:=hd_ eQ;clear eQ hl h0;go_enter Tryz.func77,Tryz.ntmps77;go_wp2_with fail
   go_loopw [14] (fun i wr=>∃ k:Nat,k<=n/\i = .int .i64 k/\Hid (sgo l=sgo (l.drop k))/\Hid (Bw_ w wr)) (fun i _=>n-(intOf i).toNat)
   case atStart=>exact⟨0,Nat.zero_le _,rfl,rfl,Below.refl _ _⟩
   case round =>
    obtain⟨k,hk,rfl,Hg,Hb⟩:=hrel
    by_cases gd:k<n
    ·have gu:(k:Int)<n:=by omega
     have Gl:k<l.length:=by rw[Hn.o];exact gd
     obtain⟨c0,c1⟩:=Qx Gt.o k Gl;rw[<- Hb.o.cell (p:=⟨b,off+k*2,none⟩) hb] at c0;rw[<- Hb.o.cell (p:=⟨b,off+k*2+1,none⟩) hb] at c1;obtain⟨x,hx⟩:∃ x,l.getD k default=x:=⟨_,rfl⟩;have Aj:l[k]=x:=by rw[<- hx,List.getD_eq_getElem?_getD,List.getElem?_eq_getElem Gl];rfl
     have Hd:Hid (l.drop k=x::l.drop (k+1)):=by show _=_;rw[<- Aj];exact List.drop_eq_getElem_cons Gl
     have Ff:=hd_ (Hs.o x (by rw[<- Aj];exact List.getElem_mem Gl));rw[hx] at c0 c1;clear hx Aj Gl;obtain⟨s,t⟩:=x;simp only at c0 c1;have gC:=hd_ (Hb.o.alloc Hb.o.size (.cells #[.string s,.string t] 101));have gi:Hid ((wr.alloc (.cells #[.string s,.string t] 101)).heap[wr.heap.size]?=some (.cells #[.string s,.string t] 101 (0,0))):=heap_alloc_new wr _
     by_cases hq:∃ q:Rat,(s,t)=qs q/\Sm 400 q
     ·have Ga:Kc Tryz.prog 139 #[.agg #[.string s,.string t]] (wr.alloc (.cells #[.string s,.string t] 101)) (.int .i64 0):=by
       obtain⟨q,hqs,Cb⟩:=hq;simp only[qs,Prod.mk.injEq] at hqs;have Le:=HL.o.below gC.o;rw[hqs.1,hqs.2] at Le ⊢;exact Zsa _ q Cb Le
      have Jj:Hid (∀ W,Kc Tryz.prog 161 #[.agg #[.string s,.string t]] W (.bool (decide (∃ q:Rat,(s,t)=qs q/\Yd q)))):=fun W=>by
       obtain⟨q,hqs,Cb⟩:=hq;have e:decide (∃ p:Rat,(s,t)=qs p/\Yd p)=decide (Yd q):=by
        rw[decide_eq_decide];constructor
        ·rintro⟨p,h1,h2⟩;rw[hqs] at h1;rw[Qdx h1];exact h2
        ·exact fun h=>⟨q,hqs,h⟩
       rw[e];simp only[qs,Prod.mk.injEq] at hqs;rw[hqs.1,hqs.2];exact Zu2 W q
      have bw:Hid (sgo l=if ∃ q:Rat,(s,t)=qs q/\Yd q then sgo (l.drop (k+1)) else 4):=by
       show _=_
       rw[Hg.o,Hd.o]
       show (if _ then _ else _)=_
       rw[if_pos hq]
      clear hq Hg Hd;go_wp2_with fail;generalize wr.alloc (.cells #[.string s,.string t] 101)=W0 at *;clear c0 c1;refine cm_ Ga ?_;rintro e w1 ⟨rfl,HU⟩;have H6:=hd_ HU;clear HU Ga;obtain⟨k0,k1,-,-⟩:=Ka (Kh gi.o H6.o);have CU:=Jj.o w1
      by_cases hshort:∃ q:Rat,(s,t)=qs q/\Yd q
      ·rw[decide_eq_true hshort] at CU;have dT:Hid (sgo l=sgo (l.drop (k+1))):=by show _=_;rw[bw.o,if_pos hshort]
       clear hshort bw Jj;go_wp2_with fail;clear k0 k1;refine cm_ CU ?_;rintro e w2 ⟨rfl,H7⟩;have H9:=hd_ (gC.o.trans ((bu_ H6 H7).mono gC.o.size));clear H7 CU H6;go_wp2
       go_roundw
       case rel=>exact⟨k+1,by omega,by go_num,dT,H9⟩
       case measure=>simp[intOf];omega
      ·rw[decide_eq_false hshort] at CU;have dT:Hid (sgo l=4):=by show _=_;rw[bw.o,if_neg hshort]
       clear hshort bw Jj;go_wp2_with fail;clear k0 k1;refine cm_ CU ?_;rintro e w2 ⟨rfl,H7⟩;have H9:=hd_ (gC.o.trans ((bu_ H6 H7).mono gC.o.size));clear H7 CU H6;go_wp2;go_ret;exact⟨by rw[Hv.o,dT.o];rfl,H9.o⟩
     ·have Ga:Kc Tryz.prog 139 #[.agg #[.string s,.string t]] (wr.alloc (.cells #[.string s,.string t] 101)) (.int .i64 2) :=
       Zhz _ s t (Nat.le_trans Ff.o.1 (by decide)) (Nat.le_trans Ff.o.2 (by decide)) (fun ⟨q,h1,h2,h3⟩=>hq ⟨q,by rw[h1,h2];rfl,h3⟩) (HL.o.below (gC.o))
      have dT:Hid (sgo l=2):=by
       show _=_
       rw[Hg.o,Hd.o]
       show (if _ then _ else _)=_
       rw[if_neg hq]
      clear hq Hg Hd;go_wp2_with fail;generalize wr.alloc (.cells #[.string s,.string t] 101)=W0 at *;clear c0 c1;refine cm_ Ga ?_;rintro e w1 ⟨rfl,HU⟩;have H9:=bt_ gC HU;clear HU Ga;go_wp2;go_ret;exact⟨by rw[Hv.o,dT.o];rfl,H9.o⟩
    ·have gu:¬ (k:Int)<n:=by omega
     have Fe:Hid (sgo l=0):=by
      show _=_
      rw[Hg.o,List.drop_of_length_le (by rw[Hn.o];omega)];rfl
     go_wp2;go_ret;exact⟨by rw[Hv.o,Fe.o];rfl,Hb.o⟩
  ·have Gy:l=[]:=List.eq_nil_of_length_eq_zero (by omega);subst Gy;have e9:n=0:=by rw[<- eQ];rfl
   subst e9;have Br:Hid (sgo []=0):=rfl;rw[show ([]:List (ByteArray×ByteArray)).length=0 from rfl];have hz:((0:Nat):Int)=0:=rfl;go_enter Tryz.func77,Tryz.ntmps77;go_wp2_with fail
   go_loopw [14] (fun i wr=>i = .int .i64 0/\Hid (Bw_ w wr)) (fun i _=>0)
   case atStart=>exact⟨rfl,Below.refl _ _⟩
   case round =>
    obtain⟨rfl,Hb⟩:=hrel;go_wp2;go_ret;exact⟨by rw[Hv.o,Br.o];rfl,Hb.o⟩
 ·have Hv:Hid (Zcz n l=5):=by show _=_;unfold Zcz;rw[if_neg eQ]
  have gm:((l.length:Int)==(n:Int))=false:=by rw[beq_eq_false_iff_ne];omega
  clear hr;generalize l.length=m at *;go_enter Tryz.func77,Tryz.ntmps77;go_wp2;go_ret;exact⟨by rw[Hv.o];rfl,Below.refl _ _⟩
end Go.Proofs.YtbielfplgbammaaGreatDoor

namespace Go.Proofs.YtbielfplgbammaaGreatDoor
open Go.RowKit
abbrev Zdq:=List (ByteArray×ByteArray)
def RdL (w:World) (a:OA_) (ls:List Zdq):Prop :=
 ls=[]\/∃ b off,a=some ⟨b,off,none⟩/\b<w.heap.size/\∀ i,i<ls.length->∃ a' c',w.cell? ⟨b,off+i,none⟩=some (.slice a' (ls.getD i []).length c')/\Rd w a' (Qp (ls.getD i []))
theorem RdL.below{w w':World}{a:OA_}{ls:List Zdq}{B:Nat}(h:RdL w a ls)(hb:Below B w w')(hB:w.heap.size<=B):RdL w' a ls:=by
 rcases h with h|⟨b,off,h1,h2,h3⟩
 ·exact .inl h
 ·refine .inr ⟨b,off,h1,Nat.lt_of_lt_of_le h2 hb.size,fun i hi=>?_⟩;obtain⟨a',c',h4,h5⟩:=h3 i hi;exact⟨a',c',by rw[hb.cell (p:=⟨b,off+i,none⟩) (by show b<B;omega)];exact h4,h5.below hb hB⟩
def Ssz (l:Zdq):Prop:=∀ x∈l,x.1.size<=1000000/\x.2.size<=1000000
noncomputable def Zxh (ps:List Int) (l:Zdq):Int:=if Vd ps=0 then Zcz ps.length l else Vd ps
noncomputable def lgo (n:Nat):List Zdq->Int
 | []=>0
 | l::ls=>if Zcz n l=0 then lgo n ls else Zcz n l
noncomputable def Zhk (ps:List Int) (ls:List Zdq):Int:=if Vd ps=0 then lgo ps.length ls else Vd ps
theorem Zkj(w:World)(a1 a2:OA_)(c1 c2:Nat)(ps:List Int)(l:Zdq)(hp:Rd w a1 (Qw ps))(hi:Zgm ps)(fJ:ps.length<=1000000)
  (hr:Rd w a2 (Qp l)) (hl:l.length<=1000000) (hs:Ssz l) (L:Qg w) :
  Kc Tryz.prog 78 #[.slice a1 ps.length c1,.slice a2 l.length c2] w (.int .i64 (Zxh ps l)):=by
 unfold Kc;have H1:=hd_ (Zbt w a1 c1 ps hp hi fJ);have H2:Hid (∀ W,Bw_ w W->Kc Tryz.prog 77 #[.slice a1 ps.length c1,.slice a2 l.length c2] W (.int .i64 (Zcz ps.length l))):=fun W hW =>
  Zi6 W a1 a2 c1 c2 ps.length l (hr.below hW nr_) hl fJ hs (L.below hW)
 have Hv:Hid (Zxh ps l=if Vd ps=0 then Zcz ps.length l else Vd ps):=rfl;clear hp hi fJ hr hl hs L;generalize Zxh ps l=v at *;generalize Vd ps=p at *;generalize Zcz ps.length l=q at *;generalize ps.length=n at *;generalize l.length=m at *
 by_cases h0:p=0
 ·subst h0;have Fe:Hid (v=q):=by show _=_;rw[Hv.o,if_pos rfl]
  clear Hv;go_enter Tryz.func78,Tryz.ntmps78;go_wp2_with fail;refine cm_ H1.o ?_;rintro e w1 ⟨rfl,HU⟩;have H6:=hd_ HU;clear HU H1;go_wp2_with fail;refine cm_ (H2.o w1 H6.o) ?_;rintro e w2 ⟨rfl,H7⟩;have H9:=bt_ H6 H7;clear H7 H2 H6;go_wp2;go_ret;exact⟨by rw[Fe.o];rfl,H9.o⟩
 ·have Fe:Hid (v=p):=by show _=_;rw[Hv.o,if_neg h0]
  have f9:(p==0)=false:=by rw[beq_eq_false_iff_ne];exact h0
  clear Hv h0;go_enter Tryz.func78,Tryz.ntmps78;go_wp2_with fail;refine cm_ H1.o ?_;rintro e w1 ⟨rfl,HU⟩;have H6:=hd_ HU;clear HU H1;go_wp2;go_ret;exact⟨by rw[Fe.o];rfl,H6.o⟩
theorem Zak(w:World)(a1 a2:OA_)(c1 c2:Nat)(ps:List Int)(ls:List Zdq)(hp:Rd w a1 (Qw ps))(hi:Zgm ps)(fJ:ps.length<=1000000)
  (hr:RdL w a2 ls) (hl:ls.length<=1000000) (fP:∀ l∈ls,l.length<=1000000/\Ssz l) (L:Qg w) :
  Kc Tryz.prog 20 #[.slice a1 ps.length c1,.slice a2 ls.length c2] w (.int .i64 (Zhk ps ls)):=by
 unfold Kc;have H1:=hd_ (Zbt w a1 c1 ps hp hi fJ);have H2:Hid (∀ W a c l,Bw_ w W->l∈ls->Rd W a (Qp l)->Kc Tryz.prog 77 #[.slice a1 ps.length c1,.slice a l.length c] W (.int .i64 (Zcz ps.length l))):=fun W a c l hW hm EA =>
  Zi6 W a1 a c1 c ps.length l EA (fP l hm).1 fJ (fP l hm).2 (L.below hW)
 have Hv:Hid (Zhk ps ls=if Vd ps=0 then lgo ps.length ls else Vd ps):=rfl;have Hr:=hd_ hr;clear hp hi fJ fP L hr;generalize Zhk ps ls=v at *;generalize Vd ps=p at *;generalize ps.length=n at *
 by_cases h0:p=0
 ·subst h0;have Fe:Hid (v=lgo n ls):=by show _=_;rw[Hv.o,if_pos rfl]
  clear Hv;generalize hm:ls.length=m at *;have Hm:=hd_ hm;clear hm;go_enter Tryz.func20,Tryz.ntmps20;go_wp2_with fail;refine cm_ H1.o ?_;rintro e w1 ⟨rfl,HU⟩;have H6:=hd_ HU;clear HU H1;go_wp2_with fail
  go_loopw [16] (fun i wr=>∃ k:Nat,k<=m/\i = .int .i64 k/\Hid (lgo n ls=lgo n (ls.drop k))/\Hid (Bw_ w wr)) (fun i _=>m-(intOf i).toNat)
  case atStart=>exact⟨0,Nat.zero_le _,rfl,rfl,H6⟩
  case round =>
   obtain⟨k,hk,rfl,Hg,Hb⟩:=hrel
   by_cases gd:k<m
   ·have gu:(k:Int)<m:=by omega
    have Gl:k<ls.length:=by rw[Hm.o];exact gd
    rcases Hr.o with Gy|⟨b,off,rfl,hb,hcells⟩
    ·rw[Gy] at Gl;exact absurd Gl (Nat.not_lt_zero _)
    obtain⟨a',c',cx,EA⟩:=hcells k Gl;have fB:ls.getD k []=ls[k]:=by rw[List.getD_eq_getElem?_getD,List.getElem?_eq_getElem Gl];rfl
    rw[<- Hb.o.cell (p:=⟨b,off+k,none⟩) hb,fB] at cx;rw[fB] at EA;have Hd:Hid (ls.drop k=ls[k]::ls.drop (k+1)):=List.drop_eq_getElem_cons Gl;have Gq:ls[k]∈ls:=List.getElem_mem Gl;have hc:=H2.o wr a' c' ls[k] Hb.o Gq (EA.below Hb.o nr_);clear fB hcells EA Gq;generalize ls[k]=l at *;generalize l.length=q at *
    by_cases hs:Zcz n l=0
    ·have dT:Hid (lgo n ls=lgo n (ls.drop (k+1))):=by
      show _=_
      rw[Hg.o,Hd.o]
      show (if _ then _ else _)=_
      rw[if_pos hs]
     rw[hs] at hc;clear hs Hg Hd;go_wp2_with fail;refine cm_ hc ?_;rintro e w2 ⟨rfl,H7⟩;have H9:=bt_ Hb H7;clear H7 hc Hb;go_wp2
     go_roundw
     case rel=>exact⟨k+1,by omega,by go_num,dT,H9⟩
     case measure=>simp[intOf];omega
    ·have dT:Hid (lgo n ls=Zcz n l):=by
      show _=_
      rw[Hg.o,Hd.o]
      show (if _ then _ else _)=_
      rw[if_neg hs]
     have Du:(Zcz n l==0)=false:=by rw[beq_eq_false_iff_ne];exact hs
     clear hs Hg Hd;generalize Zcz n l=z at *;go_wp2_with fail;refine cm_ hc ?_;rintro e w2 ⟨rfl,H7⟩;have H9:=bt_ Hb H7;clear H7 hc Hb;go_wp2;go_ret;exact⟨by rw[Fe.o,dT.o];rfl,H9.o⟩
   ·have gu:¬ (k:Int)<m:=by omega
    have dT:Hid (lgo n ls=0):=by
     show _=_
     rw[Hg.o,List.drop_of_length_le (by rw[Hm.o];omega)];rfl
    go_wp2;go_ret;exact⟨by rw[Fe.o,dT.o];rfl,Hb.o⟩
 ·have Fe:Hid (v=p):=by show _=_;rw[Hv.o,if_neg h0]
  have f9:(p==0)=false:=by rw[beq_eq_false_iff_ne];exact h0
  clear Hv h0;generalize ls.length=m at *;go_enter Tryz.func20,Tryz.ntmps20;go_wp2_with fail;refine cm_ H1.o ?_;rintro e w1 ⟨rfl,HU⟩;have H6:=hd_ HU;clear HU H1;go_wp2;go_ret;exact⟨by rw[Fe.o];rfl,H6.o⟩
def Zc0 (acc x:List Rat) (f:Rat):List Rat:=List.zipWith (fun o y=>o+y*f) acc x
def Zic (n:Nat) (ls:List (List Rat)) (fs:List Rat) (k:Nat):List Rat:=((ls.zip fs).take k).foldl (fun acc p=>Zc0 acc p.1 p.2) (List.replicate n 0)
def Zao (n:Nat) (ls:List (List Rat)) (fs:List Rat):List Rat:=(ls.zip fs).foldl (fun acc p=>Zc0 acc p.1 p.2) (List.replicate n 0)
def Ztc (acc x:List Rat) (f:Rat) (j:Nat):List Rat:=(Zc0 acc x f).take j++acc.drop j
theorem Zj(acc x:List Rat)(f:Rat)(h:x.length=acc.length):(Zc0 acc x f).length=acc.length:=by simp[Zc0,h]
theorem Zck(acc x:List Rat)(f:Rat)(j:Nat)(h:x.length=acc.length)(hj:j<=acc.length):(Ztc acc x f j).length=acc.length:=by
 simp only[Ztc,List.length_append,List.length_take,List.length_drop,Zj acc x f h];omega
theorem Zyx(acc x:List Rat)(f:Rat)(j:Nat)(h:x.length=acc.length)(hj:j<acc.length)(hh:j<(Ztc acc x f j).length):(Ztc acc x f j)[j]=acc[j]:=by
 simp only[Ztc];rw[List.getElem_append_right (by rw[List.length_take,Zj acc x f h];omega)];simp only[List.getElem_drop,List.length_take,Zj acc x f h];congr 1;omega
theorem Zyw(acc x:List Rat)(f:Rat)(j:Nat)(h:x.length=acc.length)(hj:j<acc.length):(Ztc acc x f j).set j (acc[j]+x[j]*f)=Ztc acc x f (j+1):=by
 have hl:=Zj acc x f h;unfold Ztc;rw[List.set_append_right _ _ (by rw[List.length_take];omega),List.length_take,hl,Nat.min_eq_left (by omega),Nat.sub_self,List.drop_eq_getElem_cons hj,List.set_cons_zero,
  List.take_add_one,List.getElem?_eq_getElem (show j<(Zc0 acc x f).length by omega),List.append_assoc]
 have:(Zc0 acc x f)[j]=acc[j]+x[j]*f:=by simp[Zc0]
 rw[this];rfl
theorem Zvw(acc x:List Rat)(f:Rat):Ztc acc x f 0=acc:=by simp[Ztc]
theorem Zyy(acc x:List Rat)(f:Rat)(h:x.length=acc.length):Ztc acc x f acc.length=Zc0 acc x f:=by
 unfold Ztc;rw[List.drop_length,List.append_nil,List.take_of_length_le (by rw[Zj acc x f h];exact Nat.le_refl _)]
theorem Zg2(n ls fs):Zic n ls fs 0=List.replicate n 0:=rfl
theorem Zg3(n:Nat)(ls:List (List Rat))(fs:List Rat)(k:Nat)(h1:k<ls.length)(h2:k<fs.length):Zic n ls fs (k+1)=Zc0 (Zic n ls fs k) ls[k] fs[k]:=by
 unfold Zic;rw[List.take_add_one,List.getElem?_eq_getElem (by rw[List.length_zip];omega),List.foldl_append];simp
theorem Zqr(n:Nat)(ls:List (List Rat))(fs:List Rat)(k:Nat)(h:ls.length<=k):Zic n ls fs k=Zao n ls fs:=by
 unfold Zic Zao;rw[List.take_of_length_le (by rw[List.length_zip];omega)]
theorem Yy(n:Nat)(ls:List (List Rat))(fs:List Rat)(hl:∀ l∈ls,l.length=n)(hf:fs.length=ls.length):∀ k,k<=ls.length->(Zic n ls fs k).length=n
 | 0,_=>by rw[Zg2,List.length_replicate]
 | k+1,h=>by
  have ih:=Yy n ls fs hl hf k (by omega);rw[Zg3 n ls fs k (by omega) (by omega),Zj _ _ _ (by rw[ih];exact hl _ (List.getElem_mem _)),ih]
theorem Zcg(n:Nat)(ls:List (List Rat))(fs:List Rat)(hl:∀ l∈ls,l.length=n)(hf:fs.length=ls.length):(Zao n ls fs).length=n:=by
 rw[<- Zqr n ls fs ls.length nr_];exact Yy n ls fs hl hf _ nr_
theorem Sm.zero:Sm 1 0:=⟨by decide,by decide⟩
theorem Zkf(n:Nat)(ls:List (List Rat))(fs:List Rat)(Dx Df:Nat)(hl:∀ l∈ls,∀ q∈l,Sm Dx q)(hfq:∀ q∈fs,Sm Df q)(hf:fs.length=ls.length):∀ k,k<=ls.length->∀ q∈Zic n ls fs k,Sm (1+k*(Dx+Df+1)) q
 | 0,_,q,hq=>by
  rw[Zg2] at hq;rw[List.eq_of_mem_replicate hq]
  simpa using Sm.zero
 | k+1,h,q,hq=>by
  have ih:=Zkf n ls fs Dx Df hl hfq hf k (by omega);rw[Zg3 n ls fs k (by omega) (by omega)] at hq;unfold Zc0 at hq;obtain⟨i,hi,hqi⟩:=List.mem_iff_getElem.1 hq;rw[List.getElem_zipWith] at hqi;rw[<- hqi];have h1:=ih _ (List.getElem_mem (show i<(Zic n ls fs k).length by simp at hi;omega));have h2:=hl _ (List.getElem_mem (show k<ls.length by omega)) _ (List.getElem_mem (show i<(ls[k]).length by simp at hi;omega));have h3:=hfq _ (List.getElem_mem (show k<fs.length by omega));exact(h1.add (h2.mul h3)).le (by rw[Nat.add_mul];omega)
theorem Qu(l:List Rat)(k:Nat)(h:k<l.length):((l.map qs).getD k default)=qs l[k]:=by
 rw[List.getD_eq_getElem?_getD,List.getElem?_map,List.getElem?_eq_getElem h];rfl
theorem Zfs(w:World)(a b:Rat)(D E:Nat)(ha:Sm D a)(hb:Sm E b)(h6:D+E+2<=1000000)(L:Qg w):
  ∀ d os,Calls Tryz.prog 206 #[fr a,fr b] (Go.Sort.grow (redrawn w d) os) fun e w''=>e = .returned (fr (a*b))/\∃ p:Regrown,w''=Go.Sort.grow (redrawn w p.d) p.os:=fun d os =>
 Calls.regrown_of (Qdb _ a b D E ha hb h6 (L.below (below_regrown w d os)))
theorem Znx(w:World)(a b:Rat)(D E:Nat)(ha:Sm D a)(hb:Sm E b)(h6:D+E+2<=1000000)(L:Qg w):
  ∀ d os,Calls Tryz.prog 207 #[fr a,fr b] (Go.Sort.grow (redrawn w d) os) fun e w''=>e = .returned (fr (a+b))/\∃ p:Regrown,w''=Go.Sort.grow (redrawn w p.d) p.os:=fun d os =>
 Calls.regrown_of (Zxy _ a b D E ha hb h6 (L.below (below_regrown w d os)))
theorem Zkc(w:World)(a2 a3:OA_)(c2 c3 n:Nat)(ls:List (List Rat))(fs:List Rat)(Dx Df:Nat)
  (hr:RdL w a2 (ls.map (List.map qs))) (hf:Rd w a3 (Km fs)) (gh:∀ l∈ls,l.length=n) (gS:fs.length=ls.length) (hx:∀ l∈ls,∀ q∈l,Sm Dx q) (hfq:∀ q∈fs,Sm Df q)
  (hn:n<=1000) (hm:ls.length<=1000) (hD:3+(ls.length+1)*(Dx+Df+1)<=1000000) (L:Qg w) :
  Zdh 141 #[.int .i64 n,.slice a2 ls.length c2,.slice a3 fs.length c3] w (Zao n ls fs):=by
 unfold Zdh;have HL:=hd_ L;have Hr:=hd_ hr;have Hf:=hd_ hf;have g7:=hd_ gh;have Hx:=hd_ hx;have JD:=hd_ hfq;have HD:=hd_ hD;have Hz:=hd_ (Zqg w n hn L);have E1:=hd_ gS;have nV:=hd_ (Zcg n ls fs gh gS);rw[gS];clear L hr hf gh hx hfq gS hD;generalize a7:ls.length=m at *;have Hm:=hd_ a7;clear a7;rw[nV.o];go_enter Tryz.func141,Tryz.ntmps141;go_wp2_with fail;refine cm_ Hz.o ?_;rintro e w1 ⟨a,c,rfl,gl,HU⟩;rw[show (List.replicate n (0:Rat)).length=n from List.length_replicate];have gA:=hd_ gl;have H6:=hd_ HU;clear gl HU Hz;go_wp2_with fail
 go_loopw [16] (fun i wr=>∃ k:Nat,k<=m/\i = .int .i64 k/\Hid (Zbc wr w.heap.size a c (Zic n ls fs k))/\Hid (Bw_ w wr)) (fun i _=>m-(intOf i).toNat)
 case atStart=>exact⟨0,Nat.zero_le _,rfl,by rw[Zg2];exact gA,H6⟩
 case round =>
  obtain⟨k,hk,rfl,gA,Hb⟩:=hrel
  by_cases gd:k<m
  ·have gu:(k:Int)<m:=by omega
   have Gl:k<ls.length:=by rw[Hm.o];exact gd
   rcases Hr.o with Gy|⟨b,off,rfl,hb,hcells⟩
   ·rw[List.map_eq_nil_iff] at Gy;rw[Gy] at Gl;exact absurd Gl (Nat.not_lt_zero _)
   obtain⟨a',c',cx,EA⟩:=hcells k (by rw[List.length_map];exact Gl);have fB:(ls.map (List.map qs)).getD k []=ls[k].map qs:=by rw[List.getD_eq_getElem?_getD,List.getElem?_map,List.getElem?_eq_getElem Gl];rfl
   have EE:=g7.o _ (List.getElem_mem Gl);rw[<- Hb.o.cell (p:=⟨b,off+k,none⟩) hb,fB,List.length_map,EE] at cx;rw[fB] at EA;have ID:=hd_ EA;have BB:=hd_ EE;have EF:(0:Int)<=k:=by omega
   clear fB hcells EA EE;go_wp2_with fail;have o4:=hd_ Hb.o
   go_loopw [23] (fun j wr=>∃ i:Nat,i<=n/\j = .int .i64 i/\Hid (Zbc wr w.heap.size a c (Ztc (Zic n ls fs k) ls[k] (fs.getD k 0) i))/\Hid (Bw_ w wr)) (fun j _=>n-(intOf j).toNat)
   case atStart=>exact⟨0,Nat.zero_le _,rfl,by rw[Zvw];exact gA,Hb⟩
   case round =>
    obtain⟨i,hi,rfl,gX,H9⟩:=hrel
    by_cases hli:i<n
    ·have jB:(i:Int)<n:=by omega
     have dN:=Yy n ls fs g7.o (by rw[E1.o,Hm.o]) k (by omega);have Af:i<(ls[k]).length:=by rw[BB.o];exact hli
     have Ah:i<(Zic n ls fs k).length:=by rw[dN];exact hli
     have Cp:(ls[k]).length=(Zic n ls fs k).length:=by rw[dN];exact BB.o
     have CX:k<fs.length:=by rw[E1.o];exact gd
     have jK:fs.getD k 0=fs[k]:=by rw[List.getD_eq_getElem?_getD,List.getElem?_eq_getElem CX];rfl
     -- the element of the row
     obtain⟨bx,ox,rfl,hbx,hcx⟩:=ID.o.open (by rw[Vf,List.length_map,BB.o];omega);obtain⟨x0,x1⟩:=Qx hcx i (by rw[List.length_map];exact Af);rw[<- H9.o.cell (p:=⟨bx,ox+i*2,none⟩) hbx,Qu _ i Af] at x0;rw[<- H9.o.cell (p:=⟨bx,ox+i*2+1,none⟩) hbx,Qu _ i Af] at x1
     -- the factor
     obtain⟨bf,of,rfl,hbf,hcf⟩:=Hf.o.open (by rw[Kw];omega);obtain⟨y0,y1⟩:=Qx hcf k (by rw[List.length_map];exact CX);rw[<- H9.o.cell (p:=⟨bf,of+k*2,none⟩) hbf,Qu _ k CX] at y0;rw[<- H9.o.cell (p:=⟨bf,of+k*2+1,none⟩) hbf,Qu _ k CX] at y1
     -- the sum so far
     have ED:=Zck (Zic n ls fs k) ls[k] (fs.getD k 0) i Cp (by omega);obtain⟨g,rfl,hBg,fB,-,hco,ee⟩:=gX.o.open (by rw[ED,dN];omega);obtain⟨o0,o1⟩:=hco i (by rw[ED];exact Ah);rw[Zyx _ _ _ i Cp Ah (by rw[ED];exact Ah)] at o0 o1;have f0:=ee (i*2);have f1:=ee (i*2+1);have sx:=Hx.o _ (List.getElem_mem Gl) _ (List.getElem_mem Af);have sf:=JD.o _ (List.getElem_mem CX);have sa:=Zkf n ls fs Dx Df Hx.o JD.o (by rw[E1.o,Hm.o]) k (by omega) _ (List.getElem_mem Ah);have Lj:(k+1)*(Dx+Df+1)<=(m+1)*(Dx+Df+1):=Nat.mul_le_mul_right _ (by omega);have j4:(k+1)*(Dx+Df+1)=k*(Dx+Df+1)+(Dx+Df+1):=by rw[Nat.add_mul,Nat.one_mul]
     have Ay:=HD.o;have av:(m+1)*(Dx+Df+1)=m*(Dx+Df+1)+(Dx+Df+1):=by rw[Nat.add_mul,Nat.one_mul]
     have mU:=hd_ (HL.o.below H9.o);have By:=hd_ (Zyw (Zic n ls fs k) ls[k] fs[k] i Cp Ah);rw[jK] at gX;have Nk:=hd_ jK;have HM:Hid (∀ W,Bw_ wr W->∀ d os,Calls Tryz.prog 206 #[fr (ls[k])[i],fr fs[k]] (Go.Sort.grow (redrawn W d) os) fun e w''=>e = .returned (fr ((ls[k])[i]*fs[k]))/\∃ p:Regrown,w''=Go.Sort.grow (redrawn W p.d) p.os):=fun W hW =>
      Zfs W _ _ Dx Df sx sf (by omega) (mU.o.below hW)
     have HA:Hid (∀ W,Bw_ wr W->∀ d os,Calls Tryz.prog 207 #[fr (Zic n ls fs k)[i],fr ((ls[k])[i]*fs[k])] (Go.Sort.grow (redrawn W d) os) fun e w''=>e = .returned (fr ((Zic n ls fs k)[i]+(ls[k])[i]*fs[k]))/\∃ p:Regrown,w''=Go.Sort.grow (redrawn W p.d) p.os):=fun W hW =>
      Znx W _ _ (1+k*(Dx+Df+1)) (Dx+Df) sa (sx.mul sf) (by omega) (mU.o.below hW)
     unfold fr fv at HM HA;clear sx sf sa Lj j4 Ay av hcx hcf hco ee jK ED;generalize (Zic n ls fs k)[i]=oq at *;generalize (ls[k])[i]=xq at *;generalize fs[k]=fq at *;simp only[qs] at x0 x1 y0 y1;have gC:=hd_ (H9.o.alloc H9.o.size (.cells #[.string (itx xq.num),.string (dec xq.den)] 101));have EW:=hd_ ((Below.refl wr.heap.size wr).alloc nr_ (.cells #[.string (itx xq.num),.string (dec xq.den)] 101));have gi:Hid ((wr.alloc (.cells #[.string (itx xq.num),.string (dec xq.den)] 101)).heap[wr.heap.size]?=some (.cells #[.string (itx xq.num),.string (dec xq.den)] 101 (0,0))):=heap_alloc_new wr _;have hM:=HM.o _ EW.o;have hA:=HA.o _ EW.o;have gn:=gX.o.below EW.o nr_;have IE:=hd_ ((EW.o.cell (p:=⟨g,i*2,none⟩) fB).trans o0);have FQ:=hd_ ((EW.o.cell (p:=⟨g,i*2+1,none⟩) fB).trans o1);have LJ:=hd_ ((EW.o.cell (p:=⟨bf,of+k*2,none⟩) (Nat.lt_of_lt_of_le hbf H9.o.size)).trans y0);have IB:=hd_ ((EW.o.cell (p:=⟨bf,of+k*2+1,none⟩) (Nat.lt_of_lt_of_le hbf H9.o.size)).trans y1);have o7:=hd_ f0;have bA:=hd_ f1;have dv:=hd_ gn;clear o0 o1 y0 y1 f0 f1 gn HM HA gX H9;go_wp2_with fail;generalize wr.alloc (.cells #[.string (itx xq.num),.string (dec xq.den)] 101)=W0 at *;obtain⟨k0,k1,-,-⟩:=Ka gi.o;have q0:=cell_regrown k0;have q1:=cell_regrown k1;have q2:=cell_regrown IE.o;have q3:=cell_regrown FQ.o;have q4:=cell_regrown LJ.o;have q5:=cell_regrown IB.o;clear k0 k1 x0 x1;refine Kt 13 (by kernel_rfl) (by kernel_rfl) ?_;simp only[List.take_succ_cons,List.take_zero,List.drop_succ_cons,List.drop_zero]
     repeat (first | go_big_quiet_step (first | with_reducible exact hM _ _ | with_reducible exact hA _ _) | quiet_step (first | with_reducible exact hM _ _ | with_reducible exact hA _ _))
     refine wpQuiet_nil ?_;intro w8 hw8;obtain⟨⟨dq,osq⟩,rfl⟩:=hw8;have GT:=below_regrown W0 dq osq;have c0:=(GT.cell (p:=⟨g,i*2,none⟩) (block_lt_of_cell IE.o)).trans IE.o;have c1:=(GT.cell (p:=⟨g,i*2+1,none⟩) (block_lt_of_cell FQ.o)).trans FQ.o;have cu:=hd_ (dv.o.below GT nr_);have CM:=bt_ gC GT;clear GT hM hA q0 q1 q2 q3 q4 q5 gC dv IE FQ LJ IB gi;generalize Go.Sort.grow (redrawn W0 dq) osq=w8 at *;have f0:w8.frozen? ⟨g,i*2,none⟩=false:=by
      obtain⟨g',hg',-,-,-,-,h5⟩:=Zbc.open cu.o (by rw[Zck _ _ _ _ (by rw[BB.o];exact(Yy n ls fs g7.o (by rw[E1.o,Hm.o]) k (by omega)).symm) (by omega)];omega);simp only[Option.some.injEq,Addr.mk.injEq,and_true] at hg';rw[hg'];exact h5 _
     have f1:w8.frozen? ⟨g,i*2+1,none⟩=false:=by
      obtain⟨g',hg',-,-,-,-,h5⟩:=Zbc.open cu.o (by rw[Zck _ _ _ _ (by rw[BB.o];exact(Yy n ls fs g7.o (by rw[E1.o,Hm.o]) k (by omega)).symm) (by omega)];omega);simp only[Option.some.injEq,Addr.mk.injEq,and_true] at hg';rw[hg'];exact h5 _
     go_wp2
     go_roundw
     case rel =>
      refine⟨i+1,by omega,by go_num,?_,?_⟩
      ·have:=Zbc.store cu.o i (by rw[Zck _ _ _ _ (by rw[BB.o];exact(Yy n ls fs g7.o (by rw[E1.o,Hm.o]) k (by omega)).symm) (by omega)];omega) (oq+xq*fq)
       rw[By.o] at this;rw[Nk.o];exact this
      ·exact(CM.o.setCell (p:=⟨g,i*2,none⟩) hBg _).setCell (p:=⟨g,i*2+1,none⟩) hBg _
     case measure=>simp[intOf];omega
    ·have jB:¬ (i:Int)<n:=by omega
     have Ae:i=n:=by omega
     have dv:Hid (Zbc wr w.heap.size a c (Zic n ls fs (k+1))):=by
      have dN:=Yy n ls fs g7.o (by rw[E1.o,Hm.o]) k (by omega);have CX:k<fs.length:=by rw[E1.o];exact gd
      have:=gX.o
      have GI:=Zyy (Zic n ls fs k) ls[k] (fs.getD k 0) (by rw[dN];exact BB.o);rw[dN] at GI;rw[Ae,GI] at this
      show Zbc _ _ _ _ _
      rw[Zg3 n ls fs k Gl CX];rw[List.getD_eq_getElem?_getD,List.getElem?_eq_getElem CX] at this;exact this
     clear gX Ae;go_wp2
     go_roundw
     case rel=>exact⟨k+1,by omega,by go_num,dv,H9⟩
     case measure=>simp[intOf];omega
  ·have gu:¬ (k:Int)<m:=by omega
   have gX:Hid (Zbc wr w.heap.size a c (Zao n ls fs)):=by
    have:=gA.o
    rw[Zqr n ls fs k (by rw[Hm.o];omega)] at this;exact this
   go_wp2;go_ret;exact⟨a,c,rfl,gX.o,Hb.o⟩
end Go.Proofs.YtbielfplgbammaaGreatDoor

namespace Go.Proofs.YtbielfplgbammaaGreatDoor.RP
open Go Go.Sort Go.Proofs.YtbielfplgbammaaGreatDoor
section
variable {P:Program} {ops:Array Oper} {md:Region.Mode} {C:World->Prop}
def Zbu:Op->Bool
 | .move _ | .assign _ | .load _ _ | .fieldAddr _ _ _ | .indexAddr _ _ _ | .extract _ _ | .binOp _ _ _ _ _ | .convert _ _ _ | .slice _ _ _ _ _ | .unOp _ _ _ | .nilCheck _ | .pick _ _ _ | .build _ _ | .index _ _ _=>true
 | .call c=>match c.callee with
  | .builtin .min | .builtin .max | .builtin .len=>true
  | _=>false
 | _=>false
theorem value_no_enter{s:Sem Value}{w w':World}{f:FuncId}{args:Array Value}(h:(do pure (Next.value (<- s)):Sem Next).run P w = .ok (.enter f args) w'):False:=by
 simp only[Sem.run_bind,Sem.run_pure] at h;cases hs:s.run P w with
 | ok v w1=>rw[hs] at h;simp[Result.andThen] at h
 | halt x w1=>rw[hs] at h;simp[Result.andThen] at h
theorem Zkt{s:Sem Bool}{x y:Value}{w w':World}{f:FuncId}{args:Array Value}(h:(do pure (Next.value (if <- s then x else y)):Sem Next).run P w = .ok (.enter f args) w'):False:=by
 simp only[Sem.run_bind,Sem.run_pure] at h;cases hs:s.run P w with
 | ok v w1=>rw[hs] at h;simp[Result.andThen] at h
 | halt x w1=>rw[hs] at h;simp[Result.andThen] at h
theorem Zmy(v:Value){w w':World}{f:FuncId}{args:Array Value} (h:((match v with
  | .pointer none | .nilIface | .nilFunc=>runtimePanic .nilDeref
  | .func (.method name) first captured =>
   match (first[0]?:Option Value) with
   | some .nilIface=>runtimePanic .nilDeref
   | some (.iface t w)=>do
    if (<- nilAhead ((<- program).types.size+Made.depth) t w name) != some false then
     unsupported (.noEntry "op/nilCheck.the method's receiver behind this interface value is a nil pointer, or cannot be seen to be none, and the arguments act or may panic (ledger 612)")
    pure (.value (.func (.method name) first captured))
   | _=>pure (.value (.func (.method name) first captured))
  | x=>pure (.value x):Sem Next)).run P w = .ok (.enter f args) w'):False:=by
 split at h
 all_goals first
  | (simp[Sem.run_pure] at h;done)
  | (cases h;done)
  | skip
 split at h
 ·cases h
 ·simp only[Sem.run_bind,Result.andThen] at h
  repeat' (split at h)
  all_goals first
   | (cases h;done)
   | (simp[Sem.run_pure,Sem.run_bind,Result.andThen] at h;done)
   | skip
 ·simp[Sem.run_pure] at h
theorem Zyo{o:Oper}{a:Act}{w w':World}{f:FuncId}{args:Array Value}(ho:Zbu o.op=true)(h:(execOp a.eval o).run P w = .ok (.enter f args) w'):False:=by
 have EU:(∃ x,o.op = .move x)\/(∃ x,o.op = .assign x)\/(∃ t x,o.op = .load t x)\/(∃ t x k,o.op = .fieldAddr t x k)\/(∃ t x y,o.op = .indexAddr t x y)\/(∃ x k,o.op = .extract x k)\/(∃ b t x y r,o.op = .binOp b t x y r)\/(∃ s d x,o.op = .convert s d x)\/(∃ s x l h m,o.op = .slice s x l h m)\/(∃ u t x,o.op = .unOp u t x)\/(∃ x,o.op = .nilCheck x)\/(∃ c x y,o.op = .pick c x y)\/(∃ t p,o.op = .build t p)\/(∃ t x i,o.op = .index t x i)\/(∃ c,o.op = .call c):=by
  cases hop:o.op<;>rw[hop] at ho<;>first | (simp[Zbu] at ho;done) | simp
 rcases EU with⟨x,hop⟩|⟨x,hop⟩|⟨t,x,hop⟩|⟨t,x,k,hop⟩|⟨t,x,y,hop⟩|⟨x,k,hop⟩|⟨b,t,x,y,r,hop⟩|⟨s,d,x,hop⟩|⟨s,x,lo,hi,mx,hop⟩|⟨u,t,x,hop⟩|⟨x,hop⟩|⟨c,x,y,hop⟩|⟨t,p,hop⟩|⟨t,x,i,hop⟩|⟨c,hop⟩
 ·rw[BigFrame.run_move x hop] at h;cases h
 ·rw[BigFrame.run_assign x hop] at h;cases h
 ·unfold execOp at h;rw[hop] at h;exact value_no_enter h
 ·unfold execOp at h;rw[hop] at h;exact value_no_enter h
 ·unfold execOp at h;rw[hop] at h;exact value_no_enter h
 ·unfold execOp at h;rw[hop] at h;exact value_no_enter h
 ·unfold execOp at h;rw[hop] at h;exact value_no_enter h
 ·unfold execOp at h;rw[hop] at h;exact value_no_enter h
 ·unfold execOp at h;rw[hop] at h;exact value_no_enter h
 ·unfold execOp at h;rw[hop] at h;exact value_no_enter h
 ·unfold execOp at h;rw[hop] at h;exact Zmy (a.eval x) h
 ·unfold execOp at h;rw[hop] at h;exact Zkt h
 ·unfold execOp at h;rw[hop] at h;exact value_no_enter h
 ·unfold execOp at h;rw[hop] at h;exact value_no_enter h
 ·rw[hop] at ho;unfold execOp at h;rw[hop] at h;unfold Zbu at ho;simp only at ho h;unfold resolve at h;cases hc:c.callee with
  | value x=>rw[hc] at ho;cases ho
  | invoke x y=>rw[hc] at ho;cases ho
  | builtin b =>
   rw[hc] at ho h;simp only[Sem.run_bind,Sem.run_pure,Result.andThen_ok,invoke] at h;cases b<;>first | (simp at ho;done) | (unfold builtin at h;exact value_no_enter h)
theorem Zif{o:Oper}{a:Act}{w:World}{v:Value}(ho:Zbu o.op=true)(h:o.quietAt P a C w v){K:Act->World->Prop}(hk:K (a.put o.dst v) w):o.wp P a w K (fun _ _ _=>False):=by
 unfold Oper.quietAt at h;unfold Oper.wp;have gm:=@Zyo P o a w;generalize (execOp a.eval o).run P w=r at *;cases r with
 | ok n w' =>
  cases n<;>simp only[Oper.quietUpon] at h<;>simp only[Oper.upon]
  case value u=>obtain⟨rfl,rfl⟩:=h;exact hk
  case skip=>obtain⟨rfl,rfl⟩:=h;exact hk
  case enter f args=>exact(gm ho rfl).elim
 | halt x w'=>simp only[Oper.quietUpon] at h
def Zdo (C:World->Prop) (s:Nat) (listed:Array Bool) (w:World):Prop:=listed.getD s false=true\/C w
def Qc0 (P:Program) (md:Region.Mode) (ops:Array Oper) (C:World->Prop) (s:Nat) (Q:Act->World->Prop):Nat->Array Bool->Act->World->Prop
 | 0,listed,a,w=>Region.ready md ops listed=[]/\Q a w
 | f+1,listed,a,w=>Region.ready md ops listed≠[]/\∀ i∈Region.ready md ops listed,
   wpOp P ops (fun _ _ _=>False) i (fun a' w'=>Zdo C s (listed.setIfInBounds i true) w'/\Qc0 P md ops C s Q f (listed.setIfInBounds i true) a' w') a w
theorem Zui{o:Oper}{a:Act}{w:World}{K:Act->World->Prop}{Q':Exit->Act->World->Prop}(h:o.wp P a w K (fun _ _ _=>False)):o.wp P a w K Q':=by
 unfold Oper.wp at *
 generalize (execOp a.eval o).run P w=r at *;cases r with
 | ok n w' =>
  cases n<;>simp only[Oper.upon] at h ⊢ <;>
   first
    | exact h
    | exact cm_ h (fun e w'' he=>by cases e<;>first | exact he | exact he.elim | (obtain⟨_,_,hf⟩:=he;exact hf.elim))
    | exact Rows.mono h (fun _ _ he=>he)
 | halt x w'=>cases x<;>simp only[Oper.upon] at h<;>exact h.elim
theorem Zn2{i:Nat}{a:Act}{w:World}{K K':Act->World->Prop}{Q':Exit->Act->World->Prop}(hk:∀ a w,K a w->K' a w)(h:wpOp P ops (fun _ _ _=>False) i K a w):wpOp P ops Q' i K' a w:=by
 unfold wpOp at *
 split
 ·rename_i ho;simp only[ho] at h;exact hk _ _ h
 ·rename_i o ho
  simp only[ho] at h;split
  ·rename_i hw
   simp only[hw,if_true] at h;rcases h with h|⟨_,_,_,hf⟩
   ·exact .inl (Oper.wp_mono hk (Zui h))
   ·exact hf.elim
  ·rename_i hw;simp only[hw] at h;exact hk _ _ h
theorem wpOp_strong{i:Nat}{a:Act}{w:World}{K:Act->World->Prop}{Q':Exit->Act->World->Prop}(hq:∀ e a w,Q' e a w->e = .normal)(h:wpOp P ops Q' i K a w):wpOp P ops (fun _ _ _=>False) i K a w:=by
 have f':¬ LetsOut Q':=fun ⟨a,w,h⟩=>by have:=hq _ _ _ h;cases this
 unfold wpOp at *
 split
 ·rename_i ho;simp only[ho] at h;exact h
 ·rename_i o ho
  simp only[ho] at h;split
  ·rename_i hw
   simp only[hw,if_true] at h;rcases h with h|⟨_,h⟩
   ·left;unfold Oper.wp at *
    generalize (execOp a.eval o).run P w=r at *;cases r with
    | ok n w' =>
     cases n<;>simp only[Oper.upon] at h ⊢ <;>
      first
       | exact h
       | exact cm_ h (fun e w'' he=>by cases e<;>first | exact he | (have:=hq _ _ _ he;cases this) | exact absurd he f')
       | exact Rows.mono h (fun _ _ he=>he)
    | halt x w'=>cases x<;>simp only[Oper.upon] at h<;>first | exact h.elim | (have:=hq _ _ _ h;cases this)
   ·exact absurd h f'
  ·rename_i hw;simp only[hw] at h;exact h
theorem Zlv{s:Nat}{Q:Act->World->Prop}{Q':Exit->Act->World->Prop}(hQ:∀ a w,Q a w->Q' .normal a w):
  ∀ (f:Nat) (listed:Array Bool) (a:Act) (w:World),Qc0 P md ops C s Q f listed a w->wpAny P md ops Q' f listed a w
 | 0,_,_,_,h=>⟨h.1,hQ _ _ h.2⟩
 | f+1,_,_,_,h=>⟨fun h0=>absurd h0 h.1,fun i hi=>Zn2 (fun a' w' h'=>Zlv hQ f _ a' w' h'.2) (h.2 i hi)⟩
structure RInv (md:Region.Mode) (ops:Array Oper) (listed:Array Bool):Prop where
 size:listed.size=ops.size
 closed:∀ j oj,ops[j]?=some oj->listed.getD j false=true->∀ e∈oj.after,Region.binds md e=true->listed.getD e.on false=true
theorem RInv.set{i:Nat}{listed:Array Bool}(inv:RInv md ops listed)(hi:i∈Region.ready md ops listed):RInv md ops (listed.setIfInBounds i true):=by
 obtain⟨_,oi,hoi,GI⟩:=mem_ready.1 hi;refine⟨by simp[inv.size],fun j oj hj hl e he hb=>?_⟩
 by_cases Ij:i=j
 ·subst Ij;have:oj=oi:=Option.some.inj (hj.symm.trans hoi)
  subst this;exact getD_set_true (GI e he hb)
 ·rw[getD_set_ne false Ij] at hl;exact getD_set_true (inv.closed j oj hj hl e he hb)
def reachB (md:Region.Mode) (ops:Array Oper):Nat->Nat->Nat->Bool
 | 0,_,_=>false
 | f+1,s,i=>match ops[s]? with
  | some o=>o.after.any fun e=>Region.binds md e&&(e.on==i||reachB md ops f e.on i)
  | none=>false
theorem reach_listed{listed:Array Bool}(inv:RInv md ops listed):∀ (f s i:Nat),reachB md ops f s i=true->listed.getD s false=true->listed.getD i false=true
 | 0,_,_,h,_=>by cases h
 | f+1,s,i,h,hs=>by
  unfold reachB at h;split at h
  ·rename_i o ho
   obtain⟨e,he,hb⟩:=Array.any_eq_true'.1 h;simp only[Bool.and_eq_true,Bool.or_eq_true,beq_iff_eq] at hb;have hl:=inv.closed s o ho hs e he hb.1;rcases hb.2 with h2|h2
   ·rw[<- h2];exact hl
   ·exact reach_listed inv f e.on i h2 hl
  ·cases h
def Zan (P:Program) (ops:Array Oper) (md:Region.Mode) (C:World->Prop) (s i:Nat) (o:Oper) (v:Value) (a:Act):Prop :=
 (reachB md ops 4 s i=true/\YieldsIn P ops C o v a)\/YieldsIn P ops (fun _=>True) o v a
theorem Zan.of_same{s i:Nat}{o:Oper}{v:Value}{a a':Act}(hy:Zan P ops md C s i o v a)(he:execOp a'.eval o=execOp a.eval o)
  (hw:Region.wanted o (yielded ops a'.tmps)=Region.wanted o (yielded ops a.tmps)):Zan P ops md C s i o v a' :=
 hy.imp (fun ⟨h1,h2⟩=>⟨h1,h2.of_same he hw⟩) (fun h=>h.of_same he hw)
theorem Zqv{s i:Nat}{o:Oper}{v:Value}{a:Act}{w:World}{listed:Array Bool}(hi:ops[i]?=some o)(gm:Zbu o.op=true)(inv:RInv md ops listed)(hr:i∈Region.ready md ops listed)(hs:Zdo C s listed w)
  (hy:Zan P ops md C s i o v a) {K:Act->World->Prop} (hk:K (a.put o.dst v) w):wpOp P ops (fun _ _ _=>False) i K a w:=by
 have Ge:∀ D:World->Prop,D w->YieldsIn P ops D o v a->wpOp P ops (fun _ _ _=>False) i K a w:=fun D hD h=>by
  unfold wpOp;simp only[hi];rcases h with⟨h1,h2⟩|⟨h1,rfl⟩
  ·simp only[h1,if_true];exact .inl (Zif gm (h2 w hD) hk)
  ·simp only[h1,Bool.false_eq_true,if_false];exact hk
 rcases hy with⟨hw,h⟩|h
 ·refine Ge C ?_ h;rcases hs with hs|hs
  ·have:=reach_listed inv 4 s i hw hs
   rw[getD_both (mem_ready.1 hr).1] at this;cases this
  ·exact hs
 ·exact Ge _ trivial h
theorem Zx2{j:Nat}{oi oj:Oper}{v:Value}(hj:ops[j]?=some oj)(DQ:oi.apart ops oj=true)
  (hsi:∀ cs b,oi.op ≠ .select cs b) (hsj:∀ cs b,oj.op ≠ .select cs b) {s i:Nat} {K:Act->World->Prop} {a:Act} {w:World}
  (hy:Zan P ops md C s i oi v a) (h:wpOp P ops (fun _ _ _=>False) j K (a.put oi.dst v) w) :
  wpOp P ops (fun _ _ _=>False) j (fun a' w'=>Zan P ops md C s i oi v a'/\K (a'.put oi.dst v) w') a w:=by
 obtain⟨h1,h2,h3⟩:=Oper.apart_spec DQ;have GG:∀ (a:Act),Zan P ops md C s i oi v a->∀ u,Zan P ops md C s i oi v (a.put oj.dst u):=fun a hy u =>
  hy.of_same (execOp_put oi hsi a oj.dst u h3) (wanted_put oi a oj.dst u h3)
 have Dr:∀ d,Zan P ops md C s i oi v ({ a with defers:=d::a.defers }:Act):=fun d=>hy.of_same rfl rfl
 unfold wpOp at *
 simp only[hj] at *
 rw[wanted_put oj a oi.dst v h1] at h;split
 ·rename_i hw
  simp only[hw,if_true] at h;left;rcases h with h|⟨_,_,_,hf⟩
  ·unfold Oper.wp at *
   rw[execOp_put oj hsj a oi.dst v h1] at h;generalize (execOp a.eval oj).run P w=r at *;cases r with
   | ok n w' =>
    cases n<;>simp only[Oper.upon] at h ⊢
    case value u=>exact⟨GG a hy u,by rw[<- Act.put_comm a v u h2];exact h⟩
    case skip=>exact⟨GG a hy undef,by rw[<- Act.put_comm a v undef h2];exact h⟩
    case defer d =>
     refine⟨GG _ (Dr d) undef,?_⟩;rw[Act.put_defers] at h;rw[<- Act.put_comm _ v undef h2];exact h
    case enter f args =>
     exact cm_ h (fun e w'' he=>by
      cases e
      case returned u=>exact⟨GG a hy u,by rw[<- Act.put_comm a v u h2];exact he⟩
      case panicked c=>exact he
      case outgrown=>obtain⟨_,_,hf⟩:=he;exact hf.elim)
    case row row args=>exact Rows.mono h (fun u w'' he=>⟨GG a hy u,by rw[<- Act.put_comm a v u h2];exact he⟩)
    all_goals exact h
   | halt x w'=>cases x<;>simp only[Oper.upon] at h<;>exact h.elim
  ·exact hf.elim
 ·rename_i hw
  simp only[hw] at h;exact⟨GG a hy _,by rw[<- Act.put_comm a v undef h2];exact h⟩
theorem Zj0{s i:Nat}{oi:Oper}{v:Value}{Q:Act->World->Prop}(hi:ops[i]?=some oi)(his:i≠s)(gm:Zbu oi.op=true)(hsel:∀ (j:Nat) (o:Oper) cs b,ops[j]?=some o->o.op ≠ .select cs b):
  ∀ (f:Nat) (listed:Array Bool) (a:Act) (w:World),RInv md ops listed ->
   (∀ j oj,ops[j]?=some oj->j≠i->listed.getD j true=false->(∀ e∈oj.after,Region.binds md e=true->e.on≠i)->oi.apart ops oj=true) ->
   i∈Region.ready md ops listed->Zan P ops md C s i oi v a->Zdo C s listed w ->
   Qc0 P md ops C s Q f (listed.setIfInBounds i true) (a.put oi.dst v) w->Qc0 P md ops C s Q (f+1) listed a w:=by
 intro f
 induction f with
 | zero =>
  intro listed a w inv _ hr hy hs H;refine⟨fun h=>(by rw[h] at hr;cases hr),fun j hj=>?_⟩
  by_cases GS:j=i
  ·subst GS;exact Zqv hi gm inv hr hs hy ⟨hs.imp (fun h=>getD_set_true h) id,H⟩
  ·have:=ready_mono hj GS
   rw[H.1] at this;cases this
 | succ f ih =>
  intro listed a w inv hfree hr hy hs H;have FN:=(mem_ready.1 hr).1;refine⟨fun h=>(by rw[h] at hr;cases hr),fun j hj=>?_⟩
  by_cases GS:j=i
  ·subst GS;exact Zqv hi gm inv hr hs hy ⟨hs.imp (fun h=>getD_set_true h) id,H⟩
  ·have h1:=H.2 j (ready_mono hj GS);obtain⟨hjun,oj,hoj,GI⟩:=mem_ready.1 hj;have FU:∀ e∈oj.after,Region.binds md e=true->e.on≠i:=fun e he hb heq=>by
    have h1:=GI e he hb;rw[heq,getD_both FN] at h1;cases h1
   have h2:=Zx2 hoj (hfree j oj hoj GS hjun FU) (fun cs b=>hsel i oi cs b hi) (fun cs b=>hsel j oj cs b hoj) hy h1;have Fz:∀ k ok,ops[k]?=some ok->k≠i->(listed.setIfInBounds j true).getD k true=false ->
     (∀ e∈ok.after,Region.binds md e=true->e.on≠i)->oi.apart ops ok=true:=fun k ok hk DG FN CV=>by
    refine hfree k ok hk DG ?_ CV
    by_cases dZ:j=k
    ·subst dZ;exact hjun
    ·rw[getD_set_ne true dZ] at FN;exact FN
   have FT:=ready_mono hr (Ne.symm GS);refine wpOp_mono (fun a' w' h3=>?_) h2;obtain⟨hy',ed,H'⟩:=h3;have G1:Zdo C s (listed.setIfInBounds j true) w':=by
    rcases ed with h|h
    ·rw[Array.setIfInBounds_comm _ _ (Ne.symm GS),getD_set_ne false his] at h;exact .inl h
    ·exact .inr h
   refine⟨G1,ih (listed.setIfInBounds j true) a' w' (inv.set hj) Fz FT hy' G1 ?_⟩;rw[Array.setIfInBounds_comm _ _ GS];exact H'
def ordB (md:Region.Mode) (ops:Array Oper) (s:Nat):List (Nat×Nat)->Array Bool->Bool
 | [],listed=>(Region.ready md ops listed).isEmpty
 | (k,i)::l,listed =>
  (if k=0 then decide (Region.ready md ops listed=[i])
  else (Region.ready md ops listed).contains i&&Region.free md ops listed i&&(match ops[i]? with | some o=>Zbu o.op | none=>false)&&decide (i≠s)&&(k==2||reachB md ops 4 s i)) &&
  ordB md ops s l (listed.setIfInBounds i true)
def walkR (P:Program) (ops:Array Oper) (C:World->Prop) (s:Nat) (Q:Act->World->Prop):List (Nat×Nat)->Bool->Act->World->Prop
 | [],_,a,w=>Q a w
 | (k,i)::l,b,a,w =>
  if k=0 then wpList P ops (fun e a' w'=>e = .normal/\((b||i==s)=true\/C w')/\walkR P ops C s Q l (b||i==s) a' w') (ops[i]?).toList a w
  else if k=2 then wpQuiet P ops (fun _=>True) (fun a'=>walkR P ops C s Q l b a' w) (ops[i]?).toList a
  else wpQuiet P ops C (fun a'=>walkR P ops C s Q l b a' w) (ops[i]?).toList a
theorem qOp_of_list{i:Nat}{o:Oper}{a:Act}{D:World->Prop}{K:Act->Prop}(hi:ops[i]?=some o)(h:wpQuiet P ops D K (ops[i]?).toList a):qOp P ops D i K a:=by
 rw[hi] at h;unfold qOp;simp only[hi];exact h
theorem Zh4{s:Nat}{Q:Act->World->Prop}(hsel:Region.noSelect ops=true):
  ∀ (l:List (Nat×Nat)) (listed:Array Bool) (a:Act) (w:World),RInv md ops listed->Zdo C s listed w->ordB md ops s l listed=true ->
   walkR P ops C s Q l (listed.getD s false) a w->Qc0 P md ops C s Q l.length listed a w
 | [],listed,a,w,_,_,hB,h=>⟨by simpa [ordB] using hB,h⟩
 | (k,i)::l,listed,a,w,inv,hs,hB,h=>by
  simp only[ordB,Bool.and_eq_true] at hB;obtain⟨GN,hB2⟩:=hB
  by_cases hk:k=0
  ·subst hk;simp only[if_true,decide_eq_true_eq] at GN;have hr:i∈Region.ready md ops listed:=by rw[GN];exact List.mem_singleton.2 rfl
   have dI:(listed.setIfInBounds i true).getD s false=(listed.getD s false||i==s):=by
    by_cases his:i=s
    ·subst his;obtain⟨FN,o,ho,_⟩:=mem_ready.1 hr;have gd:i<listed.size:=by rw[inv.size];exact(Array.getElem?_eq_some_iff.1 ho).1
     simp[gd]
    ·rw[getD_set_ne false his];simp[his]
   refine⟨by rw[GN];simp,fun j hj=>?_⟩;rw[GN] at hj;obtain rfl:=List.mem_singleton.1 hj;obtain⟨FN,o,ho,_⟩:=mem_ready.1 hr;simp only[walkR,if_true,ho,Option.toList] at h;have h2:wpOp P ops (fun e a' w'=>e = .normal/\((listed.getD s false||j==s)=true\/C w')/\walkR P ops C s Q l (listed.getD s false||j==s) a' w') j (fun a' w'=>((listed.getD s false||j==s)=true\/C w')/\walkR P ops C s Q l (listed.getD s false||j==s) a' w') a w:=by
    unfold wpOp;simp only[ho];simp only[wpList,true_and] at h;exact h
   have h3:=wpOp_strong (fun e a' w' hq=>hq.1) h2;refine wpOp_mono (fun a' w' h4=>?_) h3;have G1:Zdo C s (listed.setIfInBounds j true) w':=by unfold Zdo;rw[dI];exact h4.1
   exact⟨G1,Zh4 hsel l _ a' w' (inv.set hr) G1 hB2 (by rw[dI];exact h4.2)⟩
  ·rw[if_neg hk] at GN;simp only[Bool.and_eq_true,decide_eq_true_eq,Bool.or_eq_true,beq_iff_eq] at GN;obtain⟨⟨⟨⟨hr,hf⟩,gm⟩,his⟩,hw⟩:=GN;have FT:i∈Region.ready md ops listed:=by simpa using hr
   obtain⟨_,o,ho,_⟩:=mem_ready.1 FT;have DC:Zbu o.op=true:=by rw[ho] at gm;exact gm
   have dI:(listed.setIfInBounds i true).getD s false=listed.getD s false:=getD_set_ne false his;have G1:Zdo C s (listed.setIfInBounds i true) w:=by unfold Zdo;rw[dI];exact hs
   simp only[walkR,if_neg hk] at h;have eY:∃ v,Zan P ops md C s i o v a/\walkR P ops C s Q l (listed.getD s false) (a.put o.dst v) w:=by
    by_cases h2:k=2
    ·rw[if_pos h2] at h;obtain⟨v,hy,hK⟩:=yieldsIn_of_qOp ho (qOp_of_list ho h);exact⟨v,.inr hy,hK⟩
    ·rw[if_neg h2] at h;obtain⟨v,hy,hK⟩:=yieldsIn_of_qOp ho (qOp_of_list ho h);exact⟨v,.inl ⟨hw.resolve_left h2,hy⟩,hK⟩
   obtain⟨v,hy,hK⟩:=eY;exact Zj0 ho his DC (Region.noSelect_spec hsel) l.length listed a w inv (Region.free_spec ho hf) FT hy hs
    (Zh4 hsel l _ _ w (inv.set FT) G1 hB2 (by rw[dI];exact hK))
theorem pick_one:∀ (l:List Oper) (i:Nat),(l.toArray[i]?).toList=(l.drop i).take 1
 | [],i=>by simp
 | o::l,0=>by simp
 | o::l,i+1=>by
  have:=pick_one l i
  simpa using this
theorem walkR_read{s i:Nat}{Q:Act->World->Prop}{l:List (Nat×Nat)}{b:Bool}{a:Act}{w:World}{lo:List Oper}(h:wpQuiet P lo.toArray C (fun a'=>walkR P lo.toArray C s Q l b a' w) ((lo.drop i).take 1) a):walkR P lo.toArray C s Q ((1,i)::l) b a w:=by
 simp only[walkR,pick_one];exact h
theorem walkR_any{s i:Nat}{Q:Act->World->Prop}{l:List (Nat×Nat)}{b:Bool}{a:Act}{w:World}{lo:List Oper}(h:wpQuiet P lo.toArray (fun _=>True) (fun a'=>walkR P lo.toArray C s Q l b a' w) ((lo.drop i).take 1) a):walkR P lo.toArray C s Q ((2,i)::l) b a w:=by
 simp only[walkR,pick_one];exact h
theorem walkR_move{s i:Nat}{Q:Act->World->Prop}{l:List (Nat×Nat)}{b:Bool}{a:Act}{w:World}{lo:List Oper}
  (h:wpList P lo.toArray (fun e a' w'=>e = .normal/\((b||i==s)=true\/C w')/\walkR P lo.toArray C s Q l (b||i==s) a' w') ((lo.drop i).take 1) a w):walkR P lo.toArray C s Q ((0,i)::l) b a w:=by
 simp only[walkR,pick_one];exact h
theorem wp_region_readers{id:Nat}{Q:Exit->Act->World->Prop}{a:Act}{w:World}{l:List Oper}(s:Nat)(ord:List (Nat×Nat))(C:World->Prop)(hm:P.follows .mixedOrders=true)
  (hB:(Region.noSelect l.toArray&&decide (ord.length=l.length)&&ordB .any l.toArray s ord (Array.replicate l.length false))=true)
  (hC:C { w with drawn:=w.drawn+1 }) (h:walkR P l.toArray C s (fun a' w'=>Q .normal a' w') ord false a { w with drawn:=w.drawn+1 }):(Code.region id l.toArray true).wp P Q a w:=by
 simp only[Bool.and_eq_true,decide_eq_true_eq] at hB;obtain⟨⟨hsel,gh⟩,hord⟩:=hB;refine wp_region_any hm ?_;have Ds:RInv .any l.toArray (Array.replicate l.length false):=⟨by simp,fun j oj _ hl=>(by rw[getD_replicate_false] at hl;cases hl)⟩;have H:=Zh4 (md := .any) hsel ord _ a _ Ds (.inr hC) hord (by rw[getD_replicate_false];exact h);have:=Zlv (Q':=Q) (fun a w h=>h) _ _ _ _ H
 rw[gh] at this
 simpa using this
end
section
variable {P:Program} {ops:Array Oper} {md:Region.Mode} {C:World->Prop}
inductive Zdg where
 | nil:Zdg
 | rd:Nat->Nat->Zdg->Zdg
 | mv:Nat->Zdg->Zdg
 | two:Nat->Nat->Zdg->Zdg->Zdg
def Zdg.len:Zdg->Nat
 | .nil=>0
 | .rd _ _ t=>t.len+1
 | .mv _ t=>t.len+1
 | .two _ _ t _=>t.len+1
def Zxw (md:Region.Mode) (ops:Array Oper) (s:Nat):Zdg->Array Bool->Bool
 | .nil,listed=>(Region.ready md ops listed).isEmpty
 | .rd k i t,listed =>
  ((Region.ready md ops listed).contains i&&Region.free md ops listed i&&(match ops[i]? with | some o=>Zbu o.op | none=>false)&&decide (i≠s)&&(k==2||reachB md ops 4 s i)) &&
  Zxw md ops s t (listed.setIfInBounds i true)
 | .mv i t,listed=>decide (Region.ready md ops listed=[i])&&Zxw md ops s t (listed.setIfInBounds i true)
 | .two i j t u,listed=>(decide (Region.ready md ops listed=[i,j])&&decide (t.len=u.len))&&(Zxw md ops s t (listed.setIfInBounds i true)&&Zxw md ops s u (listed.setIfInBounds j true))
def walkT (P:Program) (ops:Array Oper) (C:World->Prop) (s:Nat) (Q:Act->World->Prop):Zdg->Bool->Act->World->Prop
 | .nil,_,a,w=>Q a w
 | .rd k i t,b,a,w=>if k=2 then wpQuiet P ops (fun _=>True) (fun a'=>walkT P ops C s Q t b a' w) (ops[i]?).toList a else wpQuiet P ops C (fun a'=>walkT P ops C s Q t b a' w) (ops[i]?).toList a
 | .mv i t,b,a,w=>wpList P ops (fun e a' w'=>e = .normal/\((b||i==s)=true\/C w')/\walkT P ops C s Q t (b||i==s) a' w') (ops[i]?).toList a w
 | .two i j t u,b,a,w =>
  wpList P ops (fun e a' w'=>e = .normal/\((b||i==s)=true\/C w')/\walkT P ops C s Q t (b||i==s) a' w') (ops[i]?).toList a w /\
  wpList P ops (fun e a' w'=>e = .normal/\((b||j==s)=true\/C w')/\walkT P ops C s Q u (b||j==s) a' w') (ops[j]?).toList a w
theorem Zf9{s i:Nat}{listed:Array Bool}(inv:RInv md ops listed)(hr:i∈Region.ready md ops listed):(listed.setIfInBounds i true).getD s false=(listed.getD s false||i==s):=by
 by_cases his:i=s
 ·subst his;obtain⟨FN,o,ho,_⟩:=mem_ready.1 hr;have gd:i<listed.size:=by rw[inv.size];exact(Array.getElem?_eq_some_iff.1 ho).1
  simp[gd]
 ·rw[getD_set_ne false his];simp[his]
theorem Zn9{s j:Nat}{K:Act->World->Prop}{listed:Array Bool}{a:Act}{w:World}(inv:RInv md ops listed)(hr:j∈Region.ready md ops listed)
  (h:wpList P ops (fun e a' w'=>e = .normal/\((listed.getD s false||j==s)=true\/C w')/\K a' w') (ops[j]?).toList a w) :
  wpOp P ops (fun _ _ _=>False) j (fun a' w'=>Zdo C s (listed.setIfInBounds j true) w'/\K a' w') a w:=by
 obtain⟨FN,o,ho,_⟩:=mem_ready.1 hr;simp only[ho,Option.toList] at h;have h2:wpOp P ops (fun e a' w'=>e = .normal/\((listed.getD s false||j==s)=true\/C w')/\K a' w') j (fun a' w'=>((listed.getD s false||j==s)=true\/C w')/\K a' w') a w:=by
  unfold wpOp;simp only[ho];simp only[wpList,true_and] at h;exact h
 have h3:=wpOp_strong (fun e a' w' hq=>hq.1) h2;refine wpOp_mono (fun a' w' h4=>⟨?_,h4.2⟩) h3;unfold Zdo;rw[Zf9 inv hr];exact h4.1
theorem Zdf{s:Nat}{Q:Act->World->Prop}(hsel:Region.noSelect ops=true):
  ∀ (l:Zdg) (listed:Array Bool) (a:Act) (w:World),RInv md ops listed->Zdo C s listed w->Zxw md ops s l listed=true ->
   walkT P ops C s Q l (listed.getD s false) a w->Qc0 P md ops C s Q l.len listed a w
 | .nil,listed,a,w,_,_,hB,h=>⟨by simpa [Zxw] using hB,h⟩
 | .mv i t,listed,a,w,inv,hs,hB,h=>by
  simp only[Zxw,Bool.and_eq_true,decide_eq_true_eq] at hB;obtain⟨GN,hB2⟩:=hB;have hr:i∈Region.ready md ops listed:=by rw[GN];exact List.mem_singleton.2 rfl
  refine⟨by rw[GN];simp,fun j hj=>?_⟩;rw[GN] at hj;obtain rfl:=List.mem_singleton.1 hj;refine wpOp_mono (fun a' w' h4=>⟨h4.1,Zdf hsel t _ a' w' (inv.set hr) h4.1 hB2 ?_⟩) (Zn9 inv hr h);rw[Zf9 inv hr];exact h4.2
 | .two i k t u,listed,a,w,inv,hs,hB,h=>by
  simp only[Zxw,Bool.and_eq_true,decide_eq_true_eq] at hB;obtain⟨⟨GN,gh⟩,hB2,Ll⟩:=hB;have hr:i∈Region.ready md ops listed:=by rw[GN];simp
  have eN:k∈Region.ready md ops listed:=by rw[GN];simp
  refine⟨by rw[GN];simp,fun j hj=>?_⟩;rw[GN] at hj;simp only[List.mem_cons,List.not_mem_nil,or_false] at hj
  by_cases GS:j=i
  ·subst GS;refine wpOp_mono (fun a' w' h4=>⟨h4.1,Zdf hsel t _ a' w' (inv.set hr) h4.1 hB2 ?_⟩) (Zn9 inv hr h.1);rw[Zf9 inv hr];exact h4.2
  ·have dZ:j=k:=hj.resolve_left GS;subst dZ;have:=wpOp_mono (fun a' w' (h4:Zdo C s (listed.setIfInBounds j true) w'/\walkT P ops C s Q u (listed.getD s false||j==s) a' w')=>(⟨h4.1,Zdf hsel u _ a' w' (inv.set eN) h4.1 Ll (by rw[Zf9 inv eN];exact h4.2)⟩:Zdo C s (listed.setIfInBounds j true) w'/\Qc0 P md ops C s Q u.len (listed.setIfInBounds j true) a' w')) (Zn9 inv eN h.2)
   rw[<- gh] at this;exact this
 | .rd k i t,listed,a,w,inv,hs,hB,h=>by
  simp only[Zxw,Bool.and_eq_true] at hB;obtain⟨GN,hB2⟩:=hB;simp only[decide_eq_true_eq,Bool.or_eq_true,beq_iff_eq] at GN;obtain⟨⟨⟨⟨hr,hf⟩,gm⟩,his⟩,hw⟩:=GN;have FT:i∈Region.ready md ops listed:=by simpa using hr
  obtain⟨_,o,ho,_⟩:=mem_ready.1 FT;have DC:Zbu o.op=true:=by rw[ho] at gm;exact gm
  have dI:(listed.setIfInBounds i true).getD s false=listed.getD s false:=getD_set_ne false his;have G1:Zdo C s (listed.setIfInBounds i true) w:=by unfold Zdo;rw[dI];exact hs
  simp only[walkT] at h;have eY:∃ v,Zan P ops md C s i o v a/\walkT P ops C s Q t (listed.getD s false) (a.put o.dst v) w:=by
   by_cases h2:k=2
   ·rw[if_pos h2] at h;obtain⟨v,hy,hK⟩:=yieldsIn_of_qOp ho (qOp_of_list ho h);exact⟨v,.inr hy,hK⟩
   ·rw[if_neg h2] at h;obtain⟨v,hy,hK⟩:=yieldsIn_of_qOp ho (qOp_of_list ho h);exact⟨v,.inl ⟨hw.resolve_left h2,hy⟩,hK⟩
  obtain⟨v,hy,hK⟩:=eY;exact Zj0 ho his DC (Region.noSelect_spec hsel) t.len listed a w inv (Region.free_spec ho hf) FT hy hs
   (Zdf hsel t _ _ w (inv.set FT) G1 hB2 (by rw[dI];exact hK))
theorem walkT_read{s i:Nat}{Q:Act->World->Prop}{l:Zdg}{b:Bool}{a:Act}{w:World}{lo:List Oper}(h:wpQuiet P lo.toArray C (fun a'=>walkT P lo.toArray C s Q l b a' w) ((lo.drop i).take 1) a):walkT P lo.toArray C s Q (.rd 1 i l) b a w:=by
 simp only[walkT,pick_one];exact h
theorem walkT_move{s i:Nat}{Q:Act->World->Prop}{l:Zdg}{b:Bool}{a:Act}{w:World}{lo:List Oper}
  (h:wpList P lo.toArray (fun e a' w'=>e = .normal/\((b||i==s)=true\/C w')/\walkT P lo.toArray C s Q l (b||i==s) a' w') ((lo.drop i).take 1) a w):walkT P lo.toArray C s Q (.mv i l) b a w:=by
 simp only[walkT,pick_one];exact h
theorem walkT_two{s i j:Nat}{Q:Act->World->Prop}{l m:Zdg}{b:Bool}{a:Act}{w:World}{lo:List Oper}
  (h1:wpList P lo.toArray (fun e a' w'=>e = .normal/\((b||i==s)=true\/C w')/\walkT P lo.toArray C s Q l (b||i==s) a' w') ((lo.drop i).take 1) a w)
  (h2:wpList P lo.toArray (fun e a' w'=>e = .normal/\((b||j==s)=true\/C w')/\walkT P lo.toArray C s Q m (b||j==s) a' w') ((lo.drop j).take 1) a w):walkT P lo.toArray C s Q (.two i j l m) b a w:=by
 simp only[walkT,pick_one];exact⟨h1,h2⟩
theorem wp_region_tree{id:Nat}{Q:Exit->Act->World->Prop}{a:Act}{w:World}{l:List Oper}(s:Nat)(ord:Zdg)(C:World->Prop)(hm:P.follows .mixedOrders=true)
  (hB:(Region.noSelect l.toArray&&decide (ord.len=l.length)&&Zxw .any l.toArray s ord (Array.replicate l.length false))=true)
  (hC:C { w with drawn:=w.drawn+1 }) (h:walkT P l.toArray C s (fun a' w'=>Q .normal a' w') ord false a { w with drawn:=w.drawn+1 }):(Code.region id l.toArray true).wp P Q a w:=by
 simp only[Bool.and_eq_true,decide_eq_true_eq] at hB;obtain⟨⟨hsel,gh⟩,hord⟩:=hB;refine wp_region_any hm ?_;have Ds:RInv .any l.toArray (Array.replicate l.length false):=⟨by simp,fun j oj _ hl=>(by rw[getD_replicate_false] at hl;cases hl)⟩;have H:=Zdf (md := .any) hsel ord _ a _ Ds (.inr hC) hord (by rw[getD_replicate_false];exact h);have:=Zlv (Q':=Q) (fun a w h=>h) _ _ _ _ H
 rw[gh] at this
 simpa using this
end
end Go.Proofs.YtbielfplgbammaaGreatDoor.RP
namespace Go.Proofs.YtbielfplgbammaaGreatDoor
open Go.RowKit
theorem Qfu {lo : List Oper} {i : Nat} {o : Oper} (h : lo[i]? = some o) : (lo.drop i).take 1 = [o] := by
  rw [List.take_one, List.head?_drop, h]; rfl
theorem wr_ {P : Program} {C : World -> Prop} {s i : Nat} {Q : Act -> World -> Prop} {l : List (Nat × Nat)} {b : Bool} {a : Act} {w : World} {lo : List Oper} {o : Oper} (ho : lo[i]? = some o) (h : wpQuiet P lo.toArray C (fun a' => RP.walkR P lo.toArray C s Q l b a' w) [o] a) : RP.walkR P lo.toArray C s Q ((1, i) :: l) b a w := RP.walkR_read (by rw [Qfu ho]; exact h)
theorem wa_ {P : Program} {C : World -> Prop} {s i : Nat} {Q : Act -> World -> Prop} {l : List (Nat × Nat)} {b : Bool} {a : Act} {w : World} {lo : List Oper} {o : Oper} (ho : lo[i]? = some o) (h : wpQuiet P lo.toArray (fun _ => True) (fun a' => RP.walkR P lo.toArray C s Q l b a' w) [o] a) : RP.walkR P lo.toArray C s Q ((2, i) :: l) b a w := RP.walkR_any (by rw [Qfu ho]; exact h)
theorem wm_ {P : Program} {C : World -> Prop} {s i : Nat} {Q : Act -> World -> Prop} {l : List (Nat × Nat)} {b : Bool} {a : Act} {w : World} {lo : List Oper} {o : Oper} (ho : lo[i]? = some o) (h : wpList P lo.toArray (fun e a' w' => e = .normal /\ ((b || i == s) = true \/ C w') /\ RP.walkR P lo.toArray C s Q l (b || i == s) a' w') [o] a w) : RP.walkR P lo.toArray C s Q ((0, i) :: l) b a w := RP.walkR_move (by rw [Qfu ho]; exact h)
theorem wq_ {P : Program} {ops : Array Oper} {C : World -> Prop} {K : Act -> Prop} {a : Act} (h : K a) : wpQuiet P ops C K [] a := wpQuiet_nil h
def Ko (l:List Rat):Nat:=l.foldl (fun d q=>Nat.lcm d q.den) 1
def Kr (D:Nat) (ps:List Int) (l:List Rat):List (Int×Int) :=
 (ps.zip l).filterMap fun x=>if x.2.num=0 then none else some (x.1,x.2.num*((D/x.2.den:Nat):Int))
theorem Zgz(l:List Rat)(k:Nat)(h:k<l.length):Ko (l.take (k+1))=Nat.lcm (Ko (l.take k)) l[k].den:=by
 unfold Ko;rw[List.take_add_one,List.getElem?_eq_getElem h,List.foldl_append];rfl
theorem Zj8(l:List Rat):∀ k,k<=l.length->0<Ko (l.take k)
 | 0,_=>Nat.one_pos
 | k+1,h=>by
  rw[Zgz l k (by omega)];exact Nat.lcm_pos (Zj8 l k (by omega)) l[k].den_pos
theorem Zj9(l:List Rat)(D:Nat)(hs:∀ q∈l,Sm D q):∀ k,k<=l.length->Ko (l.take k)<10^(1+k*D)
 | 0,_=>by show 1<10^(1+0*D);rw[Nat.zero_mul];decide
 | k+1,h=>by
  rw[Zgz l k (by omega)];have h1:=Zj9 l D hs k (by omega);have h2:=(hs _ (List.getElem_mem (show k<l.length by omega))).2;have h3:=Qi h1 h2;have h4:Nat.lcm (Ko (l.take k)) l[k].den<=Ko (l.take k)*l[k].den:=Nat.le_of_dvd (Nat.mul_pos (Zj8 l k (by omega)) l[k].den_pos) (Nat.lcm_dvd_mul _ _);rw[show 1+(k+1)*D=1+k*D+D by rw[Nat.add_mul];omega];omega
theorem Zsp(D:Nat)(ps:List Int)(l:List Rat)(k:Nat)(h1:k<ps.length)(h2:k<l.length):
  Kr D (ps.take (k+1)) (l.take (k+1))=Kr D (ps.take k) (l.take k)++(if l[k].num=0 then [] else [(ps[k],l[k].num*((D/l[k].den:Nat):Int))]):=by
 unfold Kr;have e:∀ n,(ps.take n).zip (l.take n)=(ps.zip l).take n:=fun n=>(List.take_zipWith ..).symm
 rw[e,e,List.take_add_one,List.getElem?_eq_getElem (by rw[List.length_zip];omega),List.filterMap_append];congr 1;rw[List.getElem_zip]
 by_cases h:l[k].num=0
 ·rw[if_pos h]
  show List.filterMap _ [(ps[k],l[k])]=[]
  rw[List.filterMap_cons];rw[if_pos h];rfl
 ·rw[if_neg h]
  show List.filterMap _ [(ps[k],l[k])]=_
  rw[List.filterMap_cons];rw[if_neg h];rfl
theorem Zfp(D:Nat)(ps:List Int)(l:List Rat):(Kr D ps l).length<=l.length:=by
 unfold Kr;refine Nat.le_trans (List.length_filterMap_le _ _) ?_;rw[List.length_zip];omega
def Zd9 (l:List ByteArray):List Value:=l.map Value.string
theorem Zx(l:List ByteArray):(Zd9 l).length=l.length:=by simp[Zd9]
theorem Zn8(l m:List ByteArray):Zd9 (l++m)=Zd9 l++Zd9 m:=by simp[Zd9]
def Zup (v1 v2:Value) (d:Nat):Value := .agg #[v1,v2,.string (dec d)]
def Zqm (v1 v2:Value) (s:ByteArray):Obj := .cells #[v1,v2,.string s] 146
theorem Qck:(Tryz.prog.info? 3).map (fun i=>(i.zero,i.size,i.bytes))=some (some (.int .i64 0),1,8):=by kernel_rfl
theorem elP:Zba Tryz.prog 31 3 (.int .i64 0) 1 8:=⟨Tryz.underlying31,info_parts Qck,rfl,by decide⟩
theorem Qek:(Tryz.prog.info? 38).map (fun i=>(i.zero,i.size,i.bytes))=some (some (.string ⟨#[]⟩),1,16):=by kernel_rfl
theorem Kd{w:World}{g:Nat}{a b c:Value}{t:TypeId}(h:w.heap[g]?=some (.cells #[a,b,c] t (0,0))):
  w.cell? ⟨g,0,none⟩=some a/\w.cell? ⟨g,1,none⟩=some b/\w.cell? ⟨g,2,none⟩=some c/\(∀ j,w.frozen? ⟨g,j,none⟩=false):=by
 refine⟨by rw[cell_of_row w g 0 _ t (0,0) h];rfl,by rw[cell_of_row w g 1 _ t (0,0) h];rfl,by rw[cell_of_row w g 2 _ t (0,0) h];rfl,fun j=>?_⟩;simp[World.frozen?,h]
theorem Zvm{w:World}{base n c:Nat}{e:TypeId}{a:OA_}{xs:List Value}(h:w.ownsRow base e 1 (.slice a n c) n xs):Rd w a xs:=by
 have gh:=h.1
 by_cases hn:0<n
 ·obtain⟨g,cap,hv,h1,h2,h3,h4,h5⟩:=Ye h hn;simp only[Value.slice.injEq] at hv;obtain⟨rfl,-,rfl⟩:=hv;refine .inr ⟨g,0,rfl,h2,fun i v hi=>?_⟩;rw[Nat.zero_add,h4 i (by have:=(List.getElem?_eq_some_iff.1 hi).1;omega)];exact hi
 ·exact .inl (List.eq_nil_of_length_eq_zero (by omega))
def Qaa (w:World) (tl:List (Int×Int)) (D:Nat) (e:Ending) (w':World):Prop :=
 ∃ b1 d1 b2 d2,e = .returned (Zup (.slice b1 tl.length d1) (.slice b2 tl.length d2) D)/\Rd w' b1 (Qw (tl.map Prod.fst))/\Rd w' b2 (Zd9 (tl.map fun x=>itx x.2))/\Bw_ w w'
theorem Zda{w:World}{g:Nat}{cs:Array Value}{t:TypeId}(h:w.heap[g]?=some (.cells cs t (0,0)))(j:Nat)(x:Value):
  (w.setCell ⟨g,j,none⟩ x).heap[g]?=some (.cells (cs.setIfInBounds j x) t (0,0)):=by
 simp[World.setCell,Array.getElem?_modify,h]
theorem Zp{w:World}{g k:Nat}(h:g≠k)(j:Nat)(x:Value):(w.setCell ⟨g,j,none⟩ x).heap[k]?=w.heap[k]?:=by
 simp[World.setCell,Array.getElem?_modify,h]
structure TW (b5 g9:Nat) (v1 v2 v3 x0 x1:Value) (p:Addr) (vp:Value) where
 w:World
 h5:w.heap[b5]?=some (.cells #[v1,v2,v3] 146 (0,0))
 h9:w.heap[g9]?=some (.cells #[x0,x1] 101 (0,0))
 hp:w.cell? p=some vp
section
variable {b5 g9:Nat} {v1 v2 v3 x0 x1:Value} {p:Addr} {vp:Value}
theorem TW.q0(t:TW b5 g9 v1 v2 v3 x0 x1 p vp):t.w.cell? ⟨b5,0,none⟩=some v1:=(Kd t.h5).1
theorem TW.q1(t:TW b5 g9 v1 v2 v3 x0 x1 p vp):t.w.cell? ⟨b5,1,none⟩=some v2:=(Kd t.h5).2.1
theorem TW.q2(t:TW b5 g9 v1 v2 v3 x0 x1 p vp):t.w.cell? ⟨g9,0,none⟩=some x0:=(Ka t.h9).1
end
structure TT (w:World) (s1 s2:Value) (D:Nat) (V1:Value) (n1:Nat) (L1:List Value) (V2:Value) (n2:Nat) (L2:List Value) (wr:World):Prop where
 h4:wr.heap[w.heap.size]?=some (Zqm (.slice none 0 0) (.slice none 0 0) ⟨#[]⟩)
 h5:wr.heap[w.heap.size+1]?=some (Zqm s1 s2 (dec D))
 o1:wr.ownsRow (w.heap.size+2) 3 1 V1 n1 L1
 o2:wr.ownsRow (w.heap.size+2) 38 1 V2 n2 L2
 ap:∀ k,V1.ownBlock=some k->V2.ownBlock≠some k
 bel:Bw_ w wr
 siz:w.heap.size+2<=wr.heap.size
section
variable {w:World} {s1 s2:Value} {D:Nat} {V1:Value} {n1:Nat} {L1:List Value} {V2:Value} {n2:Nat} {L2:List Value} {wr:World}
theorem TT.next{w':World}(h:TT w s1 s2 D V1 n1 L1 V2 n2 L2 wr)(hb:Bw_ wr w'):TT w s1 s2 D V1 n1 L1 V2 n2 L2 w' :=
 ⟨(hb.block _ (Array.getElem?_eq_some_iff.1 h.h4).1).trans h.h4,(hb.block _ (Array.getElem?_eq_some_iff.1 h.h5).1).trans h.h5,Yg h.o1 hb nr_,Yg h.o2 hb nr_,h.ap,h.bel.trans (hb.mono h.bel.size),Nat.le_trans h.siz hb.size⟩
theorem TT.grow1{w':World}(h:TT w s1 s2 D V1 n1 L1 V2 n2 L2 wr){V':Value}{n':Nat}{L':List Value}(own:w'.ownsRow (w.heap.size+2) 3 1 V' n' L')(hg:wr.grownBy w' V1.ownBlock)
  (Ci:V'.ownBlock=V1.ownBlock\/V'.ownBlock=some wr.heap.size):TT w s1 s2 D V' n' L' V2 n2 L2 w':=by
 have Gn:∀ k,k<w.heap.size+2->w'.heap[k]?=wr.heap[k]?:=fun k hk=>hg.block k (by have:=h.siz;omega) (fun e=>by have:=(World.ownsRow.lt h.o1 k e.symm).1;omega)
 refine⟨(Gn _ (by omega)).trans h.h4,(Gn _ (by omega)).trans h.h5,own,?_,?_,?_,Nat.le_trans h.siz hg.size⟩
 ·refine World.ownsRow.kept h.o2 hg ?_;cases hv:V1.ownBlock with
  | none=>cases hv2:V2.ownBlock<;>simp
  | some k=>exact .inr (h.ap k hv)
 ·intro k hk;rcases Ci with e|e
  ·exact h.ap k (by rw[<- e];exact hk)
  ·intro h2;have h3:=(World.ownsRow.lt h.o2 k h2).2;rw[e] at hk;injection hk with hk
   omega
 ·exact h.bel.grown hg (by have:=h.siz;omega) (fun k hk=>by have:=(World.ownsRow.lt h.o1 k hk).1;omega)
theorem TT.grow2{w':World}(h:TT w s1 s2 D V1 n1 L1 V2 n2 L2 wr){V':Value}{n':Nat}{L':List Value}(own:w'.ownsRow (w.heap.size+2) 38 1 V' n' L')(hg:wr.grownBy w' V2.ownBlock)
  (Ci:V'.ownBlock=V2.ownBlock\/V'.ownBlock=some wr.heap.size):TT w s1 s2 D V1 n1 L1 V' n' L' w':=by
 have Gn:∀ k,k<w.heap.size+2->w'.heap[k]?=wr.heap[k]?:=fun k hk=>hg.block k (by have:=h.siz;omega) (fun e=>by have:=(World.ownsRow.lt h.o2 k e.symm).1;omega)
 refine⟨(Gn _ (by omega)).trans h.h4,(Gn _ (by omega)).trans h.h5,?_,own,?_,?_,Nat.le_trans h.siz hg.size⟩
 ·refine World.ownsRow.kept h.o1 hg ?_;cases hv:V2.ownBlock with
  | none=>cases hv2:V1.ownBlock<;>simp
  | some k=>exact .inr (fun h1=>h.ap k h1 hv)
 ·intro k hk;rcases Ci with e|e
  ·rw[e];exact h.ap k hk
  ·rw[e];intro h2;have h3:=(World.ownsRow.lt h.o1 k hk).2;injection h2 with h2
   omega
 ·exact h.bel.grown hg (by have:=h.siz;omega) (fun k hk=>by have:=(World.ownsRow.lt h.o2 k hk).1;omega)
theorem TT.store1(h:TT w s1 s2 D V1 n1 L1 V2 n2 L2 wr)(x:Value):TT w x s2 D V1 n1 L1 V2 n2 L2 (wr.setCell ⟨w.heap.size+1,0,none⟩ x):=by
 refine⟨(Zp (by omega) _ _).trans h.h4,(Zda h.h5 0 x).trans rfl,?_,?_,h.ap,h.bel.setCell (p:=⟨w.heap.size+1,0,none⟩) (by simp) _,by simpa using h.siz⟩
 ·exact ownsRow_setCell_below h.o1 (by show w.heap.size+1<w.heap.size+2;omega) _
 ·exact ownsRow_setCell_below h.o2 (by show w.heap.size+1<w.heap.size+2;omega) _
theorem TT.store2(h:TT w s1 s2 D V1 n1 L1 V2 n2 L2 wr)(x:Value):TT w s1 x D V1 n1 L1 V2 n2 L2 (wr.setCell ⟨w.heap.size+1,1,none⟩ x):=by
 refine⟨(Zp (by omega) _ _).trans h.h4,(Zda h.h5 1 x).trans rfl,?_,?_,h.ap,h.bel.setCell (p:=⟨w.heap.size+1,1,none⟩) (by simp) _,by simpa using h.siz⟩
 ·exact ownsRow_setCell_below h.o1 (by show w.heap.size+1<w.heap.size+2;omega) _
 ·exact ownsRow_setCell_below h.o2 (by show w.heap.size+1<w.heap.size+2;omega) _
end
abbrev TS (w:World) (tl:List (Int×Int)) (D:Nat) (b1:OA_) (d1:Nat) (b2:OA_) (d2:Nat) (wr:World):Prop :=
 TT w (.slice b1 tl.length d1) (.slice b2 tl.length d2) D (.slice b1 tl.length d1) tl.length (Qw (tl.map Prod.fst)) (.slice b2 tl.length d2) tl.length (Zd9 (tl.map fun x=>itx x.2)) wr
theorem Zn5(w:World)(a1 a2:OA_)(c1 c2:Nat)(ps:List Int)(l:List Rat)(D:Nat)(hp:Rd w a1 (Qw ps))(hr:Rd w a2 (Km l))(EB:ps.length=l.length)
  (hs:∀ q∈l,Sm D q) (hl:l.length<=1000) (hD:3+(l.length+2)*D<=900000) (L:Qg w) :
  Calls Tryz.prog 79 #[.slice a1 ps.length c1,.slice a2 l.length c2] w (Qaa w (Kr (Ko l) ps l) (Ko l)):=by
 have HL:=hd_ L;have Hs:=hd_ hs;have Hr:=hd_ hr;have Hp:=hd_ hp;have HD:=hd_ hD;have L9:=hd_ EB;rw[EB];clear hs hr hp L hD EB;generalize hn:l.length=n at *;have Hn:=hd_ hn;clear hn;go_enter Tryz.func79,Tryz.ntmps79;go_wp2_with fail
 go_loopw [16] (fun i wr=>∃ k:Nat,k<=n/\i = .int .i64 k/\Hid (wr.heap[w.heap.size]?=some (Zqm (.slice none 0 0) (.slice none 0 0) ⟨#[]⟩))/\Hid (wr.heap[w.heap.size+1]?=some (Zqm (.slice none 0 0) (.slice none 0 0) (dec (Ko (l.take k)))))/\Hid (Bw_ w wr)) (fun i _=>n-(intOf i).toNat)
 case atStart =>
  refine⟨0,Nat.zero_le _,rfl,?_,?_,?_⟩
  ·show _=_
   rw[Go.heap_alloc_old _ _ (by simp)];exact Go.heap_alloc_new _ _
  ·show _=_
   have:=Go.heap_alloc_new (w.alloc (Obj.cells #[Value.slice none 0 0,Value.slice none 0 0,Value.string { data := #[] }] 146)) (Obj.cells #[Value.slice none 0 0,Value.slice none 0 0,Value.string { data := #[49] }] 146)
   rw[World.size_alloc] at this;rw[this,show Ko (l.take 0)=1 from rfl,Yo];rfl
  ·exact((Below.refl w.heap.size w).alloc nr_ _).alloc (by simp) _
 case round =>
  obtain⟨k,hk,rfl,H4,H5,Hb⟩:=hrel
  by_cases gd:k<n
  ·have gu:(k:Int)<n:=by omega
   have Gl:k<l.length:=by rw[Hn.o];exact gd
   obtain⟨b,off,rfl,hb,hcells⟩:=Hr.o.open (by rw[Kw];omega);obtain⟨c0,c1⟩:=Qx hcells k (by rw[List.length_map];exact Gl);rw[<- Hb.o.cell (p:=⟨b,off+k*2,none⟩) hb,Qu _ k Gl] at c0;rw[<- Hb.o.cell (p:=⟨b,off+k*2+1,none⟩) hb,Qu _ k Gl] at c1;have eh:Hid (Ko (l.take (k+1))=Nat.lcm (Ko (l.take k)) l[k].den):=Zgz l k Gl;have GF:=Hs.o _ (List.getElem_mem Gl);have df:=Zj9 l D Hs.o k (by omega);have jD:k*D<=(n+2)*D:=Nat.mul_le_mul_right _ (by omega);have Ay:=HD.o;have ef:=GF.pos;have av:1*D<=(n+2)*D:=Nat.mul_le_mul_right _ (by omega);have ej:Hid (∀ W,Bw_ w W->Kc Tryz.prog 162 #[.string (dec (Ko (l.take k))),.string (dec l[k].den)] W (.string (dec (Nat.lcm (Ko (l.take k)) l[k].den)))):=fun W hW=>by
    have:=Zy5 W (Ko (l.take k):Int) (l[k].den:Int) (Ku df (by omega) (by omega)) (Ku GF.2 ef (by omega)) (HL.o.below hW)
    rw[Kg,Kg,Int.lcm_natCast_natCast] at this;exact this
   clear hcells GF df jD Ay ef av;generalize l[k]=q at *;generalize Ko (l.take k)=d at *;generalize Nat.lcm d q.den=d2 at *;simp only[qs] at c0 c1;have gC:=hd_ (Hb.o.alloc Hb.o.size (.cells #[.string (itx q.num),.string (dec q.den)] 101));have EW:=hd_ ((Below.refl wr.heap.size wr).alloc nr_ (.cells #[.string (itx q.num),.string (dec q.den)] 101));have gi:Hid ((wr.alloc (.cells #[.string (itx q.num),.string (dec q.den)] 101)).heap[wr.heap.size]?=some (.cells #[.string (itx q.num),.string (dec q.den)] 101 (0,0))):=heap_alloc_new wr _;have IR:=hd_ ((EW.o.block _ (Array.getElem?_eq_some_iff.1 H5.o).1).trans H5.o);have lj:=hd_ ((EW.o.block _ (Array.getElem?_eq_some_iff.1 H4.o).1).trans H4.o);obtain⟨k0,k1,-,-⟩:=Ka gi.o;obtain⟨m0,m1,m2,m3⟩:=Kd IR.o;clear m3;go_wp2_with fail;generalize wr.alloc (.cells #[.string (itx q.num),.string (dec q.den)] 101)=W0 at *;clear c0 c1 k0 k1 m0 m1 m2 gi H4 H5 EW;refine cm_ (ej.o _ gC.o) ?_;rintro e w1 ⟨rfl,HU⟩;have mZ:=hd_ ((HU.block _ (Array.getElem?_eq_some_iff.1 IR.o).1).trans IR.o);have Ny:=hd_ ((HU.block _ (Array.getElem?_eq_some_iff.1 lj.o).1).trans lj.o);have H6:=bt_ gC HU;clear HU ej gC IR lj;obtain⟨m0,m1,m2,m3⟩:=Kd mZ.o;have f2:=m3 2;clear m3;go_wp2
   go_roundw
   case rel =>
    refine⟨k+1,by omega,by go_num,?_,?_,?_⟩
    ·show _=_
     rw[Zp (by omega)];exact Ny.o
    ·show _=_
     rw[Zda mZ.o,eh.o];rfl
    ·exact H6.o.setCell (p:=⟨w.heap.size+1,2,none⟩) (by simp) _
   case measure=>simp[intOf];omega
  ·have gu:¬ (k:Int)<n:=by omega
   have CW:k=n:=by omega
   subst CW;rw[show l.take k=l by rw[<- Hn.o,List.take_length]] at H5;have Bt:Hid (TS w (Kr (Ko l) (ps.take 0) (l.take 0)) (Ko l) none 0 none 0 wr) :=
    ⟨H4.o,H5.o,World.ownsRow_nil ..,World.ownsRow_nil ..,fun k hk=>by simp[Value.ownBlock] at hk,Hb.o,(Array.getElem?_eq_some_iff.1 H5.o).1⟩
   have LP:=hd_ (fun j hj=>Zj9 l D Hs.o j hj);clear H4 H5 Hb;go_wp2_with fail;have j3:=Zj8 l l.length nr_;rw[List.take_length] at j3;have Nn:=hd_ j3;have mz:Hid (Ko l<10^(1+k*D)):=by
    show _<_
    have:=LP.o l.length nr_
    rw[List.take_length,Hn.o] at this;exact this
   clear j3 LP;have nS:=hd_ Bt.o.bel
   go_loopw [29] (fun i wr=>∃ (j:Nat) (b1:OA_) (d1:Nat) (b2:OA_) (d2:Nat),j<=k/\i = .int .i64 j/\Hid (TS w (Kr (Ko l) (ps.take j) (l.take j)) (Ko l) b1 d1 b2 d2 wr)) (fun i _=>k-(intOf i).toNat)
   case atStart=>exact⟨0,none,0,none,0,Nat.zero_le _,rfl,Bt⟩
   case round =>
    obtain⟨j,b1,d1,b2,d2,hj,rfl,fC⟩:=hrel
    by_cases Gf:j<k
    ·have Fx:(j:Int)<k:=by omega
     have dl:j<l.length:=by rw[Hn.o];exact Gf
     have lR:j<ps.length:=by rw[L9.o];exact Gf
     obtain⟨b,off,rfl,hb,hcells⟩:=Hr.o.open (by rw[Kw];omega);obtain⟨c0,c1⟩:=Qx hcells j (by rw[List.length_map];exact dl);rw[<- fC.o.bel.cell (p:=⟨b,off+j*2,none⟩) hb,Qu _ j dl] at c0;rw[<- fC.o.bel.cell (p:=⟨b,off+j*2+1,none⟩) hb,Qu _ j dl] at c1;have eh:=hd_ (Zsp (Ko l) ps l j lR dl);have GF:=Hs.o _ (List.getElem_mem dl);have hq:=Zfb l[j].num;obtain⟨bp,op,rfl,DO,jQ⟩:=Hp.o.open (by rw[Qn];omega);have E2:Hid (w.cell? ⟨bp,op+j,none⟩=some (.int .i64 ps[j])):=jQ j _ (Zaf ps j lR);clear hcells jQ;generalize l[j]=q at *;simp only[qs] at c0 c1;have EW:=hd_ ((Below.refl wr.heap.size wr).alloc nr_ (.cells #[.string (itx q.num),.string (dec q.den)] 101));have gi:Hid ((wr.alloc (.cells #[.string (itx q.num),.string (dec q.den)] 101)).heap[wr.heap.size]?=some (.cells #[.string (itx q.num),.string (dec q.den)] 101 (0,0))):=heap_alloc_new wr _;have D6:=hd_ (fC.o.next EW.o);have Jy:=hd_ (fun k hk=>(World.ownsRow.lt fC.o.o1 k hk).2);have Jw:=hd_ (fun k hk=>(World.ownsRow.lt fC.o.o2 k hk).2);have FD:=hd_ (Zfp (Ko l) (ps.take j) (l.take j));obtain⟨k0,k1,-,-⟩:=Ka gi.o
     by_cases hz:q.num=0
     ·rw[if_pos hz,List.append_nil] at eh;rw[decide_eq_true hz] at hq;clear hz gi EW fC GF;go_wp2
      go_roundw
      case rel=>exact⟨j+1,b1,d1,b2,d2,by omega,by go_num,by rw[eh.o];exact D6⟩
      case measure=>simp[intOf];omega
     ·rw[if_neg hz] at eh;rw[decide_eq_false hz] at hq;clear hz;obtain⟨m0,m1,m2,m3⟩:=Kd D6.o.h5;clear m3;have Ay:=HD.o;have ef:=GF.pos;have jD:(k+2)*D=k*D+2*D:=by rw[Nat.add_mul]
      have DU:10^(1+k*D)<10^(1+k*D+1):=Nat.pow_lt_pow_right (by decide) (by omega);have Db:=mz.o;have fL:Hid (∀ W,Bw_ w W->Kc Tryz.prog 163 #[.string (dec (Ko l)),.string (dec q.den)] W (.tuple #[.string (dec (Ko l/q.den)),.string (itx ((Ko l:Int)%(q.den:Int))),.int .i64 0])):=fun W hW=>by
       have:=Yj W (Ko l:Int) q.den (Ku Db (by omega) (by omega)) (Ku GF.2 ef (by omega)) q.den_pos (Ku (D:=1+k*D+1) (show (Ko l+1)<10^(1+k*D+1) by omega) (by omega) (by omega)) (HL.o.below hW)
       rw[Kg,<- Int.natCast_ediv,Kg] at this;exact this
      have ah:Ko l/q.den<=Ko l:=Nat.div_le_self _ _;have lI:(q.num*((Ko l/q.den:Nat):Int)).natAbs<10^(D+(1+k*D)):=by
       rw[Int.natAbs_mul];exact Qi GF.1 (Nat.lt_of_le_of_lt ah Db)
      have dR:Hid (∀ W,Bw_ w W->Kc Tryz.prog 14 #[.string (itx q.num),.string (dec (Ko l/q.den))] W (.string (itx (q.num*((Ko l/q.den:Nat):Int))))):=fun W hW=>by
       have:=Yv W q.num ((Ko l/q.den:Nat):Int) (Ku GF.1 ef (by omega)) (Ku (Nat.lt_of_le_of_lt ah Db) (by omega) (by omega)) (Ku lI (by omega) (by omega)) (HL.o.below hW)
       rw[Kg] at this;exact this
      clear Ay ef jD DU Db ah lI GF;generalize hfq:q.num*((Ko l/q.den:Nat):Int)=fq at *;have JD:=hd_ hfq;clear hfq;generalize dec (Ko l/q.den)=sq at *;go_wp2_with fail;generalize wr.alloc (.cells #[.string (itx q.num),.string (dec q.den)] 101)=W0 at *;clear c0 c1 k0 k1 m0 m1 m2;refine cm_ (fL.o _ D6.o.bel) ?_;rintro e w1 ⟨rfl,HU⟩;have Es:=hd_ (Kh gi.o HU);have D5:=hd_ (D6.o.next HU);clear HU fL D6 gi EW fC;obtain⟨k0,k1,-,-⟩:=Ka Es.o;obtain⟨m0,m1,m2,m3⟩:=Kd D5.o.h5;have f0:=m3 0;have f1:=m3 1;clear m3;go_wp2_with fail;have IK:Hid (w1.cell? ⟨bp,op+j,none⟩=some (.int .i64 ps[j])):=(D5.o.bel.cell (p:=⟨bp,op+j,none⟩) DO).trans E2.o;generalize ps[j]=pj at *;refine RP.wp_region_readers 17 [(1,0),(1,1),(1,2),(1,3),(1,4),(1,5),(1,8),(1,9),(1,10),(1,11),(2,12),(0,6),(0,7),(2,16),(0,13),(0,14),(0,15),(0,17),(2,18),(0,19)]
       (fun w'=>∃ p:TW (w.heap.size+1) wr.heap.size (.slice b1 (Kr (Ko l) (ps.take j) (l.take j)).length d1) (.slice b2 (Kr (Ko l) (ps.take j) (l.take j)).length d2) (.string (dec (Ko l))) (.string (itx q.num)) (.string (dec q.den)) ⟨bp,op+j,none⟩ (.int .i64 pj),w'=p.w)
       (by kernel_rfl) (by kernel_rfl) ?_ ?_
      ·exact⟨⟨{ w1 with drawn:=w1.drawn+1 },D5.o.h5,Es.o,IK.o⟩,rfl⟩
      have q0:=@TW.q0;have q1:=@TW.q1;have q2:=@TW.q2;have q3:=@TW.hp;have gm:Nonempty (TW (w.heap.size+1) wr.heap.size (.slice b1 (Kr (Ko l) (ps.take j) (l.take j)).length d1) (.slice b2 (Kr (Ko l) (ps.take j) (l.take j)).length d2) (.string (dec (Ko l))) (.string (itx q.num)) (.string (dec q.den)) ⟨bp,op+j,none⟩ (.int .i64 pj)):=⟨⟨w1,D5.o.h5,Es.o,IK.o⟩⟩;iterate 10 (refine wr_ rfl ?_;go_big_quiet_step (fail);refine wq_ ?_)
      refine wa_ rfl ?_
      go_big_quiet_step (fail)
      refine wq_ ?_;clear q0 q1 q2 q3 gm;refine wm_ rfl ?_;go_wp2_with fail;have CF:=hd_ (D5.o.next (w':=(w1.alloc (Obj.cells #[Value.int IntKind.i64 pj] 3)).drew) ((Below.refl w1.heap.size w1).alloc nr_ _).drew);have iD:=hd_ ((((Below.refl w1.heap.size w1).alloc nr_ (Obj.cells #[Value.int IntKind.i64 pj] 3)).drew));have cD:=hd_ (Kh Es.o iD.o);have EX:Hid (∀ jj u,[Value.int IntKind.i64 pj][jj]?=some u->((w1.alloc (Obj.cells #[Value.int IntKind.i64 pj] 3)).drew).cell? ((⟨w1.heap.size,0,none⟩:Addr).add jj)=some u):=fun jj u hj=>cell_one_new w1 _ _ jj u hj
      have fB:wr.heap.size<w1.heap.size:=(Array.getElem?_eq_some_iff.1 Es.o).1;have LT:Hid (w1.heap.size<((w1.alloc (Obj.cells #[Value.int IntKind.i64 pj] 3)).drew).heap.size):=by show _<_;show w1.heap.size<(w1.alloc _).heap.size;simp
      have JM:Hid (((w1.alloc (Obj.cells #[Value.int IntKind.i64 pj] 3)).drew).cell? ⟨bp,op+j,none⟩=some (.int .i64 pj)):=(iD.o.cell (p:=⟨bp,op+j,none⟩) (block_lt_of_cell IK.o)).trans IK.o;generalize (w1.alloc (Obj.cells #[Value.int IntKind.i64 pj] 3)).drew=w3 at *;refine⟨⟨⟨w3,CF.o.h5,cD.o,JM.o⟩,rfl⟩,?_⟩;refine wm_ rfl ?_;obtain⟨iP,hi,eM,F9,fA⟩:=info_parts Qck;refine wpList_append_own_at w3 rfl (.tmp 47) (.tmp 52) 31 rfl (w.heap.size+2) 3 iP (.int .i64 0) 1 8 Tryz.underlying31 hi eM F9 fA rfl (by decide) _ _ _ rfl CF.o.o1 ⟨w1.heap.size,0,none⟩ 1 1 [.int .i64 pj] rfl rfl EX.o (by simp[Value.oneCell']) (by have:=FD.o;rw[List.length_take] at this;unfold maxLen;omega) (by have:=FD.o;rw[List.length_take] at this;omega) CF.o.siz ?_;intro v' w4 own4 hg4 hnil4 hat4;have CE:=hd_ (CF.o.grow1 own4 hg4 hat4);obtain⟨e1,f1c,rfl⟩:=Vk own4;have bu:Hid (w4.heap[wr.heap.size]?=some (.cells #[.string (itx q.num),.string (dec q.den)] 101 (0,0))):=by
       show _=_
       rw[hg4.block _ (Array.getElem?_eq_some_iff.1 cD.o).1 (fun e=>by have:=Jy.o _ e.symm;omega)];exact cD.o
      have JL:Hid (w4.cell? ⟨bp,op+j,none⟩=some (.int .i64 pj)):=(CE.o.bel.cell (p:=⟨bp,op+j,none⟩) DO).trans E2.o;clear own4 hg4 hnil4 hat4;go_wp2_with fail;refine⟨⟨⟨w4,CE.o.h5,bu.o,JL.o⟩,rfl⟩,?_⟩;refine wa_ rfl ?_
      go_big_quiet_step (fail)
      refine wq_ ?_
      -- the factor
      refine wm_ rfl ?_;go_wp2_with fail;refine cm_ (dR.o _ CE.o.bel) ?_;rintro e w5 ⟨rfl,hb5⟩;have Bs:=hd_ (CE.o.next hb5);have bt:=hd_ (Kh bu.o hb5);have JK:Hid (w5.cell? ⟨bp,op+j,none⟩=some (.int .i64 pj)):=(Bs.o.bel.cell (p:=⟨bp,op+j,none⟩) DO).trans E2.o;clear hb5 dR;go_wp2_with fail;refine⟨⟨⟨w5,Bs.o.h5,bt.o,JK.o⟩,rfl⟩,?_⟩;refine wm_ rfl ?_;go_wp2_with fail;have iC:=hd_ ((Below.refl w5.heap.size w5).alloc nr_ (Obj.cells #[Value.string (itx fq)] 38));have D0:=hd_ (Bs.o.next iC.o);have cC:=hd_ (Kh bt.o iC.o);have AZ:Hid (∀ jj u,[Value.string (itx fq)][jj]?=some u->(w5.alloc (Obj.cells #[Value.string (itx fq)] 38)).cell? ((⟨w5.heap.size,0,none⟩:Addr).add jj)=some u):=fun jj u hj=>cell_one_new w5 _ _ jj u hj
      have JJ:Hid ((w5.alloc (Obj.cells #[Value.string (itx fq)] 38)).cell? ⟨bp,op+j,none⟩=some (.int .i64 pj)):=(D0.o.bel.cell (p:=⟨bp,op+j,none⟩) DO).trans E2.o;generalize w5.alloc (Obj.cells #[Value.string (itx fq)] 38)=w6 at *;refine⟨⟨⟨w6,D0.o.h5,cC.o,JJ.o⟩,rfl⟩,?_⟩;refine wm_ rfl ?_;obtain⟨iZ,hiZ,hzZ0,hzZ1,hzZ2⟩:=info_parts Qek;refine wpList_append_own_at w6 rfl (.tmp 55) (.tmp 60) 144 rfl (w.heap.size+2) 38 iZ (.string ⟨#[]⟩) 1 16 Tryz.underlying144 hiZ hzZ0 hzZ1 hzZ2 rfl (by decide) _ _ _ rfl D0.o.o2 ⟨w5.heap.size,0,none⟩ 1 1 [.string (itx fq)] rfl rfl AZ.o (by simp[Value.oneCell']) (by have:=FD.o;rw[List.length_take] at this;unfold maxLen;omega) (by have:=FD.o;rw[List.length_take] at this;omega) D0.o.siz ?_;intro v' w7 own7 hg7 hnil7 hat7;have CD:=hd_ (D0.o.grow2 own7 hg7 hat7);obtain⟨e2,f2c,rfl⟩:=Vk own7;have ic:Hid (w7.heap[wr.heap.size]?=some (.cells #[.string (itx q.num),.string (dec q.den)] 101 (0,0))):=by
       show _=_
       rw[hg7.block _ (Array.getElem?_eq_some_iff.1 cC.o).1 (fun e=>by have:=Jw.o _ e.symm;omega)];exact cC.o
      have JI:Hid (w7.cell? ⟨bp,op+j,none⟩=some (.int .i64 pj)):=(CD.o.bel.cell (p:=⟨bp,op+j,none⟩) DO).trans E2.o;clear own7 hg7 hnil7 hat7;go_wp2_with fail;refine⟨⟨⟨w7,CD.o.h5,ic.o,JI.o⟩,rfl⟩,?_⟩
      -- the stores
      obtain⟨m0,m1,m2,m3⟩:=Kd CD.o.h5;have f0:=m3 0;have f1:=m3 1;clear m3;refine wm_ rfl ?_;go_wp2_with fail;have AO:=hd_ (CD.o.store1 (Value.slice e1 ((Kr (Ko l) (List.take j ps) (List.take j l)).length+1) f1c));clear m0 m1 m2 f0 f1;generalize w7.setCell { block:=w.heap.size+1,off:=0 } (Value.slice e1 ((Kr (Ko l) (List.take j ps) (List.take j l)).length+1) f1c)=w8 at *;refine wa_ rfl ?_
      go_big_quiet_step (fail)
      refine wq_ ?_;obtain⟨m0,m1,m2,m3⟩:=Kd AO.o.h5;have f0:=m3 0;have f1:=m3 1;clear m3;refine wm_ rfl ?_;go_wp2_with fail;have Jg:=hd_ (AO.o.store2 (Value.slice e2 ((Kr (Ko l) (List.take j ps) (List.take j l)).length+1) f2c));clear m0 m1 m2 f0 f1;generalize w8.setCell { block:=w.heap.size+1,off:=1 } (Value.slice e2 ((Kr (Ko l) (List.take j ps) (List.take j l)).length+1) f2c)=w9 at *;simp only[RP.walkR];go_wp2
      go_roundw
      case rel =>
       refine⟨j+1,e1,f1c,e2,f2c,by omega,by go_num,?_⟩
       show TS _ _ _ _ _ _ _ _
       rw[eh.o];unfold TS;simp only[List.map_append,List.length_append,List.length_cons,List.length_nil,Zdx,Zn8,List.map_cons,List.map_nil];exact Jg.o
      case measure=>simp[intOf];omega
    ·have Fx:¬ (j:Int)<k:=by omega
     have dZ:j=k:=by omega
     subst dZ;have C8:Kr (Ko l) (ps.take j) (l.take j)=Kr (Ko l) ps l:=by
      rw[show ps.take j=ps by rw[<- L9.o,List.take_length],show l.take j=l by rw[<- Hn.o,List.take_length]]
     rw[C8] at fC;clear C8 Bt Nn mz nS;obtain⟨m0,m1,m2,m3⟩:=Kd fC.o.h5;clear m3;obtain⟨r0,r1,r2,r3⟩:=Kd fC.o.h4;have f0:=r3 0;have f1:=r3 1;have f2:=r3 2;clear r3;go_wp2_with fail;have DU:=Zda (Zda (Zda fC.o.h4 0 (Value.slice b1 (Kr (Ko l) ps l).length d1)) 1 (Value.slice b2 (Kr (Ko l) ps l).length d2)) 2 (.string (dec (Ko l)));have o1:=Zvm (ownsRow_setCell_below (ownsRow_setCell_below (ownsRow_setCell_below fC.o.o1 (a:=⟨w.heap.size,0,none⟩) (by show w.heap.size<w.heap.size+2;omega) (Value.slice b1 (Kr (Ko l) ps l).length d1)) (a:=⟨w.heap.size,1,none⟩) (by show w.heap.size<w.heap.size+2;omega) (Value.slice b2 (Kr (Ko l) ps l).length d2)) (a:=⟨w.heap.size,2,none⟩) (by show w.heap.size<w.heap.size+2;omega) (.string (dec (Ko l))));have o2:=Zvm (ownsRow_setCell_below (ownsRow_setCell_below (ownsRow_setCell_below fC.o.o2 (a:=⟨w.heap.size,0,none⟩) (by show w.heap.size<w.heap.size+2;omega) (Value.slice b1 (Kr (Ko l) ps l).length d1)) (a:=⟨w.heap.size,1,none⟩) (by show w.heap.size<w.heap.size+2;omega) (Value.slice b2 (Kr (Ko l) ps l).length d2)) (a:=⟨w.heap.size,2,none⟩) (by show w.heap.size<w.heap.size+2;omega) (.string (dec (Ko l))));have Dd:=((fC.o.bel.setCell (p:=⟨w.heap.size,0,none⟩) nr_ (Value.slice b1 (Kr (Ko l) ps l).length d1)).setCell (p:=⟨w.heap.size,1,none⟩) nr_ (Value.slice b2 (Kr (Ko l) ps l).length d2)).setCell (p:=⟨w.heap.size,2,none⟩) nr_ (.string (dec (Ko l)));generalize ((wr.setCell { block:=w.heap.size,off:=0 } (Value.slice b1 (Kr (Ko l) ps l).length d1)).setCell { block:=w.heap.size,off:=1 } (Value.slice b2 (Kr (Ko l) ps l).length d2)).setCell { block:=w.heap.size,off:=2 } (Value.string (dec (Ko l)))=w10 at *;obtain⟨t0,t1,t2,-⟩:=Kd (a:=Value.slice b1 (Kr (Ko l) ps l).length d1) (b:=Value.slice b2 (Kr (Ko l) ps l).length d2) (c := .string (dec (Ko l))) DU;exact bodyPost_ret (v:=Zup (Value.slice b1 (Kr (Ko l) ps l).length d1) (Value.slice b2 (Kr (Ko l) ps l).length d2) (Ko l)) (by simp[Zup,results,Tryz.results79,go_sem,t0,t1,t2]) rfl ⟨b1,d1,b2,d2,rfl,o1,o2,Dd⟩
end Go.Proofs.YtbielfplgbammaaGreatDoor

namespace Go.Proofs.YtbielfplgbammaaGreatDoor
open Go.RowKit Go.Shelf
attribute [local go_sem] Oper.semAt_some
abbrev Kk (b1:OA_) (d1:Nat) (b2:OA_) (d2 m D:Nat):Array Value := #[.slice b1 m d1,.slice b2 m d2,.string (dec D)]
theorem Zxo(w:World)(b1 b2:OA_)(d1 d2 m D:Nat):
  Calls Tryz.prog 231 #[.agg (Kk b1 d1 b2 d2 m D)] w fun e w' =>
   e = .returned (.func (.func 282) #[] #[.pointer (some ⟨w.heap.size,0,none⟩)])/\w'=w.alloc (.cells (Kk b1 d1 b2 d2 m D) 146):=by
 go_enter Tryz.func231,Tryz.ntmps231;go_wp2;go_ret;exact⟨rfl,rfl⟩
abbrev Qgl (tl:List (Int×Int)) (x:{x // x∈tl}):Array Value := #[.int .i64 x.1.1,.string (itx x.1.2)]
def KT (n₀ Bn:Nat) (W W':World):Prop:=Below n₀ W W'/\W'.heap[Bn]?=W.heap[Bn]?
theorem Qgh{n₀ Bn:Nat}{A B C:World}(h:KT n₀ Bn A B)(k:KT n₀ Bn B C):KT n₀ Bn A C:=⟨h.1.trans k.1,k.2.trans h.2⟩
theorem Qgi{n₀ Bn:Nat}{w:World}(hn:n₀<=w.heap.size)(hB:Bn<w.heap.size)(W:World)(l:Nat)(o o':Obj)(hl:w.heap.size<=l)(h:W.heap[l]?=some o)(h1:o.isCells=false)(h2:o.isWalk=false):KT n₀ Bn W (W.putObj l o') :=
 ⟨belowK_b hn W l o o' hl h h1 h2,World.putObj_heap_other (by omega)⟩
theorem Znw(n:Nat)(hn:1<=n)(w00 w:World)(h00:Bw_ w00 w)(Bn:Nat)(b1 b2:OA_)(d1 d2 D:Nat)(tl:List (Int×Int))(hl:tl.length<=1000)
  (hB:w.heap[Bn]?=some (.cells (Kk b1 d1 b2 d2 tl.length D) 146 (0,0))) (dE:Rd w00 b1 (Qw (tl.map Prod.fst))) (eN:Rd w00 b2 (Zd9 (tl.map fun x=>itx x.2))) :
  SeqStopsK Fence.wide n Tryz.prog 282 #[.pointer (some ⟨Bn,0,none⟩)] (Qgl tl) (KT w00.heap.size Bn) (fun xs=>xs=tl.attach) (fun pre=>pre <+: tl.attach) tl.length w:=fun l J Jx W hW hJ hJx hY h0=>by
 have HB:=hd_ ((hW.block _ (Array.getElem?_eq_some_iff.1 hB).1).trans hB);have Jp:=hd_ dE;have Jo:=hd_ eN;have HW:=hd_ (bv_ h00 hW);clear dE eN hB hW h00;refine callsIn_of_wp Tryz.func282 rfl trivial ?_ rfl;simp only[Tryz.ntmps282,List.size_toArray,List.length_cons,List.length_nil,Nat.reduceAdd,Nat.reduceSub,Array.replicate_succ,Array.replicate_zero,List.push_toArray,List.append_toArray,List.nil_append,List.cons_append];obtain⟨m0,m1,m2,m3⟩:=Kd HB.o;clear m3
 gi_wp2
 gi_loopw [8] (fun p wr=>∃ k:Nat,k<=tl.length/\p = .int .i64 k/\J (tl.attach.take k) wr/\Hid (Bw_ w00 wr)/\Hid (wr.heap[Bn]?=some (.cells (Kk b1 d1 b2 d2 tl.length D) 146 (0,0))))
  (fun p wr=>tl.length-(intOf p).toNat)
 case atStart=>exact⟨0,Nat.zero_le _,rfl,h0,HW,HB⟩
 case round =>
  obtain⟨k,hk,rfl,hJk,Hb,HBk⟩:=hrel
  by_cases gd:k<tl.length
  ·have gu:(k:Int)<tl.length:=by omega
   have EF:(0:Int)<=k:=by omega
   obtain⟨g1,o1,rfl,Fn,Ga⟩:=Jp.o.open (by rw[Qn,List.length_map];omega);obtain⟨g2,o2,rfl,hg2,Gp⟩:=Jo.o.open (by rw[Zx,List.length_map];omega);have x1:wr.cell? ⟨g1,o1+k,none⟩=some (.int .i64 (tl[k]).1):=by
    rw[Hb.o.cell (p:=⟨g1,o1+k,none⟩) Fn];refine Ga k _ ?_;rw[Zaf _ k (by rw[List.length_map];exact gd),List.getElem_map]
   have x2:wr.cell? ⟨g2,o2+k,none⟩=some (.string (itx (tl[k]).2)):=by
    rw[Hb.o.cell (p:=⟨g2,o2+k,none⟩) hg2];refine Gp k _ ?_;simp[Zd9,gd]
   obtain⟨m0,m1,m2,m3⟩:=Kd HBk.o;clear m3 Ga Gp;obtain⟨fn,tmps,assign,body,hy,hR⟩:=hY (tl.attach.take k) ⟨tl[k],List.getElem_mem gd⟩ wr hJk (by rw[List.length_take,List.length_attach];omega)
   dsimp only[Qgl] at hy
   have fm:Hid (tl.attach.take k++[⟨tl[k],List.getElem_mem gd⟩]=tl.attach.take (k+1)):=by
    show _=_
    rw[List.take_add_one,List.getElem?_eq_getElem (by rw[List.length_attach];exact gd),List.getElem_attach];rfl
   have e9:(tl.length:Int)<=1000:=by omega
   gi_wp2_with fail
   refine hR.mono ?_;rintro e W3 (⟨rfl,hJ3,hk3⟩|⟨rfl,hJx3⟩)
   ·rw[fm.o] at hJ3;have gk:=hd_ (Hb.o.trans hk3.1);have fg:=hd_ (hk3.2.trans HBk.o);clear hk3 x1 x2 m0 m1 m2 hR hy
    gi_wp2
    go_roundw
    case rel=>exact⟨k+1,by omega,by go_num,hJ3,gk,fg⟩
    case measure=>simp[intOf];omega
   ·rw[fm.o] at hJx3
    gi_wp2
    refine bodyPost_ret (results_none rfl _ _ _) rfl ?_;exact⟨⟨_,rfl⟩,.inr ⟨tl.attach.take (k+1),List.take_prefix _ _,hJx3⟩⟩
  ·have gu:¬ (k:Int)<tl.length:=by omega
   have GI:tl.attach.take k=tl.attach:=List.take_of_length_le (by rw[List.length_attach];omega);rw[GI] at hJk
   gi_wp2
   go_end0
   exact⟨⟨_,rfl⟩,.inl hJk⟩
end Go.Proofs.YtbielfplgbammaaGreatDoor

namespace Go.Proofs.YtbielfplgbammaaGreatDoor
open Go.RowKit
def Qc8 (p N a:Nat):Prop:=2^a<=p^N/\p^N<2^(a+1)
def Ve (unit:Nat) (s:Nat×Nat×Nat):Option (Nat×Nat×Nat) :=
 let low:=s.1*s.1/unit
 let high:=s.2.1*s.2.1/unit+1
 if 2*unit<=low then some (low/2,high/2+1,2*s.2.2+1)
 else if 2*unit<=high then none
 else some (low,high,2*s.2.2)
def Vr (p more:Nat):Nat->Option (Nat×Nat×Nat)
 | 0=>some (p*2^(more-p.log2),p*2^(more-p.log2),p.log2)
 | n+1=>(Vr p more n).bind (Ve (2^more))
structure Zxv (p unit N:Nat) (s:Nat×Nat×Nat):Prop where
 lg:Qc8 p N s.2.2
 lo:s.1*2^s.2.2<=unit*p^N
 hi:unit*p^N<=s.2.1*2^s.2.2
theorem Zpy{p unit N:Nat}{s t:Nat×Nat×Nat}(h0:0<unit)(h:Zxv p unit N s)(hs:Ve unit s=some t):Zxv p unit (2*N) t:=by
 obtain⟨l,h',o⟩:=s;obtain⟨⟨g1,g2⟩,lo,hi⟩:=h;simp only at g1 g2 lo hi;simp only[Ve] at hs;have hP:p^(2*N)=p^N*p^N:=by rw[Nat.two_mul,Nat.pow_add]
 have hO:2^(2*o)=2^o*2^o:=by rw[Nat.two_mul,Nat.pow_add]
 have Aw:2^(2*o+1)=2*(2^o*2^o):=by rw[Nat.pow_succ,hO,Nat.mul_comm]
 have nk:2^(2*o+1+1)=4*(2^o*2^o):=by rw[Nat.pow_succ,Aw];omega
 have hq:=Nat.div_mul_le_self (l*l) unit;have hr:=Nat.lt_div_mul_add (a:=h'*h') h0;generalize hA:l*l/unit=A at *;generalize hB:h'*h'/unit=B at *;rw[Nat.pow_succ] at g2;generalize 2^o=T at *;generalize p^N=P at *
 -- A * (T * T) <= unit * (P * P)
 have e1:A*(T*T)<=unit*(P*P):=by
  have h1:A*unit*(T*T)<=(l*l)*(T*T):=Nat.mul_le_mul_right _ hq;have h2:(l*T)*(l*T)<=(unit*P)*(unit*P):=Nat.mul_le_mul lo lo;have h3:unit*(A*(T*T))<=unit*(unit*(P*P)):=by
   calc unit*(A*(T*T))=A*unit*(T*T):=by ac_rfl
    _<=(l*l)*(T*T):=h1
    _=(l*T)*(l*T):=by ac_rfl
    _<=_:=h2
    _=unit*(unit*(P*P)):=by ac_rfl
  exact Nat.le_of_mul_le_mul_left h3 h0
 have e2:unit*(P*P)<=(B+1)*(T*T):=by
  have h1:h'*h'*(T*T)<=((B+1)*unit)*(T*T):=Nat.mul_le_mul_right _ (by rw[Nat.add_mul,Nat.one_mul];omega);have h2:(unit*P)*(unit*P)<=(h'*T)*(h'*T):=Nat.mul_le_mul hi hi;have h3:unit*(unit*(P*P))<=unit*((B+1)*(T*T)):=by
   calc unit*(unit*(P*P))=(unit*P)*(unit*P):=by ac_rfl
    _<=_:=h2
    _=h'*h'*(T*T):=by ac_rfl
    _<=_:=h1
    _=unit*((B+1)*(T*T)):=by ac_rfl
  exact Nat.le_of_mul_le_mul_left h3 h0
 have e3:T*T<=P*P:=Nat.mul_le_mul g1 g1;have e4:P*P<4*(T*T):=by
  have:=Nat.mul_lt_mul'' g2 g2
  have h4:T*2*(T*2)=4*(T*T):=by
   calc T*2*(T*2)=(2*2)*(T*T):=by ac_rfl
    _=_:=rfl
  omega
 by_cases hl:2*unit<=A
 ·rw[if_pos hl] at hs;cases hs
  have e5:unit*(2*(T*T))<=unit*(P*P):=by
   calc unit*(2*(T*T))=2*unit*(T*T):=by ac_rfl
    _<=A*(T*T):=Nat.mul_le_mul_right _ hl
    _<=_:=e1
  have e6:2*(T*T)<=P*P:=Nat.le_of_mul_le_mul_left e5 h0;refine⟨⟨?_,?_⟩,?_,?_⟩
  ·simp only;rw[Aw,hP];exact e6
  ·simp only;rw[nk,hP];exact e4
  ·simp only;rw[Aw,hP];have h5:A/2*2*(T*T)<=A*(T*T):=Nat.mul_le_mul_right _ (by omega);rw[Nat.mul_assoc] at h5;exact Nat.le_trans h5 e1
  ·simp only;rw[Aw,hP];have h5:(B+1)*(T*T)<=((B+1)/2+1)*2*(T*T):=Nat.mul_le_mul_right _ (by omega);rw[Nat.mul_assoc] at h5;exact Nat.le_trans e2 h5
 ·rw[if_neg hl] at hs
  by_cases hh:2*unit<=B+1
  ·rw[if_pos hh] at hs;cases hs
  ·rw[if_neg hh] at hs;cases hs
   have e7:unit*(P*P)<unit*(2*(T*T)):=by
    have hT:0<T*T:=by
     rcases Nat.eq_zero_or_pos (T*T) with h|h
     ·omega
     ·exact h
    calc unit*(P*P)<=(B+1)*(T*T):=e2
     _<2*unit*(T*T):=Nat.mul_lt_mul_of_pos_right (by omega) hT
     _=unit*(2*(T*T)):=by ac_rfl
   have e8:P*P<2*(T*T):=Nat.lt_of_mul_lt_mul_left e7;refine⟨⟨?_,?_⟩,?_,?_⟩
   ·simp only;rw[hO,hP];exact e3
   ·simp only;rw[Aw,hP];exact e8
   ·simp only;rw[hO,hP];exact e1
   ·simp only;rw[hO,hP];exact e2
theorem Zeq(p more:Nat)(hp:0<p)(hm:p.log2<=more):∀ n s,Vr p more n=some s->Zxv p (2^more) (2^n) s
 | 0,s,h=>by
  simp only[Vr,Option.some.injEq] at h;subst h;refine⟨⟨?_,?_⟩,?_,?_⟩
  ·simp only[Nat.pow_zero,Nat.pow_one];exact Nat.log2_self_le (by omega)
  ·simp only[Nat.pow_zero,Nat.pow_one];exact Nat.lt_log2_self
  all_goals
   simp only[Nat.pow_zero,Nat.pow_one];rw[Nat.mul_assoc,<- Nat.pow_add,Nat.sub_add_cancel hm,Nat.mul_comm];exact Nat.le_refl _
 | n+1,s,h=>by
  simp only[Vr] at h;obtain⟨t,ht,hs⟩:=Option.bind_eq_some_iff.1 h;have:=Zpy (Nat.two_pow_pos more) (Zeq p more hp hm n t ht) hs
  rw[Nat.pow_succ,Nat.mul_comm];exact this
theorem Zyl(H b:Nat)(hb:b<4):(H*4) ||| b=H*4+b:=by
 have:=Nat.shiftLeft_add_eq_or_of_lt (b:=b) (i:=2) hb H
 rw[Nat.shiftLeft_eq] at this;exact this.symm
theorem Zsd(H L:Nat)(hH:H<4611686018427387904)(hL:L<18446744073709551616):bits .or .u64 ((H:Int)*4) ((L:Int)/4611686018427387904)=((H*4+L/4611686018427387904:Nat):Int):=by
 have h:=(bits_nat .u64 64 (by decide) (fun n h0 h1=>by rw[IntKind.wrap_u64];omega) (H*4) (L/4611686018427387904) (by omega) (by omega)).2;rw[Zyl H _ (by omega)] at h
 simpa using h
theorem Zfj(p:Nat)(hp:0<p)(gM:p<=97):Lib.bitLen p=p.log2+1:=by
 have Ge:∀ q,q<98->0<q->Lib.bitLen q=q.log2+1:=by decide +kernel
 exact Ge p (by omega) hp
structure Qff (j:Nat) (s:Nat×Nat×Nat):Prop where
 lo:s.1<9223372036854775808
 hi:s.2.1<9223372036854775808
 o:s.2.2+1<=7*2^j
theorem Zer(p:Nat)(hp:2<=p)(gM:p<=97):∀ j s,Vr p 62 j=some s->Qff j s
 | 0,s,h=>by
  simp only[Vr,Option.some.injEq] at h;subst h;have h1:p<2^(p.log2+1):=Nat.lt_log2_self;have h2:p.log2<=6:=by
   have:=(Nat.log2_lt (n:=p) (k:=7) (by omega)).2 (by omega)
   omega
  have h3:p*2^(62-p.log2)<2^(p.log2+1)*2^(62-p.log2):=Nat.mul_lt_mul_of_pos_right h1 (Nat.two_pow_pos _);rw[<- Nat.pow_add,show p.log2+1+(62-p.log2)=63 by omega] at h3;exact⟨h3,h3,by simp;omega⟩
 | j+1,s,h=>by
  simp only[Vr] at h;obtain⟨t,ht,hs⟩:=Option.bind_eq_some_iff.1 h;obtain⟨f1,f2,f3⟩:=Zer p hp gM j t ht;obtain⟨l,g,o⟩:=t;simp only at f1 f2 f3;simp only[Ve] at hs;have q1:l*l<=9223372036854775807*9223372036854775807:=Nat.mul_le_mul (by omega) (by omega);have q2:g*g<=9223372036854775807*9223372036854775807:=Nat.mul_le_mul (by omega) (by omega);have e:2^(j+1)=2*2^j:=by rw[Nat.pow_succ];omega
  rw[show (2:Nat)^62=4611686018427387904 from rfl] at hs
  by_cases h1:2*4611686018427387904<=l*l/4611686018427387904
  ·rw[if_pos h1] at hs;cases hs
   exact⟨by simp only;omega,by simp only;omega,by simp only;omega⟩
  ·rw[if_neg h1] at hs
   by_cases h2:2*4611686018427387904<=g*g/4611686018427387904+1
   ·rw[if_pos h2] at hs;cases hs
   ·rw[if_neg h2] at hs;cases hs
    exact⟨by simp only;omega,by simp only;omega,by simp only;omega⟩
def Zhn (p:Nat):Value:=match Vr p 62 26 with
 | some s => .tuple #[.int .i64 s.2.2,.bool true]
 | none => .tuple #[.int .i64 0,.bool false]
theorem Zzj(w:World)(p:Nat)(hp:2<=p)(gM:p<=97):Kc Tryz.prog 281 #[.int .i64 p] w (Zhn p):=by
 unfold Kc;have eQ:=hd_ (Tryz.bits_Len p w (by omega) (by omega));rw[show ((p:Nat):Int).toNat=p from rfl,Zfj p (by omega) gM] at eQ;have hk:p.log2<=6:=by
  have:=(Nat.log2_lt (n:=p) (k:=7) (by omega)).2 (by omega)
  omega
 have fH:IntKind.i64.wrap (((p.log2+1:Nat):Int)-1)=(p.log2:Int):=by rw[show ((p.log2+1:Nat):Int)-1=(p.log2:Int) by omega];exact iw_ _ (by omega)
 have fM:IntKind.u64.wrap (p:Int)=p:=IntWalk.u64_in _ (by omega);have dX:IntKind.i64.wrap (62-(p.log2:Int))=((62-p.log2:Nat):Int):=by rw[show 62-(p.log2:Int)=((62-p.log2:Nat):Int) by omega];exact iw_ _ (by omega)
 go_enter Tryz.func281,Tryz.ntmps281;go_wp2_with fail;refine cm_ eQ.o ?_;rintro e w1 ⟨rfl,rfl⟩;have es:IntKind.u64.wrap ((p:Int)*2^(62-p.log2))=((p*2^(62-p.log2):Nat):Int):=by
  have h0:=(Zer p hp gM 0 _ rfl).lo;simp only at h0;rw[show ((p*2^(62-p.log2):Nat):Int)=(p:Int)*2^(62-p.log2) by simp];rw[<- show ((p*2^(62-p.log2):Nat):Int)=(p:Int)*2^(62-p.log2) by simp];exact IntWalk.u64_in _ (by omega)
 have H0:Hid (Vr p 62 0=some (p*2^(62-p.log2),p*2^(62-p.log2),p.log2)):=rfl;have JF:=hd_ (Zer p hp gM);have cE:=hd_ (fun x hx=>Tryz.bits_Mul64 x x hx hx w1);clear eQ;go_wp2_with fail
 go_loopw [5,6,7,21] (fun a b c i wr=>∃ (j lo hi o:Nat),j<=26/\Hid (Vr p 62 j=some (lo,hi,o))/\a = .int .u64 lo/\b = .int .u64 hi/\c = .int .i64 o/\i = .int .i64 j/\wr=w1) (fun _ _ _ i _=>26-(intOf i).toNat)
 case atStart=>exact⟨0,_,_,_,by omega,H0,rfl,rfl,rfl,rfl,rfl⟩
 case round =>
  obtain⟨j,lo,hi,o,hj,Hd,rfl,rfl,rfl,rfl,rfl⟩:=hrel
  by_cases gd:j<26
  ·have gu:(j:Int)<26:=by omega
   obtain⟨f1,f2,f3⟩:=JF.o j _ Hd.o;simp only at f1 f2 f3;have lH:2^j<=2^26:=Nat.pow_le_pow_right (by decide) (by omega);rw[show (2:Nat)^26=67108864 from rfl] at lH;have ho:o<=469762048:=by omega
   have q1:lo*lo<=9223372036854775807*9223372036854775807:=Nat.mul_le_mul (by omega) (by omega);have q2:hi*hi<=9223372036854775807*9223372036854775807:=Nat.mul_le_mul (by omega) (by omega);have Fc:=cE.o lo (by omega);have dY:=cE.o hi (by omega);have Em:Hid (Vr p 62 (j+1)=Ve (2^62) (lo,hi,o)):=by
    show _=_
    simp only[Vr,Hd.o,Option.bind_some]
   have C0:lo*lo/18446744073709551616<4611686018427387904:=by omega
   have fJ:lo*lo%18446744073709551616<18446744073709551616:=Nat.mod_lt _ (by decide);have E':lo*lo/18446744073709551616*4+lo*lo%18446744073709551616/4611686018427387904=lo*lo/4611686018427387904:=by omega
   have Ai:hi*hi/18446744073709551616<4611686018427387904:=by omega
   have fP:hi*hi%18446744073709551616<18446744073709551616:=Nat.mod_lt _ (by decide);have fh:hi*hi/18446744073709551616*4+hi*hi%18446744073709551616/4611686018427387904=hi*hi/4611686018427387904:=by omega
   have HU:=Zsd _ _ C0 fJ;have H7:=Zsd _ _ Ai fP;rw[E'] at HU;rw[fh] at H7;have Av:lo*lo/4611686018427387904<=18446744073709551612:=by omega
   have ak:hi*hi/4611686018427387904<=18446744073709551612:=by omega
   simp only[Ve] at Em;rw[show (2:Nat)^62=4611686018427387904 from rfl] at Em;clear f3 lH E' fh q1 q2;generalize lo*lo/18446744073709551616=H1 at *;generalize lo*lo%18446744073709551616=L1 at *;generalize hi*hi/18446744073709551616=H2 at *;generalize hi*hi%18446744073709551616=L2 at *;generalize lo*lo/4611686018427387904=X1 at *;generalize hi*hi/4611686018427387904=X2 at *;clear f1 f2;obtain⟨x1,E'⟩:∃ x1:Int,(X1:Int)=x1:=⟨_,rfl⟩;obtain⟨x2,fh⟩:∃ x2:Int,(X2:Int)+1=x2:=⟨_,rfl⟩;have jb:IntKind.u64.wrap ((X2:Int)+1)=(X2:Int)+1:=IntWalk.u64_in _ (by omega);have aT:(X2:Int)=x2-1:=by omega
   rw[E'] at HU;rw[aT] at H7 jb;have Mo:IntKind.u64.wrap (x2-1+1)=x2:=by rw[jb];omega
   have Bq:=hd_ E';have bc:=hd_ fh;have Mj:0<=x1/\x1<=18446744073709551612:=by omega
   have Mi:1<=x2/\x2<=18446744073709551613:=by omega
   clear jb E' fh aT;have Mq:IntKind.u64.wrap ((H1:Int)*4)=(H1:Int)*4:=IntWalk.u64_in _ (by omega);have Mp:IntKind.u64.wrap ((H2:Int)*4)=(H2:Int)*4:=IntWalk.u64_in _ (by omega);clear Av ak C0 Ai fJ fP;go_wp2_with fail;refine cm_ Fc ?_;rintro e w2 ⟨rfl,rfl⟩;clear Fc;go_wp2_with fail;refine cm_ dY ?_;rintro e w2 ⟨rfl,rfl⟩;clear dY;go_wp2_with fail
   ·rename_i Ga
    have Gv:Hid (Vr p 62 (j+1)=some (X1/2,(X2+1)/2+1,2*o+1)):=by
     show _=_
     rw[Em.o,if_pos (by have:=Bq.o;omega)]
    go_roundw
    case rel=>exact⟨j+1,X1/2,(X2+1)/2+1,2*o+1,by omega,Gv,by rw[<- Bq.o];go_num,by rw[<- bc.o];go_num,by go_num,by go_num,trivial⟩
    case measure=>simp[intOf];omega
   ·rename_i Ga Gp
    have Gv:Hid (Vr p 62 (j+1)=none):=by
     show _=_
     rw[Em.o,if_neg (by have:=Bq.o;omega),if_pos (by have:=bc.o;omega)]
    have cw:Hid (Zhn p = .tuple #[.int .i64 0,.bool false]):=by
     have Ge:∀ m,Vr p 62 (j+1+m)=none:=fun m=>by
      induction m with
      | zero=>exact Gv.o
      | succ m ih=>rw[<- Nat.add_assoc];show (Vr p 62 (j+1+m)).bind _=none;rw[ih];rfl
     show _=_
     unfold Zhn;have:=Ge (25-j)
     rw[show j+1+(25-j)=26 by omega] at this;rw[this]
    go_ret2
    exact⟨by rw[cw.o];rfl,Below.refl _ _⟩
   ·rename_i Ga Gp
    have Gv:Hid (Vr p 62 (j+1)=some (X1,X2+1,2*o)):=by
     show _=_
     rw[Em.o,if_neg (by have:=Bq.o;omega),if_neg (by have:=bc.o;omega)]
    go_roundw
    case rel=>exact⟨j+1,X1,X2+1,2*o,by omega,Gv,by rw[<- Bq.o],by rw[<- bc.o];go_num,by go_num,by go_num,trivial⟩
    case measure=>simp[intOf];omega
  ·have gu:¬ (j:Int)<26:=by omega
   have jF:j=26:=by omega
   subst jF;have AU:Hid (Zhn p = .tuple #[.int .i64 o,.bool true]):=by
    show _=_
    unfold Zhn;rw[Hd.o]
   go_wp2
   go_ret2
   exact⟨by rw[AU.o];rfl,Below.refl _ _⟩
end Go.Proofs.YtbielfplgbammaaGreatDoor

namespace Go.Proofs.YtbielfplgbammaaGreatDoor
open Go Go.Sort
section
variable {P:Program} {ops:Array Oper} {md:Region.Mode} {cs:List (Nat×(World->Prop))}
def Zbk:Op->Bool
 | .move _ | .assign _ | .load _ _ | .fieldAddr _ _ _ | .indexAddr _ _ _ | .binOp _ _ _ _ _=>true
 | .call c=>match c.callee with
  | .builtin .min | .builtin .max | .builtin .len=>true
  | _=>false
 | _=>false
theorem Zvq{o:Oper}{a:Act}{w w':World}{f:FuncId}{args:Array Value}(ho:Zbk o.op=true)(h:(execOp a.eval o).run P w = .ok (.enter f args) w'):False:=by
 have EU:(∃ x,o.op = .move x)\/(∃ x,o.op = .assign x)\/(∃ t x,o.op = .load t x)\/(∃ t x k,o.op = .fieldAddr t x k)\/(∃ t x y,o.op = .indexAddr t x y)\/(∃ b t x y r,o.op = .binOp b t x y r)\/(∃ c,o.op = .call c):=by
  cases hop:o.op<;>rw[hop] at ho<;>first | (simp[Zbk] at ho;done) | simp
 rcases EU with⟨x,hop⟩|⟨x,hop⟩|⟨t,x,hop⟩|⟨t,x,k,hop⟩|⟨t,x,y,hop⟩|⟨b,t,x,y,r,hop⟩|⟨c,hop⟩
 ·rw[BigFrame.run_move x hop] at h;cases h
 ·rw[BigFrame.run_assign x hop] at h;cases h
 ·unfold execOp at h;rw[hop] at h;exact RP.value_no_enter h
 ·unfold execOp at h;rw[hop] at h;exact RP.value_no_enter h
 ·unfold execOp at h;rw[hop] at h;exact RP.value_no_enter h
 ·unfold execOp at h;rw[hop] at h;exact RP.value_no_enter h
 ·rw[hop] at ho;unfold execOp at h;rw[hop] at h;unfold Zbk at ho;simp only at ho h;unfold resolve at h;cases hc:c.callee with
  | value x=>rw[hc] at ho;cases ho
  | invoke x y=>rw[hc] at ho;cases ho
  | builtin b =>
   rw[hc] at ho h;simp only[Sem.run_bind,Sem.run_pure,Result.andThen_ok,invoke] at h;cases b<;>first | (simp at ho;done) | (unfold builtin at h;exact RP.value_no_enter h)
theorem Zg4{D:World->Prop}{o:Oper}{a:Act}{w:World}{v:Value}(ho:Zbk o.op=true)(h:o.quietAt P a D w v){K:Act->World->Prop}(hk:K (a.put o.dst v) w):o.wp P a w K (fun _ _ _=>False):=by
 unfold Oper.quietAt at h;unfold Oper.wp;have gm:=@Zvq P o a w;generalize (execOp a.eval o).run P w=r at *;cases r with
 | ok n w' =>
  cases n<;>simp only[Oper.quietUpon] at h<;>simp only[Oper.upon]
  case value u=>obtain⟨rfl,rfl⟩:=h;exact hk
  case skip=>obtain⟨rfl,rfl⟩:=h;exact hk
  case enter f args=>exact(gm ho rfl).elim
 | halt x w'=>simp only[Oper.quietUpon] at h
def Yr:List (Nat×(World->Prop))->(Nat->Bool)->World->Prop
 | [],_,_=>True
 | c::cs,b,w=>(b c.1=true\/c.2 w)/\Yr cs b w
theorem Yr.get:∀ {cs:List (Nat×(World->Prop))} {b:Nat->Bool} {w:World},Yr cs b w->∀ c∈cs,b c.1=true\/c.2 w
 | [],_,_,_,c,hc=>by cases hc
 | d::cs,b,w,h,c,hc=>by
  rcases List.mem_cons.1 hc with rfl|hc
  ·exact h.1
  ·exact Yr.get h.2 c hc
theorem Yr.mono:∀ {cs:List (Nat×(World->Prop))} {b b':Nat->Bool} {w:World},(∀ s,b s=true->b' s=true)->Yr cs b w->Yr cs b' w
 | [],_,_,_,_,_=>trivial
 | _::_,_,_,_,hb,h=>⟨h.1.imp (hb _) id,Yr.mono hb h.2⟩
theorem Yr.congr{cs:List (Nat×(World->Prop))}{b b':Nat->Bool}{w:World}(hb:∀ s,b s=b' s)(h:Yr cs b w):Yr cs b' w:=h.mono (fun s hs=>by rw[<- hb s];exact hs)
def upB (listed:Array Bool) (s:Nat):Bool:=listed.getD s false
def Zub (P:Program) (md:Region.Mode) (ops:Array Oper) (cs:List (Nat×(World->Prop))) (Q:Act->World->Prop):Nat->Array Bool->Act->World->Prop
 | 0,listed,a,w=>Region.ready md ops listed=[]/\Q a w
 | f+1,listed,a,w=>Region.ready md ops listed≠[]/\∀ i∈Region.ready md ops listed,
   wpOp P ops (fun _ _ _=>False) i (fun a' w'=>Yr cs (upB (listed.setIfInBounds i true)) w'/\Zub P md ops cs Q f (listed.setIfInBounds i true) a' w') a w
def Zt (P:Program) (ops:Array Oper) (md:Region.Mode) (cs:List (Nat×(World->Prop))) (i:Nat) (o:Oper) (v:Value) (a:Act):Prop :=
 (∃ c∈cs,RP.reachB md ops 4 c.1 i=true/\YieldsIn P ops c.2 o v a)\/YieldsIn P ops (fun _=>True) o v a
theorem Zt.of_same{i:Nat}{o:Oper}{v:Value}{a a':Act}(hy:Zt P ops md cs i o v a)(he:execOp a'.eval o=execOp a.eval o)
  (hw:Region.wanted o (yielded ops a'.tmps)=Region.wanted o (yielded ops a.tmps)):Zt P ops md cs i o v a' :=
 hy.imp (fun ⟨c,hc,h1,h2⟩=>⟨c,hc,h1,h2.of_same he hw⟩) (fun h=>h.of_same he hw)
theorem Zmn{i:Nat}{o:Oper}{v:Value}{a:Act}{w:World}{listed:Array Bool}(hi:ops[i]?=some o)(gm:Zbk o.op=true)(inv:RP.RInv md ops listed)(hr:i∈Region.ready md ops listed)(hs:Yr cs (upB listed) w)
  (hy:Zt P ops md cs i o v a) {K:Act->World->Prop} (hk:K (a.put o.dst v) w):wpOp P ops (fun _ _ _=>False) i K a w:=by
 have Ge:∀ D:World->Prop,D w->YieldsIn P ops D o v a->wpOp P ops (fun _ _ _=>False) i K a w:=fun D hD h=>by
  unfold wpOp;simp only[hi];rcases h with⟨h1,h2⟩|⟨h1,rfl⟩
  ·simp only[h1,if_true];exact .inl (Zg4 gm (h2 w hD) hk)
  ·simp only[h1,Bool.false_eq_true,if_false];exact hk
 rcases hy with⟨c,hc,hw,h⟩|h
 ·refine Ge c.2 ?_ h;rcases hs.get c hc with hs|hs
  ·have:=RP.reach_listed inv 4 c.1 i hw hs
   rw[getD_both (mem_ready.1 hr).1] at this;cases this
  ·exact hs
 ·exact Ge _ trivial h
theorem Zuj{j:Nat}{oi oj:Oper}{v:Value}(hj:ops[j]?=some oj)(DQ:oi.apart ops oj=true)
  (hsi:∀ cs b,oi.op ≠ .select cs b) (hsj:∀ cs b,oj.op ≠ .select cs b) {i:Nat} {K:Act->World->Prop} {a:Act} {w:World}
  (hy:Zt P ops md cs i oi v a) (h:wpOp P ops (fun _ _ _=>False) j K (a.put oi.dst v) w) :
  wpOp P ops (fun _ _ _=>False) j (fun a' w'=>Zt P ops md cs i oi v a'/\K (a'.put oi.dst v) w') a w:=by
 obtain⟨h1,h2,h3⟩:=Oper.apart_spec DQ;have GG:∀ (a:Act),Zt P ops md cs i oi v a->∀ u,Zt P ops md cs i oi v (a.put oj.dst u):=fun a hy u =>
  hy.of_same (execOp_put oi hsi a oj.dst u h3) (wanted_put oi a oj.dst u h3)
 have Dr:∀ d,Zt P ops md cs i oi v ({ a with defers:=d::a.defers }:Act):=fun d=>hy.of_same rfl rfl
 unfold wpOp at *
 simp only[hj] at *
 rw[wanted_put oj a oi.dst v h1] at h;split
 ·rename_i hw
  simp only[hw,if_true] at h;left;rcases h with h|⟨_,_,_,hf⟩
  ·unfold Oper.wp at *
   rw[execOp_put oj hsj a oi.dst v h1] at h;generalize (execOp a.eval oj).run P w=r at *;cases r with
   | ok n w' =>
    cases n<;>simp only[Oper.upon] at h ⊢
    case value u=>exact⟨GG a hy u,by rw[<- Act.put_comm a v u h2];exact h⟩
    case skip=>exact⟨GG a hy undef,by rw[<- Act.put_comm a v undef h2];exact h⟩
    case defer d =>
     refine⟨GG _ (Dr d) undef,?_⟩;rw[Act.put_defers] at h;rw[<- Act.put_comm _ v undef h2];exact h
    case enter f args =>
     exact cm_ h (fun e w'' he=>by
      cases e
      case returned u=>exact⟨GG a hy u,by rw[<- Act.put_comm a v u h2];exact he⟩
      case panicked c=>exact he
      case outgrown=>obtain⟨_,_,hf⟩:=he;exact hf.elim)
    case row row args=>exact Rows.mono h (fun u w'' he=>⟨GG a hy u,by rw[<- Act.put_comm a v u h2];exact he⟩)
    all_goals exact h
   | halt x w'=>cases x<;>simp only[Oper.upon] at h<;>exact h.elim
  ·exact hf.elim
 ·rename_i hw
  simp only[hw] at h;exact⟨GG a hy _,by rw[<- Act.put_comm a v undef h2];exact h⟩
theorem Zqd{i:Nat}{oi:Oper}{v:Value}{Q:Act->World->Prop}(hi:ops[i]?=some oi)(his:∀ c∈cs,i≠c.1)(gm:Zbk oi.op=true)(hsel:∀ (j:Nat) (o:Oper) cs b,ops[j]?=some o->o.op ≠ .select cs b):
  ∀ (f:Nat) (listed:Array Bool) (a:Act) (w:World),RP.RInv md ops listed ->
   (∀ j oj,ops[j]?=some oj->j≠i->listed.getD j true=false->(∀ e∈oj.after,Region.binds md e=true->e.on≠i)->oi.apart ops oj=true) ->
   i∈Region.ready md ops listed->Zt P ops md cs i oi v a->Yr cs (upB listed) w ->
   Zub P md ops cs Q f (listed.setIfInBounds i true) (a.put oi.dst v) w->Zub P md ops cs Q (f+1) listed a w:=by
 have gG:∀ (listed:Array Bool) (w:World),Yr cs (upB listed) w->Yr cs (upB (listed.setIfInBounds i true)) w:=fun listed w h=>h.mono (fun s hs=>getD_set_true hs)
 have Au:∀ (cs':List (Nat×(World->Prop))),(∀ c∈cs',i≠c.1)->∀ (listed:Array Bool) (w:World),Yr cs' (upB (listed.setIfInBounds i true)) w->Yr cs' (upB listed) w:=by
  intro cs'
  induction cs' with
  | nil=>intro _ _ _ _;trivial
  | cons c cs' ih =>
   intro DJ listed w h;refine⟨h.1.imp (fun hb=>?_) id,ih (fun d hd=>DJ d (List.mem_cons_of_mem _ hd)) listed w h.2⟩;unfold upB at hb ⊢;rw[getD_set_ne false (DJ c (List.mem_cons_self ..))] at hb;exact hb
 intro f
 induction f with
 | zero =>
  intro listed a w inv _ hr hy hs H;refine⟨fun h=>(by rw[h] at hr;cases hr),fun j hj=>?_⟩
  by_cases GS:j=i
  ·subst GS;exact Zmn hi gm inv hr hs hy ⟨gG _ _ hs,H⟩
  ·have:=ready_mono hj GS
   rw[H.1] at this;cases this
 | succ f ih =>
  intro listed a w inv hfree hr hy hs H;have FN:=(mem_ready.1 hr).1;refine⟨fun h=>(by rw[h] at hr;cases hr),fun j hj=>?_⟩
  by_cases GS:j=i
  ·subst GS;exact Zmn hi gm inv hr hs hy ⟨gG _ _ hs,H⟩
  ·have h1:=H.2 j (ready_mono hj GS);obtain⟨hjun,oj,hoj,GI⟩:=mem_ready.1 hj;have FU:∀ e∈oj.after,Region.binds md e=true->e.on≠i:=fun e he hb heq=>by
    have h1:=GI e he hb;rw[heq,getD_both FN] at h1;cases h1
   have h2:=Zuj hoj (hfree j oj hoj GS hjun FU) (fun cs b=>hsel i oi cs b hi) (fun cs b=>hsel j oj cs b hoj) hy h1;have Fz:∀ k ok,ops[k]?=some ok->k≠i->(listed.setIfInBounds j true).getD k true=false ->
     (∀ e∈ok.after,Region.binds md e=true->e.on≠i)->oi.apart ops ok=true:=fun k ok hk DG FN CV=>by
    refine hfree k ok hk DG ?_ CV
    by_cases dZ:j=k
    ·subst dZ;exact hjun
    ·rw[getD_set_ne true dZ] at FN;exact FN
   have FT:=ready_mono hr (Ne.symm GS);refine wpOp_mono (fun a' w' h3=>?_) h2;obtain⟨hy',ed,H'⟩:=h3;have G1:Yr cs (upB (listed.setIfInBounds j true)) w':=by
    rw[Array.setIfInBounds_comm _ _ (Ne.symm GS)] at ed;exact Au cs his _ _ ed
   refine⟨G1,ih (listed.setIfInBounds j true) a' w' (inv.set hj) Fz FT hy' G1 ?_⟩;rw[Array.setIfInBounds_comm _ _ GS];exact H'
def Zs9 (md:Region.Mode) (ops:Array Oper) (ss:List Nat):List (Nat×Nat)->Array Bool->Bool
 | [],listed=>(Region.ready md ops listed).isEmpty
 | (k,i)::l,listed =>
  (if k=0 then decide (Region.ready md ops listed=[i])
  else (Region.ready md ops listed).contains i&&Region.free md ops listed i&&(match ops[i]? with | some o=>Zbk o.op | none=>false)&&(ss.all fun s=>decide (i≠s))&&(k==1||RP.reachB md ops 4 (k-2) i)) &&
  Zs9 md ops ss l (listed.setIfInBounds i true)
def Vu (P:Program) (ops:Array Oper) (cs:List (Nat×(World->Prop))) (Q:Act->World->Prop):List (Nat×Nat)->(Nat->Bool)->Act->World->Prop
 | [],_,a,w=>Q a w
 | (k,i)::l,b,a,w =>
  if k=0 then wpList P ops (fun e a' w'=>e = .normal/\Yr cs (fun s=>b s||i==s) w'/\Vu P ops cs Q l (fun s=>b s||i==s) a' w') (ops[i]?).toList a w
  else if k=1 then wpQuiet P ops (fun _=>True) (fun a'=>Vu P ops cs Q l b a' w) (ops[i]?).toList a
  else ∃ c∈cs,c.1=k-2/\wpQuiet P ops c.2 (fun a'=>Vu P ops cs Q l b a' w) (ops[i]?).toList a
theorem Yr.congr_on:∀ {cs:List (Nat×(World->Prop))} {b b':Nat->Bool} {w:World},(∀ c∈cs,b c.1=b' c.1)->Yr cs b w->Yr cs b' w
 | [],_,_,_,_,_=>trivial
 | c::cs,b,b',w,hb,h=>⟨h.1.imp (fun h1=>by rw[<- hb c (List.mem_cons_self ..)];exact h1) id,Yr.congr_on (fun d hd=>hb d (List.mem_cons_of_mem _ hd)) h.2⟩
theorem Zfk{Q:Act->World->Prop}(hsel:Region.noSelect ops=true):
  ∀ (l:List (Nat×Nat)) (b:Nat->Bool) (listed:Array Bool) (a:Act) (w:World),(∀ c∈cs,b c.1=upB listed c.1)->RP.RInv md ops listed->Yr cs (upB listed) w->Zs9 md ops (cs.map Prod.fst) l listed=true ->
   Vu P ops cs Q l b a w->Zub P md ops cs Q l.length listed a w
 | [],b,listed,a,w,_,_,_,hB,h=>⟨by simpa [Zs9] using hB,h⟩
 | (k,i)::l,b,listed,a,w,hb,inv,hs,hB,h=>by
  simp only[Zs9,Bool.and_eq_true] at hB;obtain⟨GN,hB2⟩:=hB
  by_cases hk:k=0
  ·subst hk;simp only[if_true,decide_eq_true_eq] at GN;have hr:i∈Region.ready md ops listed:=by rw[GN];exact List.mem_singleton.2 rfl
   obtain⟨FN,o,ho,_⟩:=mem_ready.1 hr;have gd:i<listed.size:=by rw[inv.size];exact(Array.getElem?_eq_some_iff.1 ho).1
   have dI:∀ c∈cs,(b c.1||i==c.1)=upB (listed.setIfInBounds i true) c.1:=fun c hc=>by
    rw[hb c hc];unfold upB
    by_cases his:i=c.1
    ·rw[his] at gd ⊢;simp[gd]
    ·rw[getD_set_ne false his];simp[his]
   refine⟨by rw[GN];simp,fun j hj=>?_⟩;rw[GN] at hj;obtain rfl:=List.mem_singleton.1 hj;simp only[Vu,if_true,ho,Option.toList] at h;have h2:wpOp P ops (fun e a' w'=>e = .normal/\Yr cs (fun s=>b s||j==s) w'/\Vu P ops cs Q l (fun s=>b s||j==s) a' w') j (fun a' w'=>Yr cs (fun s=>b s||j==s) w'/\Vu P ops cs Q l (fun s=>b s||j==s) a' w') a w:=by
    unfold wpOp;simp only[ho];simp only[wpList,true_and] at h;exact h
   have h3:=RP.wpOp_strong (fun e a' w' hq=>hq.1) h2;refine wpOp_mono (fun a' w' h4=>?_) h3;have G1:Yr cs (upB (listed.setIfInBounds j true)) w':=h4.1.congr_on dI;exact⟨G1,Zfk hsel l _ _ a' w' dI (inv.set hr) G1 hB2 h4.2⟩
  ·rw[if_neg hk] at GN;simp only[Bool.and_eq_true,Bool.or_eq_true,beq_iff_eq,List.all_eq_true,decide_eq_true_eq] at GN;obtain⟨⟨⟨⟨hr,hf⟩,gm⟩,his⟩,hw⟩:=GN;have FT:i∈Region.ready md ops listed:=by simpa using hr
   obtain⟨_,o,ho,_⟩:=mem_ready.1 FT;have DC:Zbk o.op=true:=by rw[ho] at gm;exact gm
   have Ad:∀ c∈cs,i≠c.1:=fun c hc=>his c.1 (List.mem_map.2 ⟨c,hc,rfl⟩)
   have G1:Yr cs (upB (listed.setIfInBounds i true)) w:=hs.mono (fun s hs=>getD_set_true hs);simp only[Vu,if_neg hk] at h;have eY:∃ v,Zt P ops md cs i o v a/\Vu P ops cs Q l b (a.put o.dst v) w:=by
    by_cases h2:k=1
    ·rw[if_pos h2] at h;obtain⟨v,hy,hK⟩:=yieldsIn_of_qOp ho (RP.qOp_of_list ho h);exact⟨v,.inr hy,hK⟩
    ·rw[if_neg h2] at h;obtain⟨c,hc,hck,h⟩:=h;obtain⟨v,hy,hK⟩:=yieldsIn_of_qOp ho (RP.qOp_of_list ho h);exact⟨v,.inl ⟨c,hc,by rw[hck];exact hw.resolve_left h2,hy⟩,hK⟩
   obtain⟨v,hy,hK⟩:=eY;have H7:∀ c∈cs,b c.1=upB (listed.setIfInBounds i true) c.1:=fun c hc=>by
    rw[hb c hc];unfold upB;rw[getD_set_ne false (Ad c hc)]
   exact Zqd ho Ad DC (Region.noSelect_spec hsel) l.length listed a w inv (Region.free_spec ho hf) FT hy hs
    (Zfk hsel l b _ _ w H7 (inv.set FT) G1 hB2 hK)
theorem Qdq{ord:List (Nat×Nat)}{l:List Oper}{a:Act}{w:World}{Q:Act->World->Prop}(hsel:Region.noSelect l.toArray=true)(hord:Zs9 .any l.toArray (cs.map Prod.fst) ord (Array.replicate l.length false)=true)
  (hC:Yr cs (fun _=>false) w) (h:Vu P l.toArray cs Q ord (fun _=>false) a w):Zub P .any l.toArray cs Q ord.length (Array.replicate l.length false) a w:=by
 have hf:∀ s,upB (Array.replicate l.length false) s=false:=fun s=>getD_replicate_false _ _
 refine Zfk hsel ord _ _ a w (fun c _=>(hf c.1).symm) ⟨by simp,fun j oj _ hl=>(by rw[getD_replicate_false] at hl;cases hl)⟩ (hC.congr_on (fun c _=>(hf c.1).symm)) hord h
theorem Zie{i l0 n:Nat}{a:Act}{w:World}{K K':Act->World->Prop}{Q':Exit->Act->World->Prop}(eP:∀ o c,ops[i]?=some o->o.op ≠ .defer c)(_hnr:∀ o c,ops[i]?=some o->o.op ≠ .go c)(hk:∀ a w,K a w->K' a w)
  (h:wpOp P ops (fun _ _ _=>False) i K a w):wpOpIn (Fence.wide.inRound l0) n P ops Q' i K' a w:=by
 unfold wpOp at h;unfold wpOpIn;split
 ·rename_i ho;simp only[ho] at h;exact hk _ _ h
 ·rename_i o ho
  simp only[ho] at h;split
  ·rename_i hw
   simp only[hw,if_true] at h;rcases h with h|⟨_,_,_,hf⟩
   ·refine⟨fun _ _=>trivial,?_⟩;unfold Oper.wp at h;rw[show (Fence.wide.inRound l0).round=some l0 from rfl,Oper.semAt_some l0 _ _ (fun c=>eP o c ho)];generalize (execOp a.eval o).run P w=r at *;cases r with
    | ok x w' =>
     cases x<;>simp only[Oper.upon,Oper.uponIn] at h ⊢
     case value=>exact hk _ _ h
     case skip=>exact hk _ _ h
     case defer=>exact hk _ _ h
     case enter f args =>
      refine⟨fun hd=>(by cases hd),?_⟩;have h2:=Calls.mono h (R':=fun e w''=>match e,w'' with
       | .returned v,w''=>K' (a.put o.dst v) w''
       | .panicked chain,w''=>Q' (.panic chain) a w''
       | .outgrown,_=>LetsOut Q') (fun e w'' he=>by cases e<;>first | exact hk _ _ he | exact he.elim | (obtain⟨_,_,hf⟩:=he;exact hf.elim))
      exact CallsIn.inRound l0 (callsIn_wide.2 h2)
     case row row args=>exact⟨fun hd=>(by cases hd),fun c cs _=>let ⟨v,w',r,s⟩:=h c cs;⟨v,w',hk _ _ r,stepsIn_wide.2 s⟩⟩
    | halt x w'=>cases x<;>simp only[Oper.upon] at h<;>exact h.elim
   ·exact hf.elim
  ·rename_i hw;simp only[hw] at h;exact⟨fun _ _=>trivial,hk _ _ h⟩
def Zks (ops:Array Oper):Bool:=ops.all fun o=>match o.op with | .defer _ | .go _=>false | _=>true
theorem Zef{ops:Array Oper}(h:Zks ops=true){i:Nat}{o:Oper}(hi:ops[i]?=some o):(∀ c,o.op ≠ .defer c)/\(∀ c,o.op ≠ .go c):=by
 have hm:o∈ops:=Array.mem_of_getElem? hi;have:=Array.all_eq_true'.1 h o hm
 refine⟨fun c hc=>?_,fun c hc=>?_⟩<;>rw[hc] at this<;>cases this
theorem Zh5{l0 n:Nat}{Q:Act->World->Prop}{Q':Exit->Act->World->Prop}(EB:Zks ops=true)(hQ:∀ a w,Q a w->Q' .normal a w):
  ∀ (f:Nat) (listed:Array Bool) (a:Act) (w:World),Zub P md ops cs Q f listed a w->wpAnyIn (Fence.wide.inRound l0) n P md ops Q' f listed a w
 | 0,_,_,_,h=>⟨h.1,hQ _ _ h.2⟩
 | f+1,_,_,_,h=>⟨fun h0=>absurd h0 h.1,fun i hi=>Zie (fun _ c ho=>(Zef EB ho).1 c) (fun _ c ho=>(Zef EB ho).2 c) (fun a' w' h'=>Zh5 EB hQ f _ a' w' h'.2) (h.2 i hi)⟩
theorem Qr{id l0 n:Nat}{Q:Exit->Act->World->Prop}{a:Act}{w:World}{l:List Oper}(ord:List (Nat×Nat))(cs:List (Nat×(World->Prop)))(hm:P.follows .mixedOrders=true)
  (hB:(Region.noSelect l.toArray&&decide (ord.length=l.length)&&Zks l.toArray&&Zs9 .any l.toArray (cs.map Prod.fst) ord (Array.replicate l.length false))=true)
  (hC:Yr cs (fun _=>false) { w with drawn:=w.drawn+1 }) (h:Vu P l.toArray cs (fun a' w'=>Q .normal a' w') ord (fun _=>false) a { w with drawn:=w.drawn+1 }):(Code.region id l.toArray true).wpIn (Fence.wide.inRound l0) n P Q a w:=by
 simp only[Bool.and_eq_true,decide_eq_true_eq] at hB;obtain⟨⟨⟨hsel,gh⟩,EB⟩,hord⟩:=hB;refine wpIn_region_any hm ?_;have:=Zh5 (l0:=l0) (n:=n) (Q':=Q) EB (fun a w h=>h) _ _ _ _ (Qdq hsel hord hC h)
 rw[gh] at this
 simpa using this
theorem Qz{s i:Nat}{Q:Act->World->Prop}{l:List (Nat×Nat)}{b:Nat->Bool}{a:Act}{w:World}{lo:List Oper}(c:Nat×(World->Prop))(hc:c∈cs)(hs:c.1=s)(h:wpQuiet P lo.toArray c.2 (fun a'=>Vu P lo.toArray cs Q l b a' w) ((lo.drop i).take 1) a):Vu P lo.toArray cs Q ((s+2,i)::l) b a w:=by
 simp only[Vu,RP.pick_one];rw[if_neg (by omega),if_neg (by omega)];exact⟨c,hc,by omega,h⟩
theorem Vn{i:Nat}{Q:Act->World->Prop}{l:List (Nat×Nat)}{b:Nat->Bool}{a:Act}{w:World}{lo:List Oper}(h:wpQuiet P lo.toArray (fun _=>True) (fun a'=>Vu P lo.toArray cs Q l b a' w) ((lo.drop i).take 1) a):Vu P lo.toArray cs Q ((1,i)::l) b a w:=by
 simp only[Vu,RP.pick_one];exact h
theorem Qa{i:Nat}{Q:Act->World->Prop}{l:List (Nat×Nat)}{b:Nat->Bool}{a:Act}{w:World}{lo:List Oper}
  (h:wpList P lo.toArray (fun e a' w'=>e = .normal/\Yr cs (fun s=>b s||i==s) w'/\Vu P lo.toArray cs Q l (fun s=>b s||i==s) a' w') ((lo.drop i).take 1) a w):Vu P lo.toArray cs Q ((0,i)::l) b a w:=by
 simp only[Vu,RP.pick_one];exact h
end
end Go.Proofs.YtbielfplgbammaaGreatDoor
