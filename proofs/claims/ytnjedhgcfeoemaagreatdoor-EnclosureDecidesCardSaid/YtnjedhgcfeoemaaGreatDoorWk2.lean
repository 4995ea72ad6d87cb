/- Lemmas for the laws of this seat, part 2. -/
import Derived.StillTail
import Derived.Lib.QuietBelow
import Derived.Test.YtnjedhgcfeoemaaGreatDoorRows
import Derived.Stop.LaidErr
import Derived.Lib.LaidTab
import Derived.ProofKit
import Derived.LaidMore
import Derived.OpenShut
import Derived.Stop.Joined
import Derived.MakeChecks
import Derived.BigQuiet
import Derived.Maps.AppendAt
import Derived.RangeFuncNested
import Derived.RangeFuncBound
import Derived.RangeFuncCalls
import Derived.RangeFuncLeaves
import Derived.Shelf.Abstract
import Derived.Shelf.RegionOpen
import Derived.OwnWalkIn
import Derived.TacticsInMore
import Derived.LoopNIn
import Derived.LoopIn
import Derived.Laws.BitsLemmas
import Derived.Laws.Bits64
import Derived.OrdersIn
import Derived.Test.YtnjedhgcfeoemaaGreatDoorWk1
set_option maxRecDepth 100000
set_option maxHeartbeats 16000000
namespace Go.Proofs.YtnjedhgcfeoemaaGreatDoor
open Go.RowKit
def Zed (a b:Int):Int:=if a<b then -1 else if a=b then 0 else 1
theorem Zzt(a b:Int)(ha:a<0)(hb:b<0):Za5 b.natAbs a.natAbs=Zed a b:=by
 unfold Za5 Zed
 by_cases h1:a<b
 ·rw[if_pos h1,if_pos (by omega)]
 ·rw[if_neg h1,if_neg (by omega)]
  by_cases h2:a=b
  ·rw[if_pos h2,if_pos (by omega)]
  ·rw[if_neg h2,if_neg (by omega)]
theorem Zzs(a b:Int)(ha:0≤a)(hb:0≤b):Za5 a.natAbs b.natAbs=Zed a b:=by
 unfold Za5 Zed
 by_cases h1:a<b
 ·rw[if_pos h1,if_pos (by omega)]
 ·rw[if_neg h1,if_neg (by omega)]
  by_cases h2:a=b
  ·rw[if_pos h2,if_pos (by omega)]
  ·rw[if_neg h2,if_neg (by omega)]
theorem Vx(a:Int):(a<0∧a.sign = -1)∨(a=0∧a.sign=0)∨(0<a∧a.sign=1):=by
 rcases Int.lt_trichotomy a 0 with h|h|h
 ·exact .inl ⟨h,Int.sign_eq_neg_one_of_neg h⟩
 ·subst h;exact .inr (.inl ⟨rfl,rfl⟩)
 ·exact .inr (.inr ⟨h,Int.sign_eq_one_of_pos h⟩)
theorem Zkt(a b:Int)(h:a.sign<b.sign):a<b:=by
 rcases Vx a with⟨h1,e1⟩|⟨h1,e1⟩|⟨h1,e1⟩<;>rcases Vx b with⟨h2,e2⟩|⟨h2,e2⟩|⟨h2,e2⟩<;>omega
theorem Zsf(a b:Int)(h:a.sign=b.sign):(a<0∧b<0)∨(0≤a∧0≤b):=by
 rcases Vx a with⟨h1,e1⟩|⟨h1,e1⟩|⟨h1,e1⟩<;>rcases Vx b with⟨h2,e2⟩|⟨h2,e2⟩|⟨h2,e2⟩<;>omega
theorem Zcu(w:World)(a b:Int)(ha:Zbg a)(hb:Zbg b):
  Kc Tryz.prog 114 #[.string (itx a),.string (itx b)] w (.int .i64 (Zed a b)):=by
 unfold Kc;have AE:=hd_ (fun W=>Yk W a)
 have By:=hd_ (fun W=>Yk W b)
 have Gs:=hd_ (fun W=>Vv W a)
 have Gx:=hd_ (fun W=>Vv W b)
 have Bc:(dec a.natAbs).size≤10000000:=Nat.le_trans ha (by decide)
 have G':(dec b.natAbs).size≤10000000:=Nat.le_trans hb (by decide)
 rcases Int.lt_trichotomy a.sign b.sign with hs|hs|hs
 ·have Hv:Hid (Zed a b = -1):=by
   show _=_
   unfold Zed;rw[if_pos (Zkt a b hs)]
  have gq:(a.sign != b.sign)=true:=by rw[bne_iff_ne];omega
  rw[Hv.out];clear Gs Gx;generalize a.sign=x at *
  generalize b.sign=y at *
  generalize itx a=s at *
  generalize itx b=t at *
  go_enter Tryz.func114,Tryz.ntmps114
  go_wp2_with fail
  refine cm_ (AE.out w) ?_;rintro e w1 ⟨rfl,hZ⟩;have HQ:=hd_ hZ;clear hZ
  go_wp2_with fail
  refine cm_ (By.out w1) ?_;rintro e w2 ⟨rfl,HU⟩;have H6:=hd_ (HQ.out.trans (HU.mono HQ.out.size));clear HU HQ;go_wp2;go_ret;exact⟨rfl,H6.out⟩
 ·rcases Zsf a b hs with⟨h1,h2⟩ | ⟨h1,h2⟩
  ·have GY:=hd_ (fun W=>Zbe W b.natAbs a.natAbs G' Bc)
   rw[Zzt a b h1 h2] at GY;rw[decide_eq_true h1] at Gs;have gq:(b.sign != b.sign)=false:=by simp
   rw[hs] at AE;clear hs h1 h2 Bc G';generalize Zed a b=c at *
   generalize b.sign=y at *
   generalize itx a=s at *
   generalize itx b=t at *
   generalize dec a.natAbs=sm at *
   generalize dec b.natAbs=tm at *
   go_enter Tryz.func114,Tryz.ntmps114
   go_wp2_with fail
   refine cm_ (AE.out w) ?_;rintro e w1 ⟨rfl,hZ⟩;have HQ:=hd_ hZ;clear hZ
   go_wp2_with fail
   refine cm_ (By.out w1) ?_;rintro e w2 ⟨rfl,HU⟩;have H6:=hd_ (HQ.out.trans (HU.mono HQ.out.size));clear HU HQ
   go_wp2_with fail
   refine cm_ (Gs.out w2) ?_;rintro e w3 ⟨rfl,hb3⟩;have gd:=hd_ (H6.out.trans (hb3.mono H6.out.size));clear hb3 H6
   go_wp2_with fail
   refine cm_ (Gx.out w3) ?_;rintro e w4 ⟨rfl,gw⟩;have gl:=hd_ (gd.out.trans (gw.mono gd.out.size));clear gw gd
   go_wp2_with fail
   refine cm_ (GY.out w4) ?_;rintro e w5 ⟨rfl,hb5⟩;have gt:=hd_ (gl.out.trans (hb5.mono gl.out.size));clear hb5 gl;go_wp2;go_ret;exact⟨rfl,gt.out⟩
  ·have GY:=hd_ (fun W=>Zbe W a.natAbs b.natAbs Bc G')
   rw[Zzs a b h1 h2] at GY;rw[decide_eq_false (show ¬ a<0 by omega)] at Gs
   have gq:(b.sign != b.sign)=false:=by simp
   rw[hs] at AE;clear hs h1 h2 Bc G';generalize Zed a b=c at *
   generalize b.sign=y at *
   generalize itx a=s at *
   generalize itx b=t at *
   generalize dec a.natAbs=sm at *
   generalize dec b.natAbs=tm at *
   go_enter Tryz.func114,Tryz.ntmps114
   go_wp2_with fail
   refine cm_ (AE.out w) ?_;rintro e w1 ⟨rfl,hZ⟩;have HQ:=hd_ hZ;clear hZ
   go_wp2_with fail
   refine cm_ (By.out w1) ?_;rintro e w2 ⟨rfl,HU⟩;have H6:=hd_ (HQ.out.trans (HU.mono HQ.out.size));clear HU HQ
   go_wp2_with fail
   refine cm_ (Gs.out w2) ?_;rintro e w3 ⟨rfl,hb3⟩;have gd:=hd_ (H6.out.trans (hb3.mono H6.out.size));clear hb3 H6
   go_wp2_with fail
   refine cm_ (Gx.out w3) ?_;rintro e w4 ⟨rfl,gw⟩;have gl:=hd_ (gd.out.trans (gw.mono gd.out.size));clear gw gd
   go_wp2_with fail
   refine cm_ (GY.out w4) ?_;rintro e w5 ⟨rfl,hb5⟩;have gt:=hd_ (gl.out.trans (hb5.mono gl.out.size));clear hb5 gl;go_wp2;go_ret;exact⟨rfl,gt.out⟩
 ·have Hv:Hid (Zed a b=1):=by
   show _=_
   have:=Zkt b a hs
   unfold Zed;rw[if_neg (by omega),if_neg (by omega)]
  have gq:(a.sign != b.sign)=true:=by rw[bne_iff_ne];omega
  rw[Hv.out];clear Gs Gx;generalize a.sign=x at *
  generalize b.sign=y at *
  generalize itx a=s at *
  generalize itx b=t at *
  go_enter Tryz.func114,Tryz.ntmps114
  go_wp2_with fail
  refine cm_ (AE.out w) ?_;rintro e w1 ⟨rfl,hZ⟩;have HQ:=hd_ hZ;clear hZ
  go_wp2_with fail
  refine cm_ (By.out w1) ?_;rintro e w2 ⟨rfl,HU⟩;have H6:=hd_ (HQ.out.trans (HU.mono HQ.out.size));clear HU HQ;go_wp2;go_ret;exact⟨rfl,H6.out⟩
theorem Zjz(n b:Nat):(n:Int)/(b:Int)=((n/b:Nat):Int)∧(n:Int)%(b:Int)=((n%b:Nat):Int):=⟨rfl,rfl⟩
theorem Zbn(n b:Nat)(hb:0<b)(h:n%b=0): -(n:Int)/(b:Int) = -((n/b:Nat):Int) ∧ -(n:Int)%(b:Int)=0:=by
 rw[Int.ediv_emod_unique (by omega)]
 have h1:=Nat.div_add_mod n b;rw[h] at h1;have h2:((b*(n/b)+0:Nat):Int)=(n:Int):=congrArg Nat.cast h1;rw[Nat.add_zero,Int.natCast_mul] at h2;refine⟨?_,by omega,by omega⟩
 rw[Int.mul_neg,h2];omega
theorem Zcc(n b:Nat)(hb:0<b)(h:n%b≠0): -(n:Int)/(b:Int) = -((n/b:Nat):Int)-1 ∧ -(n:Int)%(b:Int)=(b:Int)-((n%b:Nat):Int):=by
 rw[Int.ediv_emod_unique (by omega)]
 have h1:=Nat.div_add_mod n b;have h3:=Nat.mod_lt n hb;have h2:((b*(n/b)+n%b:Nat):Int)=(n:Int):=congrArg Nat.cast h1;rw[Int.natCast_add,Int.natCast_mul] at h2;refine⟨?_,by omega,by omega⟩
 rw[Int.mul_sub,Int.mul_neg,Int.mul_one];omega
theorem Yg(w:World)(a:Int)(b:Nat)(ha:Zbg a)(hb:Num b)(g7:0<b)(FT:Num (a.natAbs+1))(L:Qd w):
  Kc Tryz.prog 163 #[.string (itx a),.string (dec b)] w (.tuple #[.string (itx (a/(b:Int))),.string (itx (a%(b:Int))),.int .i64 0]):=by
 unfold Kc;have hz:=Ze b;rw[decide_eq_false (show ¬ b=0 by omega)] at hz
 have gC:=hd_ (fun W=>Zx W a ha 18 (by decide))
 have gG:=hd_ (fun W=>Zdi W b hb 18 (by decide))
 have HL:=hd_ L;have Gs:=hd_ (fun W=>Vv W a)
 have Gx:Hid (∀ W,Kc Tryz.prog 68 #[.string (dec b)] W (.tuple #[.bool false,.string (dec b)])):=fun W=>by
  have:=Vv W (b:Int)
  rw[Kj,decide_eq_false (show ¬ (b:Int)<0 by omega)] at this
  exact this
 have fR:Hid (∀ W,Below w.heap.size w W→Kc Tryz.prog 208 #[.string (dec a.natAbs),.string (dec b)] W (.tuple #[.string (dec (a.natAbs/b)),.string (dec (a.natAbs%b)),.int .i64 0])):=fun W hW=>by
  have:=Zey W a.natAbs b ha hb (HL.out.below hW)
  rw[if_neg (show ¬ b=0 by omega)] at this
  exact this
 have jP:∀ (P:Prop),((∀ W,Kc Tryz.prog 72 #[.string (itx a),.int .i64 18] W (.tuple #[.int .i64 0,.bool false]))→P)→(((itx a).size≤18∧¬ (dec b).size≤18)→P)→(((itx a).size≤18∧(dec b).size≤18)→P)→P:=fun P h1 h2 h3=>by
  by_cases q1:(itx a).size≤18
  ·by_cases q2:(dec b).size≤18
   ·exact h3 ⟨q1,q2⟩
   ·exact h2 ⟨q1,q2⟩
  ·rw[if_neg q1] at gC;exact h1 gC.out
 clear L;refine jP _ (fun Fm=>?_) (fun hl=>?_) (fun hl=>?_)
 ·have Hl:=hd_ Fm;clear Fm gC gG jP
  by_cases hn:a<0
  ·rw[decide_eq_true hn] at Gs;obtain⟨n,rfl⟩:∃ n:Nat,a = -(n:Int):=⟨a.natAbs,by omega⟩
   have hN:Num n:=by
    have h:Num (-(n:Int)).natAbs:=ha;rw[show (-(n:Int)).natAbs=n by omega] at h
    exact h
   rw[show (-(n:Int)).natAbs=n by omega] at *
   by_cases hr:n%b=0
   ·obtain⟨e1,e2⟩:=Zbn n b g7 hr;rw[e1,e2];have bc:=Ze (n%b);rw[decide_eq_true hr] at bc;have fd:=hd_ (fun W=>Vh W true (n/b) (Num.le hN (Nat.div_le_self _ _)))
    have GX:=hd_ (fun W=>Vh W false (n%b) (Num.le hN (Nat.mod_le _ _)))
    rw[show jz true (n/b) = -((n/b:Nat):Int) from rfl] at fd
    rw[show jz false (n%b)=((n%b:Nat):Int) from rfl,hr,show ((0:Nat):Int)=0 from rfl] at GX
    rw[hr] at bc fR;clear e1 e2 hr hn;generalize itx (-((n/b:Nat):Int))=r1 at *
    generalize itx 0=r2 at *
    generalize itx (-(n:Int))=s at *
    generalize dec (n/b)=qd at *
    generalize dec 0=rd at *
    generalize dec n=sm at *
    generalize dec b=tm at *
    go_enter Tryz.func163,Tryz.ntmps163
    go_wp2_with fail
    refine cm_ (Hl.out w) ?_;rintro e w1 ⟨rfl,hZ⟩;have HQ:=hd_ hZ;clear hZ Hl
    go_wp2_with fail
    refine cm_ (Gs.out w1) ?_;rintro e w2 ⟨rfl,HU⟩;have H6:=hd_ (HQ.out.trans (HU.mono HQ.out.size));clear HU HQ Gs
    go_wp2_with fail
    refine cm_ (Gx.out w2) ?_;rintro e w3 ⟨rfl,hb3⟩;have gd:=hd_ (H6.out.trans (hb3.mono H6.out.size));clear hb3 H6 Gx
    go_wp2_with fail
    refine cm_ (fR.out w3 gd.out) ?_;rintro e w4 ⟨rfl,gw⟩;have gl:=hd_ (gd.out.trans (gw.mono gd.out.size));clear gw gd fR
    go_wp2_with fail
    refine cm_ (fd.out w4) ?_;rintro e w5 ⟨rfl,hb5⟩;have gt:=hd_ (gl.out.trans (hb5.mono gl.out.size));clear hb5 gl fd
    go_wp2_with fail
    refine cm_ (GX.out w5) ?_;rintro e w6 ⟨rfl,hb6⟩;have gM:=hd_ (gt.out.trans (hb6.mono gt.out.size));clear hb6 gt GX;go_wp2
    go_ret3
    exact⟨rfl,gM.out⟩
   ·obtain⟨e1,e2⟩:=Zcc n b g7 hr;have EN:=Nat.mod_lt n g7;have e3 : -((n/b:Nat):Int)-1 = -((n/b+1:Nat):Int):=by omega
    have e4:(b:Int)-((n%b:Nat):Int)=((b-n%b:Nat):Int):=by omega
    rw[e1,e2,e3,e4];have bc:=Ze (n%b);rw[decide_eq_false hr] at bc;have fN:Num (n/b+1):=Num.le FT (Nat.succ_le_succ (Nat.div_le_self _ _));have Gl:Hid (∀ W,Below w.heap.size w W→Kc Tryz.prog 74 #[.string (dec (n/b)),.string ⟨#[49]⟩] W (.string (dec (n/b+1)))):=fun W hW=>by
     have:=Zog W (n/b) 1 (Num.le hN (Nat.div_le_self _ _)) (Num.le FT (by omega)) (HL.out.below hW)
     rw[Vg] at this;exact this
    have E6:Hid (∀ W,Below w.heap.size w W→Kc Tryz.prog 76 #[.string (dec b),.string (dec (n%b))] W (.tuple #[.string (dec (b-n%b)),.int .i64 0])):=fun W hW=>by
     have:=Zi4 W b (n%b) hb (Num.le hN (Nat.mod_le _ _)) (HL.out.below hW)
     rw[if_neg (by omega)] at this
     exact this
    have fd:=hd_ (fun W=>Vh W true (n/b+1) fN)
    have GX:=hd_ (fun W=>Vh W false (b-n%b) (Num.le hb (Nat.sub_le _ _)))
    rw[show jz true (n/b+1) = -((n/b+1:Nat):Int) from rfl] at fd
    rw[show jz false (b-n%b)=((b-n%b:Nat):Int) from rfl] at GX
    clear e1 e2 e3 e4 hr hn EN;generalize itx (-((n/b+1:Nat):Int))=r1 at *
    generalize itx ((b-n%b:Nat):Int)=r2 at *
    generalize itx (-(n:Int))=s at *
    generalize dec (n/b+1)=qe at *
    generalize dec (b-n%b)=re at *
    generalize dec (n/b)=qd at *
    generalize dec (n%b)=rd at *
    generalize dec n=sm at *
    generalize dec b=tm at *
    go_enter Tryz.func163,Tryz.ntmps163
    go_wp2_with fail
    refine cm_ (Hl.out w) ?_;rintro e w1 ⟨rfl,hZ⟩;have HQ:=hd_ hZ;clear hZ Hl
    go_wp2_with fail
    refine cm_ (Gs.out w1) ?_;rintro e w2 ⟨rfl,HU⟩;have H6:=hd_ (HQ.out.trans (HU.mono HQ.out.size));clear HU HQ Gs
    go_wp2_with fail
    refine cm_ (Gx.out w2) ?_;rintro e w3 ⟨rfl,hb3⟩;have gd:=hd_ (H6.out.trans (hb3.mono H6.out.size));clear hb3 H6 Gx
    go_wp2_with fail
    refine cm_ (fR.out w3 gd.out) ?_;rintro e w4 ⟨rfl,gw⟩;have gl:=hd_ (gd.out.trans (gw.mono gd.out.size));clear gw gd fR
    go_wp2_with fail
    refine cm_ (Gl.out w4 gl.out) ?_;rintro e w5 ⟨rfl,hb5⟩;have gt:=hd_ (gl.out.trans (hb5.mono gl.out.size));clear hb5 gl Gl
    go_wp2_with fail
    refine cm_ (E6.out w5 gt.out) ?_;rintro e w6 ⟨rfl,hb6⟩;have gM:=hd_ (gt.out.trans (hb6.mono gt.out.size));clear hb6 gt E6
    go_wp2_with fail
    refine cm_ (fd.out w6) ?_;rintro e w7 ⟨rfl,hb7⟩;have fw:=hd_ (gM.out.trans (hb7.mono gM.out.size));clear hb7 gM fd
    go_wp2_with fail
    refine cm_ (GX.out w7) ?_;rintro e w8 ⟨rfl,GE⟩;have dh:=hd_ (fw.out.trans (GE.mono fw.out.size));clear GE fw GX;go_wp2
    go_ret3
    exact⟨rfl,dh.out⟩
  ·rw[decide_eq_false hn] at Gs;obtain⟨n,rfl⟩:∃ n:Nat,a=(n:Int):=⟨a.natAbs,by omega⟩
   have hN:Num n:=ha;rw[show ((n:Int)).natAbs=n by omega] at *
   have fd:=hd_ (fun W=>Vh W false (n/b) (Num.le hN (Nat.div_le_self _ _)))
   have GX:=hd_ (fun W=>Vh W false (n%b) (Num.le hN (Nat.mod_le _ _)))
   rw[show jz false (n/b)=(n:Int)/(b:Int) from rfl] at fd
   rw[show jz false (n%b)=(n:Int)%(b:Int) from rfl] at GX
   clear hn;generalize itx ((n:Int)/(b:Int))=r1 at *
   generalize itx ((n:Int)%(b:Int))=r2 at *
   generalize itx (n:Int)=s at *
   generalize dec (n/b)=qd at *
   generalize dec (n%b)=rd at *
   generalize dec n=sm at *
   generalize dec b=tm at *
   go_enter Tryz.func163,Tryz.ntmps163
   go_wp2_with fail
   refine cm_ (Hl.out w) ?_;rintro e w1 ⟨rfl,hZ⟩;have HQ:=hd_ hZ;clear hZ Hl
   go_wp2_with fail
   refine cm_ (Gs.out w1) ?_;rintro e w2 ⟨rfl,HU⟩;have H6:=hd_ (HQ.out.trans (HU.mono HQ.out.size));clear HU HQ Gs
   go_wp2_with fail
   refine cm_ (Gx.out w2) ?_;rintro e w3 ⟨rfl,hb3⟩;have gd:=hd_ (H6.out.trans (hb3.mono H6.out.size));clear hb3 H6 Gx
   go_wp2_with fail
   refine cm_ (fR.out w3 gd.out) ?_;rintro e w4 ⟨rfl,gw⟩;have gl:=hd_ (gd.out.trans (gw.mono gd.out.size));clear gw gd fR
   go_wp2_with fail
   refine cm_ (fd.out w4) ?_;rintro e w5 ⟨rfl,hb5⟩;have gt:=hd_ (gl.out.trans (hb5.mono gl.out.size));clear hb5 gl fd
   go_wp2_with fail
   refine cm_ (GX.out w5) ?_;rintro e w6 ⟨rfl,hb6⟩;have gM:=hd_ (gt.out.trans (hb6.mono gt.out.size));clear hb6 gt GX;go_wp2
   go_ret3
   exact⟨rfl,gM.out⟩
 ·rw[if_pos hl.1] at gC;rw[if_neg hl.2] at gG;clear hl jP
  by_cases hn:a<0
  ·rw[decide_eq_true hn] at Gs;obtain⟨n,rfl⟩:∃ n:Nat,a = -(n:Int):=⟨a.natAbs,by omega⟩
   have hN:Num n:=by
    have h:Num (-(n:Int)).natAbs:=ha;rw[show (-(n:Int)).natAbs=n by omega] at h
    exact h
   rw[show (-(n:Int)).natAbs=n by omega] at *
   by_cases hr:n%b=0
   ·obtain⟨e1,e2⟩:=Zbn n b g7 hr;rw[e1,e2];have bc:=Ze (n%b);rw[decide_eq_true hr] at bc;have fd:=hd_ (fun W=>Vh W true (n/b) (Num.le hN (Nat.div_le_self _ _)))
    have GX:=hd_ (fun W=>Vh W false (n%b) (Num.le hN (Nat.mod_le _ _)))
    rw[show jz true (n/b) = -((n/b:Nat):Int) from rfl] at fd
    rw[show jz false (n%b)=((n%b:Nat):Int) from rfl,hr,show ((0:Nat):Int)=0 from rfl] at GX
    rw[hr] at bc fR;clear e1 e2 hr hn;generalize itx (-((n/b:Nat):Int))=r1 at *
    generalize itx 0=r2 at *
    generalize itx (-(n:Int))=s at *
    generalize dec (n/b)=qd at *
    generalize dec 0=rd at *
    generalize dec n=sm at *
    generalize dec b=tm at *
    go_enter Tryz.func163,Tryz.ntmps163
    go_wp2_with fail
    refine cm_ (gC.out w) ?_;rintro e w1 ⟨rfl,hZ⟩;have HQ:=hd_ hZ;clear hZ gC
    go_wp2_with fail
    refine cm_ (gG.out w1) ?_;rintro e w2 ⟨rfl,HU⟩;have H6:=hd_ (HQ.out.trans (HU.mono HQ.out.size));clear HU HQ gG
    go_wp2_with fail
    refine cm_ (Gs.out w2) ?_;rintro e w3 ⟨rfl,hb3⟩;have gd:=hd_ (H6.out.trans (hb3.mono H6.out.size));clear hb3 H6 Gs
    go_wp2_with fail
    refine cm_ (Gx.out w3) ?_;rintro e w4 ⟨rfl,gw⟩;have gl:=hd_ (gd.out.trans (gw.mono gd.out.size));clear gw gd Gx
    go_wp2_with fail
    refine cm_ (fR.out w4 gl.out) ?_;rintro e w5 ⟨rfl,hb5⟩;have gt:=hd_ (gl.out.trans (hb5.mono gl.out.size));clear hb5 gl fR
    go_wp2_with fail
    refine cm_ (fd.out w5) ?_;rintro e w6 ⟨rfl,hb6⟩;have gM:=hd_ (gt.out.trans (hb6.mono gt.out.size));clear hb6 gt fd
    go_wp2_with fail
    refine cm_ (GX.out w6) ?_;rintro e w7 ⟨rfl,hb7⟩;have fw:=hd_ (gM.out.trans (hb7.mono gM.out.size));clear hb7 gM GX;go_wp2
    go_ret3
    exact⟨rfl,fw.out⟩
   ·obtain⟨e1,e2⟩:=Zcc n b g7 hr;have EN:=Nat.mod_lt n g7;have e3 : -((n/b:Nat):Int)-1 = -((n/b+1:Nat):Int):=by omega
    have e4:(b:Int)-((n%b:Nat):Int)=((b-n%b:Nat):Int):=by omega
    rw[e1,e2,e3,e4];have bc:=Ze (n%b);rw[decide_eq_false hr] at bc;have fN:Num (n/b+1):=Num.le FT (Nat.succ_le_succ (Nat.div_le_self _ _));have Gl:Hid (∀ W,Below w.heap.size w W→Kc Tryz.prog 74 #[.string (dec (n/b)),.string ⟨#[49]⟩] W (.string (dec (n/b+1)))):=fun W hW=>by
     have:=Zog W (n/b) 1 (Num.le hN (Nat.div_le_self _ _)) (Num.le FT (by omega)) (HL.out.below hW)
     rw[Vg] at this;exact this
    have E6:Hid (∀ W,Below w.heap.size w W→Kc Tryz.prog 76 #[.string (dec b),.string (dec (n%b))] W (.tuple #[.string (dec (b-n%b)),.int .i64 0])):=fun W hW=>by
     have:=Zi4 W b (n%b) hb (Num.le hN (Nat.mod_le _ _)) (HL.out.below hW)
     rw[if_neg (by omega)] at this
     exact this
    have fd:=hd_ (fun W=>Vh W true (n/b+1) fN)
    have GX:=hd_ (fun W=>Vh W false (b-n%b) (Num.le hb (Nat.sub_le _ _)))
    rw[show jz true (n/b+1) = -((n/b+1:Nat):Int) from rfl] at fd
    rw[show jz false (b-n%b)=((b-n%b:Nat):Int) from rfl] at GX
    clear e1 e2 e3 e4 hr hn EN;generalize itx (-((n/b+1:Nat):Int))=r1 at *
    generalize itx ((b-n%b:Nat):Int)=r2 at *
    generalize itx (-(n:Int))=s at *
    generalize dec (n/b+1)=qe at *
    generalize dec (b-n%b)=re at *
    generalize dec (n/b)=qd at *
    generalize dec (n%b)=rd at *
    generalize dec n=sm at *
    generalize dec b=tm at *
    go_enter Tryz.func163,Tryz.ntmps163
    go_wp2_with fail
    refine cm_ (gC.out w) ?_;rintro e w1 ⟨rfl,hZ⟩;have HQ:=hd_ hZ;clear hZ gC
    go_wp2_with fail
    refine cm_ (gG.out w1) ?_;rintro e w2 ⟨rfl,HU⟩;have H6:=hd_ (HQ.out.trans (HU.mono HQ.out.size));clear HU HQ gG
    go_wp2_with fail
    refine cm_ (Gs.out w2) ?_;rintro e w3 ⟨rfl,hb3⟩;have gd:=hd_ (H6.out.trans (hb3.mono H6.out.size));clear hb3 H6 Gs
    go_wp2_with fail
    refine cm_ (Gx.out w3) ?_;rintro e w4 ⟨rfl,gw⟩;have gl:=hd_ (gd.out.trans (gw.mono gd.out.size));clear gw gd Gx
    go_wp2_with fail
    refine cm_ (fR.out w4 gl.out) ?_;rintro e w5 ⟨rfl,hb5⟩;have gt:=hd_ (gl.out.trans (hb5.mono gl.out.size));clear hb5 gl fR
    go_wp2_with fail
    refine cm_ (Gl.out w5 gt.out) ?_;rintro e w6 ⟨rfl,hb6⟩;have gM:=hd_ (gt.out.trans (hb6.mono gt.out.size));clear hb6 gt Gl
    go_wp2_with fail
    refine cm_ (E6.out w6 gM.out) ?_;rintro e w7 ⟨rfl,hb7⟩;have fw:=hd_ (gM.out.trans (hb7.mono gM.out.size));clear hb7 gM E6
    go_wp2_with fail
    refine cm_ (fd.out w7) ?_;rintro e w8 ⟨rfl,GE⟩;have dh:=hd_ (fw.out.trans (GE.mono fw.out.size));clear GE fw fd
    go_wp2_with fail
    refine cm_ (GX.out w8) ?_;rintro e w9 ⟨rfl,Ew⟩;have C9:=hd_ (dh.out.trans (Ew.mono dh.out.size));clear Ew dh GX;go_wp2
    go_ret3
    exact⟨rfl,C9.out⟩
  ·rw[decide_eq_false hn] at Gs;obtain⟨n,rfl⟩:∃ n:Nat,a=(n:Int):=⟨a.natAbs,by omega⟩
   have hN:Num n:=ha;rw[show ((n:Int)).natAbs=n by omega] at *
   have fd:=hd_ (fun W=>Vh W false (n/b) (Num.le hN (Nat.div_le_self _ _)))
   have GX:=hd_ (fun W=>Vh W false (n%b) (Num.le hN (Nat.mod_le _ _)))
   rw[show jz false (n/b)=(n:Int)/(b:Int) from rfl] at fd
   rw[show jz false (n%b)=(n:Int)%(b:Int) from rfl] at GX
   clear hn;generalize itx ((n:Int)/(b:Int))=r1 at *
   generalize itx ((n:Int)%(b:Int))=r2 at *
   generalize itx (n:Int)=s at *
   generalize dec (n/b)=qd at *
   generalize dec (n%b)=rd at *
   generalize dec n=sm at *
   generalize dec b=tm at *
   go_enter Tryz.func163,Tryz.ntmps163
   go_wp2_with fail
   refine cm_ (gC.out w) ?_;rintro e w1 ⟨rfl,hZ⟩;have HQ:=hd_ hZ;clear hZ gC
   go_wp2_with fail
   refine cm_ (gG.out w1) ?_;rintro e w2 ⟨rfl,HU⟩;have H6:=hd_ (HQ.out.trans (HU.mono HQ.out.size));clear HU HQ gG
   go_wp2_with fail
   refine cm_ (Gs.out w2) ?_;rintro e w3 ⟨rfl,hb3⟩;have gd:=hd_ (H6.out.trans (hb3.mono H6.out.size));clear hb3 H6 Gs
   go_wp2_with fail
   refine cm_ (Gx.out w3) ?_;rintro e w4 ⟨rfl,gw⟩;have gl:=hd_ (gd.out.trans (gw.mono gd.out.size));clear gw gd Gx
   go_wp2_with fail
   refine cm_ (fR.out w4 gl.out) ?_;rintro e w5 ⟨rfl,hb5⟩;have gt:=hd_ (gl.out.trans (hb5.mono gl.out.size));clear hb5 gl fR
   go_wp2_with fail
   refine cm_ (fd.out w5) ?_;rintro e w6 ⟨rfl,hb6⟩;have gM:=hd_ (gt.out.trans (hb6.mono gt.out.size));clear hb6 gt fd
   go_wp2_with fail
   refine cm_ (GX.out w6) ?_;rintro e w7 ⟨rfl,hb7⟩;have fw:=hd_ (gM.out.trans (hb7.mono gM.out.size));clear hb7 gM GX;go_wp2
   go_ret3
   exact⟨rfl,fw.out⟩
 ·rw[if_pos hl.1] at gC;rw[if_pos hl.2] at gG;have q1:=Zd a 18 (by decide) hl.1
  have q2:=(Vp b).1 hl.2;clear hl jP Gs Gx fR;have Gg:Hid (∀ W,Below w.heap.size w W→∀ z:Int,-9223372036854775808≤z→z≤9223372036854775807→Kc Tryz.prog 73 #[.int .i64 z] W (.string (itx z))):=fun W hW z h0 h1=>Zaj W z h0 h1 (HL.out.below hW)
  have mS:((b:Int)==0)=false:=by rw[beq_eq_false_iff_ne];omega
  have O':¬ (b:Int)<0:=by omega
  have pb:¬ (b:Int)=0:=by omega
  by_cases hn:a<0
  ·obtain⟨n,rfl⟩:∃ n:Nat,a = -(n:Int):=⟨a.natAbs,by omega⟩
   have fN:n<1000000000000000000:=by omega
   have Dt:n/b≤n:=Nat.div_le_self _ _;have EN:n%b≤n:=Nat.mod_le _ _;have mp:Int.tdiv (-(n:Int)) (b:Int) = -((n/b:Nat):Int):=by rw[Int.neg_tdiv,← Int.ofNat_tdiv]
   have eF:Int.tmod (-(n:Int)) (b:Int) = -((n%b:Nat):Int):=by rw[Int.neg_tmod,← Int.ofNat_tmod]
   by_cases hr:n%b=0
   ·obtain⟨e1,e2⟩:=Zbn n b g7 hr;rw[e1,e2];rw[hr] at eF;rw[show -((0:Nat):Int)=0 from rfl] at eF
    clear e1 e2 hr EN;generalize n/b=q at *
    have fM:IntKind.i64.wrap (-(q:Int)) = -(q:Int):=iw_ _ (by omega)
    have fL:IntKind.i64.wrap 0=0:=iw_ _ (by omega)
    have GR : -9223372036854775808 ≤ -(q:Int):=by omega
    have Gh : -(q:Int)≤9223372036854775807:=by omega
    have dN:(-9223372036854775808:Int)≤0:=by omega
    have En:(0:Int)≤9223372036854775807:=by omega
    generalize itx (-(n:Int))=s at *
    generalize dec b=tm at *
    go_enter Tryz.func163,Tryz.ntmps163
    go_wp2_with fail
    refine cm_ (gC.out w) ?_;rintro e w1 ⟨rfl,hZ⟩;have HQ:=hd_ hZ;clear hZ gC
    go_wp2_with fail
    refine cm_ (gG.out w1) ?_;rintro e w2 ⟨rfl,HU⟩;have H6:=hd_ (HQ.out.trans (HU.mono HQ.out.size));clear HU HQ gG
    go_wp2_with fail
    go_quiet (fail)
    have gd:Hid (Below w.heap.size w (w2.drewN nq)):=Qh H6.out _;clear H6;generalize w2.drewN nq=w3 at *
    go_wp2_with fail
    refine cm_ (Gg.out w3 gd.out _ (by omega) (by omega)) ?_
    rintro e w4 ⟨rfl,gw⟩;have gl:=hd_ (gd.out.trans (gw.mono gd.out.size));clear gw gd
    go_wp2_with fail
    refine cm_ (Gg.out w4 gl.out _ (by omega) (by omega)) ?_
    rintro e w5 ⟨rfl,hb5⟩;have gt:=hd_ (gl.out.trans (hb5.mono gl.out.size));clear hb5 gl;go_wp2
    go_ret3
    exact⟨rfl,gt.out⟩
   ·obtain⟨e1,e2⟩:=Zcc n b g7 hr;rw[e1,e2];have JM:=Nat.mod_lt n g7;have bR:0<n%b:=by omega
    clear e1 e2 hr;generalize n/b=q at *
    generalize n%b=r at *
    have fM:IntKind.i64.wrap (-(q:Int)) = -(q:Int):=iw_ _ (by omega)
    have fL:IntKind.i64.wrap (-(r:Int)) = -(r:Int):=iw_ _ (by omega)
    have DN:IntKind.i64.wrap (-(q:Int)-1) = -(q:Int)-1:=iw_ _ (by omega)
    have Ea:IntKind.i64.wrap (-(r:Int)+(b:Int)) = -(r:Int)+(b:Int):=iw_ _ (by omega)
    have GR : -9223372036854775808 ≤ -(q:Int)-1:=by omega
    have Gh : -(q:Int)-1≤9223372036854775807:=by omega
    have dN:(-9223372036854775808:Int) ≤ -(r:Int)+(b:Int):=by omega
    have En : -(r:Int)+(b:Int)≤9223372036854775807:=by omega
    have Nn:(-(r:Int) != 0)=true:=by rw[bne_iff_ne];omega
    have No : -(r:Int)<0:=by omega
    rw[show (b:Int)-(r:Int) = -(r:Int)+(b:Int) by omega]
    generalize itx (-(n:Int))=s at *
    generalize dec b=tm at *
    go_enter Tryz.func163,Tryz.ntmps163
    go_wp2_with fail
    refine cm_ (gC.out w) ?_;rintro e w1 ⟨rfl,hZ⟩;have HQ:=hd_ hZ;clear hZ gC
    go_wp2_with fail
    refine cm_ (gG.out w1) ?_;rintro e w2 ⟨rfl,HU⟩;have H6:=hd_ (HQ.out.trans (HU.mono HQ.out.size));clear HU HQ gG
    go_wp2_with fail
    go_quiet (fail)
    have gd:Hid (Below w.heap.size w (w2.drewN nq)):=Qh H6.out _;clear H6;generalize w2.drewN nq=w3 at *
    go_wp2_with fail
    refine cm_ (Gg.out w3 gd.out _ (by omega) (by omega)) ?_
    rintro e w4 ⟨rfl,gw⟩;have gl:=hd_ (gd.out.trans (gw.mono gd.out.size));clear gw gd
    go_wp2_with fail
    refine cm_ (Gg.out w4 gl.out _ (by omega) (by omega)) ?_
    rintro e w5 ⟨rfl,hb5⟩;have gt:=hd_ (gl.out.trans (hb5.mono gl.out.size));clear hb5 gl;go_wp2
    go_ret3
    exact⟨rfl,gt.out⟩
  ·obtain⟨n,rfl⟩:∃ n:Nat,a=(n:Int):=⟨a.natAbs,by omega⟩
   have fN:n<1000000000000000000:=by omega
   have Dt:n/b≤n:=Nat.div_le_self _ _;have EN:n%b≤n:=Nat.mod_le _ _;have mp:Int.tdiv (n:Int) (b:Int)=((n/b:Nat):Int):=by rw[← Int.ofNat_tdiv]
   have eF:Int.tmod (n:Int) (b:Int)=((n%b:Nat):Int):=by rw[← Int.ofNat_tmod]
   obtain⟨e1,e2⟩:=Zjz n b;rw[e1,e2];clear e1 e2;generalize n/b=q at *
   generalize n%b=r at *
   have fM:IntKind.i64.wrap (q:Int)=(q:Int):=iw_ _ (by omega)
   have fL:IntKind.i64.wrap (r:Int)=(r:Int):=iw_ _ (by omega)
   have GR : -9223372036854775808≤(q:Int):=by omega
   have Gh:(q:Int)≤9223372036854775807:=by omega
   have dN:(-9223372036854775808:Int)≤(r:Int):=by omega
   have En:(r:Int)≤9223372036854775807:=by omega
   generalize itx (n:Int)=s at *
   generalize dec b=tm at *
   rcases Nat.eq_zero_or_pos r with bR|bR
   ·subst bR;have Nf:IntKind.i64.wrap 0=0:=iw_ _ (by omega)
    go_enter Tryz.func163,Tryz.ntmps163
    go_wp2_with fail
    refine cm_ (gC.out w) ?_;rintro e w1 ⟨rfl,hZ⟩;have HQ:=hd_ hZ;clear hZ gC
    go_wp2_with fail
    refine cm_ (gG.out w1) ?_;rintro e w2 ⟨rfl,HU⟩;have H6:=hd_ (HQ.out.trans (HU.mono HQ.out.size));clear HU HQ gG
    go_wp2_with fail
    go_quiet (fail)
    have gd:Hid (Below w.heap.size w (w2.drewN nq)):=Qh H6.out _;clear H6;generalize w2.drewN nq=w3 at *
    go_wp2_with fail
    refine cm_ (Gg.out w3 gd.out _ (by omega) (by omega)) ?_
    rintro e w4 ⟨rfl,gw⟩;have gl:=hd_ (gd.out.trans (gw.mono gd.out.size));clear gw gd
    go_wp2_with fail
    refine cm_ (Gg.out w4 gl.out _ (by omega) (by omega)) ?_
    rintro e w5 ⟨rfl,hb5⟩;have gt:=hd_ (gl.out.trans (hb5.mono gl.out.size));clear hb5 gl;go_wp2
    go_ret3
    exact⟨rfl,gt.out⟩
   ·have Nn:((r:Int) != 0)=true:=by rw[bne_iff_ne];omega
    have No:decide ((r:Int)<0)=false:=decide_eq_false (by omega)
    have NT:decide ((b:Int)<0)=false:=decide_eq_false (by omega)
    go_enter Tryz.func163,Tryz.ntmps163
    go_wp2_with fail
    refine cm_ (gC.out w) ?_;rintro e w1 ⟨rfl,hZ⟩;have HQ:=hd_ hZ;clear hZ gC
    go_wp2_with fail
    refine cm_ (gG.out w1) ?_;rintro e w2 ⟨rfl,HU⟩;have H6:=hd_ (HQ.out.trans (HU.mono HQ.out.size));clear HU HQ gG
    go_wp2_with fail
    go_quiet (fail)
    have gd:Hid (Below w.heap.size w (w2.drewN nq)):=Qh H6.out _;clear H6;generalize w2.drewN nq=w3 at *
    go_wp2_with fail
    refine cm_ (Gg.out w3 gd.out _ (by omega) (by omega)) ?_
    rintro e w4 ⟨rfl,gw⟩;have gl:=hd_ (gd.out.trans (gw.mono gd.out.size));clear gw gd
    go_wp2_with fail
    refine cm_ (Gg.out w4 gl.out _ (by omega) (by omega)) ?_
    rintro e w5 ⟨rfl,hb5⟩;have gt:=hd_ (gl.out.trans (hb5.mono gl.out.size));clear hb5 gl;go_wp2
    go_ret3
    exact⟨rfl,gt.out⟩
def fv (n:Int) (d:Nat):Value := .agg #[.string (itx n),.string (dec d)]
theorem Zgt(w:World)(z:Int)(hz:Zbg z):
  Kc Tryz.prog 183 #[.string (itx z)] w (if (itx z).size≤9 then .tuple #[.int .i64 z,.bool true] else .tuple #[.int .i64 0,.bool false]):=by
 unfold Kc;have ej:(dec z.natAbs).size≤1000000:=hz;have Fs:=Zca z
 by_cases h:(itx z).size≤9
 ·rw[if_pos h];have H9:=Zd z 9 (by decide) (by omega)
  have Hc:=hd_ (Tryz.strconv_Atoi_ok (itx z) (by omega) z (Zpt z (by omega)) w)
  have I':=hd_ (fun t=>Zh w 5 t)
  have h':((itx z).size:Int)≤9:=by omega
  clear H9 ej Fs;generalize itx z=s at *
  go_enter Tryz.func183,Tryz.ntmps183
  go_wp2_with fail
  refine cm_ Hc.out ?_;rintro e w1 ⟨rfl,hw⟩;have Hb:Hid (Below w.heap.size w w1):=by
   show Below _ _ _
   rcases hw with rfl|⟨t,rfl⟩
   ·exact Below.refl _ _
   ·exact I'.out t
  clear hw
  go_wp2_with fail
  go_quiet (fail)
  go_wp2
  go_ret2
  exact⟨rfl,Qh Hb.out _⟩
 ·rw[if_neg h];have h':¬ ((itx z).size:Int)≤9:=by omega
  generalize itx z=s at *
  go_enter Tryz.func183,Tryz.ntmps183;go_wp2
  go_ret2
  exact⟨rfl,Below.refl _ _⟩
def Zuu (n:Int) (d:Nat):Value :=
 .tuple #[.int .i64 (if (itx n).size≤9 then n else 0),.int .i64 (if (dec d).size≤9 then d else 0),.bool (decide ((itx n).size≤9)&&decide ((dec d).size≤9))]
theorem Zhg(w:World)(n:Int)(d:Nat)(hn:Zbg n)(hd:Num d):
  Kc Tryz.prog 113 #[fv n d] w (Zuu n d):=by
 unfold Kc fv;have gC:Hid (∀ W,Kc Tryz.prog 183 #[.string (itx n)] W (.tuple #[.int .i64 (if (itx n).size≤9 then n else 0),.bool (decide ((itx n).size≤9))])):=fun W=>by
  have:=Zgt W n hn
  by_cases h:(itx n).size≤9
  ·rw[if_pos h] at this;rw[if_pos h,decide_eq_true h];exact this
  ·rw[if_neg h] at this;rw[if_neg h,decide_eq_false h];exact this
 have gG:Hid (∀ W,Kc Tryz.prog 183 #[.string (dec d)] W (.tuple #[.int .i64 (if (dec d).size≤9 then (d:Int) else 0),.bool (decide ((dec d).size≤9))])):=fun W=>by
  have:=Zgt W (d:Int) (show Num _ from hd)
  rw[Kj] at this
  by_cases h:(dec d).size≤9
  ·rw[if_pos h] at this;rw[if_pos h,decide_eq_true h];exact this
  ·rw[if_neg h] at this;rw[if_neg h,decide_eq_false h];exact this
 have Hv:Hid (Zuu n d = .tuple #[.int .i64 (if (itx n).size≤9 then n else 0),.int .i64 (if (dec d).size≤9 then (d:Int) else 0),.bool (decide ((itx n).size≤9)&&decide ((dec d).size≤9))]):=rfl
 rw[Hv.out];clear Hv;generalize (if (itx n).size≤9 then n else 0)=x at *
 generalize (if (dec d).size≤9 then (d:Int) else 0)=y at *
 generalize decide ((itx n).size≤9)=p at *
 generalize decide ((dec d).size≤9)=q at *
 generalize itx n=s at *
 generalize dec d=t at *
 have gD:Hid ((w.alloc (.cells #[.string s,.string t] 42)).cell? ⟨w.heap.size,1,none⟩=some (.string t)):=by
  show _=_
  rw[World.cell?_alloc_new];rfl
 have gj:=hd_ ((Below.refl w.heap.size w).alloc nr_ (.cells #[.string s,.string t] 42));have FY:w.heap.size<(w.alloc (.cells #[.string s,.string t] 42)).heap.size:=by simp
 have aI:=hd_ FY;clear FY;go_enter Tryz.func113,Tryz.ntmps113
 go_wp2_with fail
 refine cm_ (gC.out _) ?_;rintro e w1 ⟨rfl,hZ⟩;have cx:=gD.out;rw[← hZ.cell (p:=⟨w.heap.size,1,none⟩) aI.out] at cx;have HQ:=hd_ (gj.out.trans (hZ.mono (Nat.le_of_lt aI.out)));clear hZ gj gD aI
 go_wp2_with fail
 refine cm_ (gG.out _) ?_;rintro e w2 ⟨rfl,HU⟩;have H6:=hd_ (HQ.out.trans (HU.mono HQ.out.size));clear HU HQ cx;cases p<;>cases q
 all_goals
  go_wp2
  go_ret3
  exact⟨rfl,H6.out⟩
end Go.Proofs.YtnjedhgcfeoemaaGreatDoor

namespace Go.Proofs.YtnjedhgcfeoemaaGreatDoor
open Go Go.Sort
section
variable {P:Program} {ops:Array Oper} {md:Region.Mode} {C:World→Prop}
def Zhn (P:Program) (md:Region.Mode) (ops:Array Oper) (C:World→Prop) (n:Nat) (L:Array Bool→Act→Prop):Nat→Array Bool→Act→Prop
 | 0,listed,a=>L listed a
 | f+1,listed,a=>Region.ready md ops listed≠[]∧∀ i∈Region.ready md ops listed,i<n∧qOp P ops C i (Zhn P md ops C n L f (listed.setIfInBounds i true)) a
theorem Zhm{n g:Nat}{L:Array Bool→Act→Prop}{Q':Exit→Act→World→Prop}(hL:∀ listed a w,C w→L listed a→wpAny P md ops Q' g listed a w):
  ∀ (f:Nat) (listed:Array Bool) (a:Act) (w:World),C w→Zhn P md ops C n L f listed a→wpAny P md ops Q' (f+g) listed a w
 | 0,listed,a,w,hw,h=>by rw[Nat.zero_add];exact hL _ _ _ hw h
 | f+1,listed,a,w,hw,h=>by
  rw[show f+1+g=(f+g)+1 by omega]
  exact⟨fun h0=>absurd h0 h.1,fun i hi=>wpOp_of_qOp hw (fun a' w' hw' h'=>Zhm hL f _ a' w' hw' h') (h.2 i hi).2⟩
theorem Zkb{n i:Nat}{oi:Oper}{v:Value}{L:Array Bool→Act→Prop}(hi:ops[i]?=some oi)(hsel:∀ (j:Nat) (o:Oper) cs b,ops[j]?=some o→o.op ≠ .select cs b)
  (hs:Region.sinkB md ops n=true) (hc:Region.chainB md ops n=true) (hn:n<ops.size) (ip:i<n)
  (hdone:∀ listed a,L listed a→∀ j∈Region.ready md ops listed,n≤j) :
  ∀ (f:Nat) (listed:Array Bool) (a:Act),HeadInv md ops n listed →
   (∀ j oj,ops[j]?=some oj→j≠i→listed.getD j true=false→(∀ e∈oj.after,Region.binds md e=true→e.on≠i)→oi.apart ops oj=true) →
   i∈Region.ready md ops listed→YieldsIn P ops C oi v a →
   Zhn P md ops C n L f (listed.setIfInBounds i true) (a.put oi.dst v)→Zhn P md ops C n L (f+1) listed a:=by
 intro f
 induction f with
 | zero =>
  intro listed a inv _ hr hy H;have FR:=(mem_ready.1 hr).1;refine⟨fun h=>(by rw[h] at hr;cases hr),fun j hj=>?_⟩
  have bt:j<n:=by
   rcases Nat.lt_or_ge j n with h|h
   ·exact h
   ·exact absurd hj (tail_waits hs hc hn inv _ i rfl ip FR j h)
  refine⟨bt,?_⟩
  by_cases G7:j=i
  ·subst G7;exact hy.qOp hi H
  ·have:=hdone _ _ H j (ready_mono hj G7)
   omega
 | succ f ih =>
  intro listed a inv hfree hr hy H;have FR:=(mem_ready.1 hr).1;refine⟨fun h=>(by rw[h] at hr;cases hr),fun j hj=>?_⟩
  have bt:j<n:=by
   rcases Nat.lt_or_ge j n with h|h
   ·exact h
   ·exact absurd hj (tail_waits hs hc hn inv _ i rfl ip FR j h)
  refine⟨bt,?_⟩
  by_cases G7:j=i
  ·subst G7;exact hy.qOp hi H
  ·have h1:=(H.2 j (ready_mono hj G7)).2;obtain⟨hjun,oj,hoj,GA⟩:=mem_ready.1 hj;have EW:∀ e∈oj.after,Region.binds md e=true→e.on≠i:=fun e he hb heq=>by
    have h1:=GA e he hb;rw[heq,getD_both FR] at h1;cases h1
   have h2:=qOp_put hoj (hfree j oj hoj G7 hjun EW) (fun cs b=>hsel i oi cs b hi) (fun cs b=>hsel j oj cs b hoj) hy h1
   have FG:∀ k ok,ops[k]?=some ok→k≠i→(listed.setIfInBounds j true).getD k true=false →
     (∀ e∈ok.after,Region.binds md e=true→e.on≠i)→oi.apart ops ok=true:=fun k ok hk DX FR Eb=>by
    refine hfree k ok hk DX ?_ Eb
    by_cases Dq:j=k
    ·subst Dq;exact hjun
    ·rw[getD_set_ne true Dq] at FR;exact FR
   refine qOp_mono (fun a' h3=>ih (listed.setIfInBounds j true) a' (inv.set hj bt) FG (ready_mono hr (Ne.symm G7)) h3.1 ?_) h2
   rw[Array.setIfInBounds_comm _ _ G7];exact h3.2
theorem Zhl{n g:Nat}{Lq:Act→Prop}(hsel:Region.noSelect ops=true)(hs:Region.sinkB md ops n=true)(hc:Region.chainB md ops n=true)(hn:n<ops.size):
  ∀ (l:List Oper) (k:Nat) (listed:Array Bool) (a:Act),(∀ j,j<l.length→l[j]?=ops[k+j]?)→k+l.length=n→HeadInv md ops n listed →
  Region.lexHead md ops g l.length k listed=true→wpQuiet P ops C Lq l a →
  Zhn P md ops C n (fun listed' a'=>Region.seqB md ops g n listed'=true∧Lq a') l.length listed a
 | [],k,listed,a,_,hk,_,hB,h=>by
  have:k=n:=by simpa using hk
  subst this;exact⟨by simpa [Region.lexHead] using hB,h⟩
 | o::l,k,listed,a,hl,hk,inv,hB,h=>by
  have h0:ops[k]?=some o:=by simpa using (hl 0 (by simp)).symm
  simp only[List.length_cons,Region.lexHead,Bool.and_eq_true] at hB;obtain⟨⟨hr,hf⟩,hB'⟩:=hB;have bV:k<n:=by simp only[List.length_cons] at hk;omega
  have eH:k∈Region.ready md ops listed:=by simpa using hr
  have fT:qOp P ops C k (wpQuiet P ops C Lq l) a:=by unfold qOp;simp only[h0];exact h
  obtain⟨v,hy,hK⟩:=yieldsIn_of_qOp h0 fT;exact Zkb h0 (Region.noSelect_spec hsel) hs hc hn bV (fun listed' a' hL=>seqB_ready hL.1) l.length listed a inv (Region.free_spec h0 hf) eH hy
   (Zhl hsel hs hc hn l (k+1) _ _ (fun j hj=>by have:=hl (j+1) (by simp;omega);simpa [Nat.add_assoc,Nat.add_comm 1 j] using this) (by simp only[List.length_cons] at hk;omega) (inv.set eH bV) hB' hK)
theorem Zc9{id:Nat}{Q:Exit→Act→World→Prop}{a:Act}{w:World}{l:List Oper}(n:Nat)(hm:P.follows .mixedOrders=true)(hB:Region.lexTailB .any l.toArray n=true)
  (hC:C { w with drawn:=w.drawn+1 }) (h:wpQuiet P l.toArray C (fun a'=>∀ w',C w'→wpList P l.toArray Q (l.drop n) a' w') (l.take n) a):(Code.region id l.toArray true).wp P Q a w:=by
 simp only[Region.lexTailB,Bool.and_eq_true,decide_eq_true_eq] at hB;obtain⟨⟨⟨⟨hsel,hn⟩,hs⟩,hc⟩,hlex⟩:=hB;have FD:n<l.length:=by simpa using hn
 have CQ:(l.take n).length=n:=by simp;omega
 have Dt:(l.drop n).length=l.toArray.size-n:=by simp
 have DL:HeadInv .any l.toArray n (Array.replicate l.toArray.size false) :=
  ⟨by simp,fun j oj _ hl=>(by rw[getD_replicate_false] at hl;cases hl),fun t _ ht=>getD_in (by simpa using ht) (getD_replicate_false _ _)⟩
 have H:=Zhl (md := .any) (g:=l.toArray.size-n) hsel hs hc hn (l.take n) 0 _ a (fun j hj=>by
  have mK:j<n:=by rw[CQ] at hj;exact hj
  simp[mK]) (by simpa using CQ) DL (by rw[CQ];exact hlex) h
 refine wp_region_any hm ?_;have:=Zhm (Q':=Q) (g:=l.toArray.size-n) (fun listed a' w' hw' hL=>by
  have:=wpAny_of_seq (md := .any) (Q':=Q) (l.drop n) n listed a' w' (fun j=>by simp[List.getElem?_drop]) (by rw[Dt];exact hL.1) (hL.2 w' hw')
  rwa [Dt] at this) _ _ _ _ hC H
 rw[CQ,show n+(l.toArray.size-n)=l.toArray.size by omega] at this
 exact this
theorem Kx{id:Nat}{Q:Exit→Act→World→Prop}{a:Act}{w:World}{l:List Oper}(n:Nat)(hm:P.follows .mixedOrders=true)(hB:Region.lexTailB .any l.toArray n=true)
  (h:wpQuiet P l.toArray (fun w'=>∃ p:Regrown,w'=grow (redrawn w p.d) p.os) (fun a'=>∀ w',(∃ p:Regrown,w'=grow (redrawn w p.d) p.os)→wpList P l.toArray Q (l.drop n) a' w') (l.take n) a):(Code.region id l.toArray true).wp P Q a w :=
 Zc9 n hm hB ⟨⟨w.drawn+1,#[]⟩,by rw[grow_empty];rfl⟩ h
end
end Go.Proofs.YtnjedhgcfeoemaaGreatDoor

namespace Go.Proofs.YtnjedhgcfeoemaaGreatDoor
open Go.RowKit
theorem Zfh(w:World)(z:Int)(h0 : -9223372036854775808≤z)(h1:z≤9223372036854775807)(L:Qd w):
  ∀ d os,Calls Tryz.prog 144 #[.int .i64 z] (Go.Sort.grow (redrawn w d) os) fun e w''=>e = .returned (.string (itx z))∧∃ p:Regrown,w''=Go.Sort.grow (redrawn w p.d) p.os:=fun d os=>by
 have hb:=below_regrown w d os;have:=Tryz.strconv_Itoa z h0 h1 (Go.Sort.grow (redrawn w d) os) (L.below hb).tab
 exact Calls.regrown_of (this.mono fun e w'' ⟨h1,h2⟩=>⟨h1,Zcf h2⟩)
theorem Ka{w:World}{g:Nat}{a b:Value}{t:TypeId}(h:w.heap[g]?=some (.cells #[a,b] t (0,0))):
  w.cell? ⟨g,0,none⟩=some a∧w.cell? ⟨g,1,none⟩=some b∧w.frozen? ⟨g,0,none⟩=false∧w.frozen? ⟨g,1,none⟩=false:=by
 refine⟨by rw[cell_of_row w g 0 _ t (0,0) h];rfl,by rw[cell_of_row w g 1 _ t (0,0) h];rfl,?_,?_⟩
 ·simp[World.frozen?,h]
 ·simp[World.frozen?,h]
theorem Ks{w0 w:World}{B g:Nat}{a b:Value}(x y:Value)(k0:w.cell? ⟨g,0,none⟩=some a)(k1:w.cell? ⟨g,1,none⟩=some b)(hB:B≤g)(hb:Below B w0 w):
  ((w.setCell ⟨g,0,none⟩ x).setCell ⟨g,1,none⟩ y).cell? ⟨g,0,none⟩=some x∧((w.setCell ⟨g,0,none⟩ x).setCell ⟨g,1,none⟩ y).cell? ⟨g,1,none⟩=some y ∧
  Below B w0 ((w.setCell ⟨g,0,none⟩ x).setCell ⟨g,1,none⟩ y):=by
 refine⟨?_,?_,?_⟩
 ·rw[World.cell?_setCell_other _ _ _ _ (by simp),World.cell?_setCell_same _ _ _ k0]
 ·rw[World.cell?_setCell_same _ _ _ (by rw[World.cell?_setCell_other _ _ _ _ (by simp)];exact k1)]
 ·exact(hb.setCell (p:=⟨g,0,none⟩) hB x).setCell (p:=⟨g,1,none⟩) hB y
theorem Znb(w:World)(n:Int)(d g:Nat)(hn:n.natAbs<9223372036854775808)(hd:d<9223372036854775808)(fu:0<d)(hg:Nat.gcd n.natAbs d=g)(L:Qd w):
  Kc Tryz.prog 124 #[.int .i64 n,.int .i64 d] w (fv (n/(g:Int)) (d/g)):=by
 unfold Kc fv;have fQ:0<g:=by rw[← hg];exact Nat.gcd_pos_of_pos_right _ fu
 have bZ:g ∣ d:=by rw[← hg];exact Nat.gcd_dvd_right _ _
 have Dr:(g:Int) ∣ n:=by rw[← hg];exact Int.gcd_dvd_left n (d:Int)
 have Hg:=hd_ hg;have HL:=hd_ L;clear hg L;have gj:=hd_ ((Below.refl w.heap.size w).alloc nr_ (.cells #[.string ⟨#[]⟩,.string ⟨#[]⟩] 42));go_enter Tryz.func124,Tryz.ntmps124
 go_wp2_with fail
 go_loopw [5,6] (fun p q wr=>∃ x y:Int,x.natAbs<9223372036854775808∧y.natAbs<9223372036854775808∧p = .int .i64 x∧q = .int .i64 y∧Hid (Nat.gcd x.natAbs y.natAbs=g)∧Hid (∃ k,wr=(w.alloc (.cells #[.string ⟨#[]⟩,.string ⟨#[]⟩] 42)).drewN k)) (fun _ q _=>(intOf q).natAbs)
 case atStart=>exact⟨n,d,hn,by omega,rfl,rfl,Hg.out,⟨0,rfl⟩⟩
 case round =>
  obtain⟨x,y,hx,hy,rfl,rfl,Hxy,Hw⟩:=hrel
  by_cases h0:y=0
  ·subst h0;have nY:x.natAbs=g:=by
    have:=Hxy.out
    rw[show (0:Int).natAbs=0 from rfl,Nat.gcd_zero_right] at this
    exact this
   have OL:g≤9223372036854775807:=by omega
   have OT:((g:Int)==0)=false:=by rw[beq_eq_false_iff_ne];omega
   have AZ:Int.tdiv n (g:Int)=n/(g:Int):=Int.tdiv_eq_ediv_of_dvd Dr;have JA:Int.tdiv (d:Int) (g:Int)=((d/g:Nat):Int):=by rw[← Int.ofNat_tdiv]
   have bU:(n/(g:Int)).natAbs≤n.natAbs:=by
    rw[← AZ,Int.natAbs_tdiv];exact Nat.div_le_self _ _
   have dB:d/g≤d:=Nat.div_le_self _ _;have GR : -9223372036854775808≤n/(g:Int):=by omega
   have Gh:n/(g:Int)≤9223372036854775807:=by omega
   have bh : -9223372036854775808≤((d/g:Nat):Int):=Int.le_trans (by decide) (Int.natCast_nonneg _)
   have CT:((d/g:Nat):Int)≤9223372036854775807:=Int.le_trans (Int.ofNat_le.2 dB) (by omega)
   have fM:IntKind.i64.wrap (n/(g:Int))=n/(g:Int):=iw_ _ ⟨GR,Gh⟩;have fL:IntKind.i64.wrap ((d/g:Nat):Int)=((d/g:Nat):Int):=iw_ _ ⟨bh,CT⟩;have MQ:Hid (∀ W,Below w.heap.size w W→∀ d' os,Calls Tryz.prog 144 #[.int .i64 (n/(g:Int))] (Go.Sort.grow (redrawn W d') os) fun e w''=>e = .returned (.string (itx (n/(g:Int))))∧∃ p:Regrown,w''=Go.Sort.grow (redrawn W p.d) p.os):=fun W hW=>Zfh W _ GR Gh (HL.out.below hW)
   have MP:Hid (∀ W,Below w.heap.size w W→∀ d' os,Calls Tryz.prog 144 #[.int .i64 ((d/g:Nat):Int)] (Go.Sort.grow (redrawn W d') os) fun e w''=>e = .returned (.string (dec (d/g)))∧∃ p:Regrown,w''=Go.Sort.grow (redrawn W p.d) p.os):=fun W hW=>by
    have:=Zfh W ((d/g:Nat):Int) bh CT (HL.out.below hW)
    rw[Kj] at this;exact this
   have ed:Hid (Below w.heap.size w wr):=by
    obtain⟨k,hk⟩:=Hw.out
    show Below _ _ _
    rw[hk];exact Qh gj.out _
   have gv:Hid (wr.heap[w.heap.size]?=some (.cells #[.string ⟨#[]⟩,.string ⟨#[]⟩] 42 (0,0))):=by
    obtain⟨k,hk⟩:=Hw.out
    show _=_
    rw[hk];exact heap_alloc_new w _
   have gY:=MQ.out wr ed.out;have gV:=MP.out wr ed.out;clear Hw MQ MP bZ Dr bU dB Hxy;obtain⟨rs,hrs⟩:∃ rs,itx (n/(g:Int))=rs:=⟨_,rfl⟩;obtain⟨rt,hrt⟩:∃ rt,dec (d/g)=rt:=⟨_,rfl⟩;rw[hrs] at gY;rw[hrt] at gV;have DA:=hd_ hrs;have Dz:=hd_ hrt;clear hrs hrt;generalize n/(g:Int)=q1 at AZ GR Gh fM gY;generalize ((d/g:Nat):Int)=q2 at JA bh CT fL gV
   by_cases G5:x<0
   ·have Jt : -x=(g:Int):=by omega
    have OB:IntKind.i64.wrap (-x)=(g:Int):=by rw[Jt];exact iw_ _ (by omega)
    have pD:=hd_ Jt;clear Jt
    go_wp2_with fail
    refine Kx 9 (by kernel_rfl) (by kernel_rfl) ?_
    simp only[List.take_succ_cons,List.take_zero,List.drop_succ_cons,List.drop_zero]
    repeat (first | go_big_quiet_step (first | with_reducible exact gY _ _ | with_reducible exact gV _ _) | quiet_step (first | with_reducible exact gY _ _ | with_reducible exact gV _ _))
    refine wpQuiet_nil ?_;intro w2 fL;obtain⟨⟨dq,osq⟩,rfl⟩:=fL;have HU:=below_regrown wr dq osq;have da:Hid ((Go.Sort.grow (redrawn wr dq) osq).heap[w.heap.size]?=some (.cells #[.string ⟨#[]⟩,.string ⟨#[]⟩] 42 (0,0))):=by
     show _=_
     rw[HU.block _ (by have:=gv.out;exact(Array.getElem?_eq_some_iff.1 this).1)];exact gv.out
    have H6:=hd_ (ed.out.trans (HU.mono ed.out.size));clear HU gY gV gv;generalize Go.Sort.grow (redrawn wr dq) osq=w2 at *
    obtain⟨k0,k1,f0,f1⟩:=Ka da.out;go_wp2;obtain⟨c0,c1,hb3⟩:=Ks (.string rs) (.string rt) k0 k1 nr_ H6.out;generalize (w2.setCell ⟨w.heap.size,0,none⟩ (.string rs)).setCell ⟨w.heap.size,1,none⟩ (.string rt)=w3 at *
    exact bodyPost_ret (v := .agg #[.string rs,.string rt]) (by simp[results,Tryz.results124,go_sem,c0,c1]) rfl ⟨by rw[DA.out,Dz.out],hb3⟩
   ·have nX:x=(g:Int):=by omega
    clear nY;subst nX
    go_wp2_with fail
    refine Kx 9 (by kernel_rfl) (by kernel_rfl) ?_
    simp only[List.take_succ_cons,List.take_zero,List.drop_succ_cons,List.drop_zero]
    repeat (first | go_big_quiet_step (first | with_reducible exact gY _ _ | with_reducible exact gV _ _) | quiet_step (first | with_reducible exact gY _ _ | with_reducible exact gV _ _))
    refine wpQuiet_nil ?_;intro w2 fL;obtain⟨⟨dq,osq⟩,rfl⟩:=fL;have HU:=below_regrown wr dq osq;have da:Hid ((Go.Sort.grow (redrawn wr dq) osq).heap[w.heap.size]?=some (.cells #[.string ⟨#[]⟩,.string ⟨#[]⟩] 42 (0,0))):=by
     show _=_
     rw[HU.block _ (by have:=gv.out;exact(Array.getElem?_eq_some_iff.1 this).1)];exact gv.out
    have H6:=hd_ (ed.out.trans (HU.mono ed.out.size));clear HU gY gV gv;generalize Go.Sort.grow (redrawn wr dq) osq=w2 at *
    obtain⟨k0,k1,f0,f1⟩:=Ka da.out;go_wp2;obtain⟨c0,c1,hb3⟩:=Ks (.string rs) (.string rt) k0 k1 nr_ H6.out;generalize (w2.setCell ⟨w.heap.size,0,none⟩ (.string rs)).setCell ⟨w.heap.size,1,none⟩ (.string rt)=w3 at *
    exact bodyPost_ret (v := .agg #[.string rs,.string rt]) (by simp[results,Tryz.results124,go_sem,c0,c1]) rfl ⟨by rw[DA.out,Dz.out],hb3⟩
  ·have nU:(y==0)=false:=by rw[beq_eq_false_iff_ne];exact h0
   have eF:(Int.tmod x y).natAbs=x.natAbs%y.natAbs:=Int.natAbs_tmod x y;have H9:(Int.tmod x y).natAbs<y.natAbs:=by rw[eF];exact Nat.mod_lt _ (by omega)
   have o9:Hid (Nat.gcd y.natAbs (Int.tmod x y).natAbs=g):=by
    show _=_
    rw[eF,Zjq];exact Hxy.out
   have FQ:IntKind.i64.wrap (Int.tmod x y)=Int.tmod x y:=iw_ _ (by omega)
   have oK:Hid (∃ k,wr=(w.alloc (.cells #[.string ⟨#[]⟩,.string ⟨#[]⟩] 42)).drewN k):=Hw.out;have Ef:=hd_ H9;clear eF Hxy Hw
   go_wp2_with fail
   go_quiet (fail)
   go_wp2
   go_roundw
   case rel =>
    refine⟨y,Int.tmod x y,hy,by omega,rfl,rfl,o9,?_⟩
    obtain⟨k,hk⟩:=oK.out;exact⟨k+nq,by rw[hk];exact World.drewN_drewN _ _ _⟩
   case measure=>exact Ef.out
theorem Kk{W0 wk:World}{g:Nat}{a b:Value}{t:TypeId}(h:W0.heap[g]?=some (.cells #[a,b] t (0,0)))(hb:Below W0.heap.size W0 wk):
  wk.heap[g]?=some (.cells #[a,b] t (0,0)):=by
 rw[hb.block g (Array.getElem?_eq_some_iff.1 h).1];exact h
theorem Zfu{d:Nat}(h:0<d):((d:Nat):Int).sign=1:=Int.sign_eq_one_of_pos (by omega)
theorem Zb8(w:World)(n:Int)(d g:Nat)(hn:Zbg n)(hd:Num d)(fu:0<d)(fN:Num (n.natAbs+1))(G1:Num (d+1))(hg:Nat.gcd n.natAbs d=g)(L:Qd w):
  Kc Tryz.prog 125 #[.string (itx n),.string (dec d)] w (fv (n/(g:Int)) (d/g)):=by
 unfold Kc fv;have fQ:0<g:=by rw[← hg];exact Nat.gcd_pos_of_pos_right _ fu
 have fy:g≤d:=by rw[← hg];exact Nat.gcd_le_right _ fu
 have Dr:Num g:=hd.le fy;have gj:=hd_ ((Below.refl w.heap.size w).alloc nr_ (.cells #[.string ⟨#[]⟩,.string ⟨#[]⟩] 42));have gi:Hid ((w.alloc (.cells #[.string ⟨#[]⟩,.string ⟨#[]⟩] 42)).heap[w.heap.size]?=some (.cells #[.string ⟨#[]⟩,.string ⟨#[]⟩] 42 (0,0))):=heap_alloc_new w _;have HL:=hd_ (L.below gj.out);have Ga:Hid (∀ W,Kc Tryz.prog 84 #[.string (dec d)] W (.int .i64 1)):=fun W=>by
  have:=Yk W (d:Int)
  rw[Kj,Zfu fu] at this;exact this
 clear L;go_enter Tryz.func125,Tryz.ntmps125
 go_wp2_with fail
 generalize w.alloc (.cells #[.string ⟨#[]⟩,.string ⟨#[]⟩] 42)=W0 at *
 have fG:Hid (∀ W,Below W0.heap.size W0 W→Kc Tryz.prog 188 #[.string (itx n),.string (dec d)] W (.string (dec g))):=fun W hW=>by
  have:=Zjp W n (d:Int) hn (show Num _ from hd) (HL.out.below hW)
  rw[Kj,show Int.gcd n (d:Int)=g from hg] at this
  exact this
 have FM:Hid (∀ W,Below W0.heap.size W0 W→Kc Tryz.prog 163 #[.string (itx n),.string (dec g)] W (.tuple #[.string (itx (n/(g:Int))),.string (itx (n%(g:Int))),.int .i64 0])):=fun W hW=>Yg W n g hn Dr fQ fN (HL.out.below hW)
 have eC:Hid (∀ W,Below W0.heap.size W0 W→Kc Tryz.prog 163 #[.string (dec d),.string (dec g)] W (.tuple #[.string (dec (d/g)),.string (itx ((d:Int)%(g:Int))),.int .i64 0])):=fun W hW=>by
  have:=Yg W (d:Int) g (show Num _ from hd) Dr fQ (show Num (d+1) from G1) (HL.out.below hW)
  rw[Kj,show (d:Int)/(g:Int)=((d/g:Nat):Int) from rfl,Kj] at this
  exact this
 have ho:=Zil g
 by_cases h1:g=1
 ·have DA:Hid (itx (n/(g:Int))=itx n):=by show _=_;rw[h1];congr 1;exact Int.ediv_one n
  have Dz:Hid (dec (d/g)=dec d):=by show _=_;rw[h1,Nat.div_one]
  rw[decide_eq_true h1] at ho;clear h1 FM eC hg fQ fy Dr hn hd fN G1;obtain⟨s,hs⟩:∃ s,itx n=s:=⟨_,rfl⟩;obtain⟨t,ht⟩:∃ t,dec d=t:=⟨_,rfl⟩;rw[hs] at DA fG ⊢;rw[ht] at Dz fG Ga ⊢;clear hs ht;generalize dec g=u at *
  refine cm_ (Ga.out _) ?_;rintro e w1 ⟨rfl,hZ⟩;have HQ:=hd_ hZ;clear hZ Ga
  go_wp2_with fail
  refine cm_ (fG.out w1 HQ.out) ?_;rintro e w2 ⟨rfl,HU⟩;have H6:=hd_ (HQ.out.trans (HU.mono HQ.out.size));clear HU HQ fG;have gv:=hd_ (Kk gi.out H6.out);have gP:=hd_ (gj.out.trans (H6.out.mono gj.out.size));obtain⟨k0,k1,f0,f1⟩:=Ka gv.out;clear H6 gj gv gi HL;go_wp2;obtain⟨c0,c1,hb3⟩:=Ks (.string s) (.string t) k0 k1 nr_ gP.out;generalize (w2.setCell ⟨w.heap.size,0,none⟩ (.string s)).setCell ⟨w.heap.size,1,none⟩ (.string t)=w9 at *
  exact bodyPost_ret (v := .agg #[.string s,.string t]) (by simp[results,Tryz.results125,go_sem,c0,c1]) rfl ⟨by rw[DA.out,Dz.out],hb3⟩
 ·rw[decide_eq_false h1] at ho;obtain⟨rs,hrs⟩:∃ rs,itx (n/(g:Int))=rs:=⟨_,rfl⟩;obtain⟨rt,hrt⟩:∃ rt,dec (d/g)=rt:=⟨_,rfl⟩;rw[hrs] at FM;rw[hrt] at eC;have DA:=hd_ hrs;have Dz:=hd_ hrt;clear h1 hg fQ fy Dr hn hd fN G1 hrs hrt;generalize itx (n%(g:Int))=e1 at FM;generalize itx ((d:Int)%(g:Int))=e2 at eC;obtain⟨s,hs⟩:∃ s,itx n=s:=⟨_,rfl⟩;obtain⟨t,ht⟩:∃ t,dec d=t:=⟨_,rfl⟩;obtain⟨u,hu⟩:∃ u,dec g=u:=⟨_,rfl⟩;rw[hs] at FM fG ⊢;rw[ht] at eC fG Ga ⊢;rw[hu] at FM eC fG ho;clear hs ht hu;refine cm_ (Ga.out _) ?_;rintro e w1 ⟨rfl,hZ⟩;have HQ:=hd_ hZ;clear hZ Ga
  go_wp2_with fail
  refine cm_ (fG.out w1 HQ.out) ?_;rintro e w2 ⟨rfl,HU⟩;have H6:=hd_ (HQ.out.trans (HU.mono HQ.out.size));clear HU HQ fG
  go_wp2_with fail
  refine cm_ (FM.out w2 H6.out) ?_;rintro e w3 ⟨rfl,hb3⟩;have gd:=hd_ (H6.out.trans (hb3.mono H6.out.size));clear hb3 H6 FM
  go_wp2_with fail
  refine cm_ (eC.out w3 gd.out) ?_;rintro e w4 ⟨rfl,gw⟩;have gl:=hd_ (gd.out.trans (gw.mono gd.out.size));clear gw gd eC;have gv:=hd_ (Kk gi.out gl.out);have gP:=hd_ (gj.out.trans (gl.out.mono gj.out.size));obtain⟨k0,k1,f0,f1⟩:=Ka gv.out;clear gl gj gv gi HL;go_wp2;obtain⟨c0,c1,hb3⟩:=Ks (.string rs) (.string rt) k0 k1 nr_ gP.out;generalize (w4.setCell ⟨w.heap.size,0,none⟩ (.string rs)).setCell ⟨w.heap.size,1,none⟩ (.string rt)=w9 at *
  exact bodyPost_ret (v := .agg #[.string rs,.string rt]) (by simp[results,Tryz.results125,go_sem,c0,c1]) rfl ⟨by rw[DA.out,Dz.out],hb3⟩
def Zkd (n:Int) (d:Nat):Value:=fv (n/((Nat.gcd n.natAbs d:Nat):Int)) (d/Nat.gcd n.natAbs d)
structure Zhx (w:World) (s t s' t':ByteArray) (W0:World):Prop where
 fa:W0.heap[w.heap.size]?=some (.cells #[.string s,.string t] 42 (0,0))
 fb:W0.heap[w.heap.size+1]?=some (.cells #[.string s',.string t'] 42 (0,0))
 fr:W0.heap[w.heap.size+1+1]?=some (.cells #[.string ⟨#[]⟩,.string ⟨#[]⟩] 42 (0,0))
 bel:Below w.heap.size w W0
theorem Zhx.mk'(w:World)(s t s' t':ByteArray):Zhx w s t s' t' (((w.alloc (.cells #[.string s,.string t] 42)).alloc (.cells #[.string s',.string t'] 42)).alloc (.cells #[.string ⟨#[]⟩,.string ⟨#[]⟩] 42)):=by
 have hA:=heap_alloc_new w (.cells #[.string s,.string t] 42);have hB:=heap_alloc_new (w.alloc (.cells #[.string s,.string t] 42)) (.cells #[.string s',.string t'] 42);have hR:=heap_alloc_new ((w.alloc (.cells #[.string s,.string t] 42)).alloc (.cells #[.string s',.string t'] 42)) (.cells #[.string ⟨#[]⟩,.string ⟨#[]⟩] 42);have e1:(w.alloc (.cells #[.string s,.string t] 42)).heap.size=w.heap.size+1:=by simp
 have e2:((w.alloc (.cells #[.string s,.string t] 42)).alloc (.cells #[.string s',.string t'] 42)).heap.size=w.heap.size+1+1:=by simp
 refine⟨?_,?_,?_,?_⟩
 ·exact Kk hA (((Below.refl _ _).alloc nr_ _).alloc (by simp) _)
 ·rw[e1] at hB;exact Kk hB ((Below.refl _ _).alloc nr_ _)
 ·rw[e2] at hR;exact hR
 ·exact(((Below.refl _ _).alloc nr_ _).alloc (by simp) _).alloc (by simp;omega) _
theorem Zhx.next{w W0 W:World}{s t s' t':ByteArray}(h:Zhx w s t s' t' W0)(hb:Below W0.heap.size W0 W):Zhx w s t s' t' W :=
 ⟨Kk h.fa hb,Kk h.fb hb,Kk h.fr hb,h.bel.trans (hb.mono h.bel.size)⟩
theorem Zis(w:World)(n:Int)(d:Nat)(hn:Zbg n)(hd:Num d):
  (((itx n).size≤9∧(dec d).size≤9)∧Kc Tryz.prog 113 #[fv n d] w (.tuple #[.int .i64 n,.int .i64 d,.bool true])) ∨
  (¬ ((itx n).size≤9∧(dec d).size≤9)∧∃ x y:Int,∀ W,Kc Tryz.prog 113 #[fv n d] W (.tuple #[.int .i64 x,.int .i64 y,.bool false])):=by
 by_cases h1:(itx n).size≤9
 ·by_cases h2:(dec d).size≤9
  ·left;have:=Zhg w n d hn hd
   unfold Zuu at this;rw[if_pos h1,if_pos h2,decide_eq_true h1,decide_eq_true h2] at this;exact⟨⟨h1,h2⟩,this⟩
  ·right;refine⟨fun h=>h2 h.2,n,0,fun W=>?_⟩
   have:=Zhg W n d hn hd
   unfold Zuu at this;rw[if_pos h1,if_neg h2,decide_eq_false h2,Bool.and_false] at this;exact this
 ·right;refine⟨fun h=>h1 h.1,0,if (dec d).size≤9 then d else 0,fun W=>?_⟩
  have:=Zhg W n d hn hd
  unfold Zuu at this;rw[if_neg h1,decide_eq_false h1,Bool.false_and] at this;exact this
theorem Zl(n:Int)(d:Nat)(hn:Zbg n)(hd:Num d)(h:(itx n).size≤9∧(dec d).size≤9)(W:World):
  Kc Tryz.prog 113 #[fv n d] W (.tuple #[.int .i64 n,.int .i64 d,.bool true]):=by
 rcases Zis W n d hn hd with⟨-,h2⟩|⟨h2,-⟩
 ·exact h2
 ·exact absurd h h2
theorem Zm(n:Int)(d:Nat)(hn:Zbg n)(hd:Num d)(h:¬ ((itx n).size≤9∧(dec d).size≤9)):
  ∃ x y:Int,∀ W,Kc Tryz.prog 113 #[fv n d] W (.tuple #[.int .i64 x,.int .i64 y,.bool false]):=by
 rcases Zis default n d hn hd with⟨h2,-⟩|⟨-,h2⟩
 ·exact absurd h2 h
 ·exact h2
theorem Zv4(w:World)(n m:Int)(d e:Nat)(hn:Zbg n)(hm:Zbg m)(hd:Num d)(he:Num e)(fu:0<d)(jF:0<e)(dt:Num ((n*m).natAbs+1))(hde:Num (d*e+1))(L:Qd w):
  Kc Tryz.prog 47 #[fv n d,fv m e] w (Zkd (n*m) (d*e)):=by
 obtain⟨rs,hrs⟩:∃ rs,itx (n*m/((Nat.gcd (n*m).natAbs (d*e):Nat):Int))=rs:=⟨_,rfl⟩;obtain⟨rt,hrt⟩:∃ rt,dec (d*e/Nat.gcd (n*m).natAbs (d*e))=rt:=⟨_,rfl⟩;have hv:Zkd (n*m) (d*e) = .agg #[.string rs,.string rt]:=by unfold Zkd fv;rw[hrs,hrt]
 have Hv:=hd_ hv;have G9:0<d*e:=Nat.mul_pos fu jF;unfold Kc;have H3:=hd_ (Zhx.mk' w (itx n) (dec d) (itx m) (dec e));have HL:=hd_ (L.below H3.out.bel);clear L;have GS:Hid (∀ W,Below (((w.alloc (.cells #[.string (itx n),.string (dec d)] 42)).alloc (.cells #[.string (itx m),.string (dec e)] 42)).alloc (.cells #[.string ⟨#[]⟩,.string ⟨#[]⟩] 42)).heap.size (((w.alloc (.cells #[.string (itx n),.string (dec d)] 42)).alloc (.cells #[.string (itx m),.string (dec e)] 42)).alloc (.cells #[.string ⟨#[]⟩,.string ⟨#[]⟩] 42)) W→∀ d' os,Calls Tryz.prog 115 #[.string (itx n),.string (itx m)] (Go.Sort.grow (redrawn W d') os) fun x w''=>x = .returned (.string (itx (n*m)))∧∃ p:Regrown,w''=Go.Sort.grow (redrawn W p.d) p.os):=fun W hW d' os =>
  Calls.regrown_of (Yx _ n m hn hm (dt.le (Nat.le_succ _)) ((HL.out.below hW).below (below_regrown W d' os)))
 have GH:Hid (∀ W,Below (((w.alloc (.cells #[.string (itx n),.string (dec d)] 42)).alloc (.cells #[.string (itx m),.string (dec e)] 42)).alloc (.cells #[.string ⟨#[]⟩,.string ⟨#[]⟩] 42)).heap.size (((w.alloc (.cells #[.string (itx n),.string (dec d)] 42)).alloc (.cells #[.string (itx m),.string (dec e)] 42)).alloc (.cells #[.string ⟨#[]⟩,.string ⟨#[]⟩] 42)) W→∀ d' os,Calls Tryz.prog 115 #[.string (dec d),.string (dec e)] (Go.Sort.grow (redrawn W d') os) fun x w''=>x = .returned (.string (dec (d*e)))∧∃ p:Regrown,w''=Go.Sort.grow (redrawn W p.d) p.os):=fun W hW d' os=>by
  have:=Yx (Go.Sort.grow (redrawn W d') os) (d:Int) (e:Int) (show Num _ from hd) (show Num _ from he) (show Num _ from by rw[Int.natAbs_mul];exact hde.le (Nat.le_succ _)) ((HL.out.below hW).below (below_regrown W d' os))
  rw[Kj,Kj,← Int.natCast_mul,Kj] at this;exact Calls.regrown_of this
 have Fa:Hid (∀ W,Below (((w.alloc (.cells #[.string (itx n),.string (dec d)] 42)).alloc (.cells #[.string (itx m),.string (dec e)] 42)).alloc (.cells #[.string ⟨#[]⟩,.string ⟨#[]⟩] 42)).heap.size (((w.alloc (.cells #[.string (itx n),.string (dec d)] 42)).alloc (.cells #[.string (itx m),.string (dec e)] 42)).alloc (.cells #[.string ⟨#[]⟩,.string ⟨#[]⟩] 42)) W→∀ d' os,Calls Tryz.prog 125 #[.string (itx (n*m)),.string (dec (d*e))] (Go.Sort.grow (redrawn W d') os) fun x w''=>x = .returned (.agg #[.string rs,.string rt])∧∃ p:Regrown,w''=Go.Sort.grow (redrawn W p.d) p.os):=fun W hW d' os=>by
  have:=Zb8 (Go.Sort.grow (redrawn W d') os) (n*m) (d*e) _ (dt.le (Nat.le_succ _)) (hde.le (Nat.le_succ _)) G9 dt hde rfl ((HL.out.below hW).below (below_regrown W d' os))
  unfold fv at this;rw[hrs,hrt] at this;exact Calls.regrown_of this
 by_cases h1:(itx n).size≤9∧(dec d).size≤9
 ·have gD:=hd_ (Zl n d hn hd h1)
  by_cases h2:(itx m).size≤9∧(dec e).size≤9
  ·have gN:=hd_ (Zl m e hm he h2);have q1:=Zd n 9 (by decide) h1.1
   have q2:=Zd m 9 (by decide) h2.1
   have q3:=(Ku d 9 (by decide)).1 (by rw[← Ky];exact h1.2)
   have q4:=(Ku e 9 (by decide)).1 (by rw[← Ky];exact h2.2)
   have q5:(n*m).natAbs≤1000000000*1000000000:=by rw[Int.natAbs_mul];exact Nat.mul_le_mul (by omega) (by omega)
   have q6:d*e≤1000000000*1000000000:=Nat.mul_le_mul (by omega) (by omega)
   have fM:IntKind.i64.wrap (n*m)=n*m:=iw_ _ (by omega)
   have fL:IntKind.i64.wrap ((d:Int)*(e:Int))=((d*e:Nat):Int):=by rw[← Int.natCast_mul];exact iw_ _ ⟨Int.le_trans (by decide) (Int.natCast_nonneg _),Int.le_trans (Int.ofNat_le.2 q6) (by decide)⟩
   have Gg:Hid (∀ W,Below (((w.alloc (.cells #[.string (itx n),.string (dec d)] 42)).alloc (.cells #[.string (itx m),.string (dec e)] 42)).alloc (.cells #[.string ⟨#[]⟩,.string ⟨#[]⟩] 42)).heap.size (((w.alloc (.cells #[.string (itx n),.string (dec d)] 42)).alloc (.cells #[.string (itx m),.string (dec e)] 42)).alloc (.cells #[.string ⟨#[]⟩,.string ⟨#[]⟩] 42)) W→Kc Tryz.prog 124 #[.int .i64 (n*m),.int .i64 ((d*e:Nat):Int)] W (.agg #[.string rs,.string rt])):=fun W hW=>by
    have:=Znb W (n*m) (d*e) _ (by omega) (by omega) G9 rfl (HL.out.below hW)
    unfold fv at this;rw[hrs,hrt] at this;exact this
   unfold fv at gD gN ⊢;clear GS GH Fa q1 q2 q3 q4 q5 q6 h1 h2 hrs hrt hv G9;go_enter Tryz.func47,Tryz.ntmps47;obtain⟨k0,k1,-,-⟩:=Ka H3.out.fa;obtain⟨k2,k3,-,-⟩:=Ka H3.out.fb
   go_wp2_with fail
   generalize ((w.alloc (.cells #[.string (itx n),.string (dec d)] 42)).alloc (.cells #[.string (itx m),.string (dec e)] 42)).alloc (.cells #[.string ⟨#[]⟩,.string ⟨#[]⟩] 42)=W0 at *
   clear k0 k1 k2 k3;refine cm_ (gD.out _) ?_;rintro e w1 ⟨rfl,hZ⟩;have HQ:=hd_ hZ;clear hZ gD;obtain⟨k0,k1,-,-⟩:=Ka (H3.out.next HQ.out).fa;obtain⟨k2,k3,-,-⟩:=Ka (H3.out.next HQ.out).fb
   go_wp2_with fail
   clear k0 k1 k2 k3;refine cm_ (gN.out _) ?_;rintro e w2 ⟨rfl,HU⟩;have H6:=hd_ (HQ.out.trans (HU.mono HQ.out.size));clear HU HQ gN
   go_wp2_with fail
   refine cm_ (Gg.out w2 H6.out) ?_;rintro e w3 ⟨rfl,hb3⟩;have gd:=hd_ (H6.out.trans (hb3.mono H6.out.size));clear hb3 H6 Gg;have H8:=hd_ (H3.out.next gd.out);clear H3 gd;obtain⟨k0,k1,f0,f1⟩:=Ka H8.out.fr;have gP:=hd_ H8.out.bel;clear H8;go_wp2;obtain⟨c0,c1,hb3⟩:=Ks (B:=w.heap.size) (.string rs) (.string rt) k0 k1 (by omega) gP.out
   generalize (w3.setCell ⟨w.heap.size+1+1,0,none⟩ (.string rs)).setCell ⟨w.heap.size+1+1,1,none⟩ (.string rt)=w9 at *
   exact bodyPost_ret (v := .agg #[.string rs,.string rt]) (by simp[results,Tryz.results47,go_sem,c0,c1]) rfl ⟨by rw[Hv.out],hb3⟩
  ·obtain⟨x,y,Gk⟩:=Zm m e hm he h2;have gN:=hd_ Gk;unfold fv at gD gN ⊢;clear h1 h2 hrs hrt hv G9 Gk;go_enter Tryz.func47,Tryz.ntmps47;obtain⟨k0,k1,-,-⟩:=Ka H3.out.fa;obtain⟨k2,k3,-,-⟩:=Ka H3.out.fb
   go_wp2_with fail
   generalize ((w.alloc (.cells #[.string (itx n),.string (dec d)] 42)).alloc (.cells #[.string (itx m),.string (dec e)] 42)).alloc (.cells #[.string ⟨#[]⟩,.string ⟨#[]⟩] 42)=W0 at *
   clear k0 k1 k2 k3;refine cm_ (gD.out _) ?_;rintro e w1 ⟨rfl,hZ⟩;have HQ:=hd_ hZ;clear hZ gD;obtain⟨k0,k1,-,-⟩:=Ka (H3.out.next HQ.out).fa;obtain⟨k2,k3,-,-⟩:=Ka (H3.out.next HQ.out).fb
   go_wp2_with fail
   clear k0 k1 k2 k3;refine cm_ (gN.out _) ?_;rintro e w2 ⟨rfl,HU⟩;have H6:=hd_ (HQ.out.trans (HU.mono HQ.out.size));clear HU HQ gN;obtain⟨k0,k1,-,-⟩:=Ka (H3.out.next H6.out).fa;obtain⟨k2,k3,-,-⟩:=Ka (H3.out.next H6.out).fb;have q0:=cell_regrown k0;have q1:=cell_regrown k1;have q2:=cell_regrown k2;have q3:=cell_regrown k3;have gY:=GS.out w2 H6.out;have gV:=GH.out w2 H6.out;have Gr:=Fa.out w2 H6.out;clear k0 k1 k2 k3 GS GH Fa
   go_wp2_with fail
   refine Kx 11 (by kernel_rfl) (by kernel_rfl) ?_
   simp only[List.take_succ_cons,List.take_zero,List.drop_succ_cons,List.drop_zero]
   repeat (first | go_big_quiet_step (first | with_reducible exact gY _ _ | with_reducible exact gV _ _ | with_reducible exact Gr _ _) | quiet_step (first | with_reducible exact gY _ _ | with_reducible exact gV _ _ | with_reducible exact Gr _ _))
   refine wpQuiet_nil ?_;intro w8 hw8;obtain⟨⟨dq,osq⟩,rfl⟩:=hw8;have GE:=below_regrown w2 dq osq;have H8:=hd_ ((H3.out.next H6.out).next GE);clear GE gY gV Gr q0 q1 q2 q3 H3 H6;generalize Go.Sort.grow (redrawn w2 dq) osq=w8 at *
   obtain⟨k0,k1,f0,f1⟩:=Ka H8.out.fr;have gP:=hd_ H8.out.bel;clear H8;go_wp2;obtain⟨c0,c1,hb3⟩:=Ks (B:=w.heap.size) (.string rs) (.string rt) k0 k1 (by omega) gP.out
   generalize (w8.setCell ⟨w.heap.size+1+1,0,none⟩ (.string rs)).setCell ⟨w.heap.size+1+1,1,none⟩ (.string rt)=w9 at *
   exact bodyPost_ret (v := .agg #[.string rs,.string rt]) (by simp[results,Tryz.results47,go_sem,c0,c1]) rfl ⟨by rw[Hv.out],hb3⟩
 ·obtain⟨x,y,gK⟩:=Zm n d hn hd h1;have gD:=hd_ gK;unfold fv at gD ⊢;clear h1 hrs hrt hv G9 gK;go_enter Tryz.func47,Tryz.ntmps47;obtain⟨k0,k1,-,-⟩:=Ka H3.out.fa;obtain⟨k2,k3,-,-⟩:=Ka H3.out.fb
  go_wp2_with fail
  generalize ((w.alloc (.cells #[.string (itx n),.string (dec d)] 42)).alloc (.cells #[.string (itx m),.string (dec e)] 42)).alloc (.cells #[.string ⟨#[]⟩,.string ⟨#[]⟩] 42)=W0 at *
  clear k0 k1 k2 k3;refine cm_ (gD.out _) ?_;rintro e w1 ⟨rfl,hZ⟩;have HQ:=hd_ hZ;clear hZ gD;obtain⟨k0,k1,-,-⟩:=Ka (H3.out.next HQ.out).fa;obtain⟨k2,k3,-,-⟩:=Ka (H3.out.next HQ.out).fb;have q0:=cell_regrown k0;have q1:=cell_regrown k1;have q2:=cell_regrown k2;have q3:=cell_regrown k3;have gY:=GS.out w1 HQ.out;have gV:=GH.out w1 HQ.out;have Gr:=Fa.out w1 HQ.out;clear k0 k1 k2 k3 GS GH Fa
  go_wp2_with fail
  refine Kx 11 (by kernel_rfl) (by kernel_rfl) ?_
  simp only[List.take_succ_cons,List.take_zero,List.drop_succ_cons,List.drop_zero]
  repeat (first | go_big_quiet_step (first | with_reducible exact gY _ _ | with_reducible exact gV _ _ | with_reducible exact Gr _ _) | quiet_step (first | with_reducible exact gY _ _ | with_reducible exact gV _ _ | with_reducible exact Gr _ _))
  refine wpQuiet_nil ?_;intro w8 hw8;obtain⟨⟨dq,osq⟩,rfl⟩:=hw8;have GE:=below_regrown w1 dq osq;have H8:=hd_ ((H3.out.next HQ.out).next GE);clear GE gY gV Gr q0 q1 q2 q3 H3 HQ;generalize Go.Sort.grow (redrawn w1 dq) osq=w8 at *
  obtain⟨k0,k1,f0,f1⟩:=Ka H8.out.fr;have gP:=hd_ H8.out.bel;clear H8;go_wp2;obtain⟨c0,c1,hb3⟩:=Ks (B:=w.heap.size) (.string rs) (.string rt) k0 k1 (by omega) gP.out
  generalize (w8.setCell ⟨w.heap.size+1+1,0,none⟩ (.string rs)).setCell ⟨w.heap.size+1+1,1,none⟩ (.string rt)=w9 at *
  exact bodyPost_ret (v := .agg #[.string rs,.string rt]) (by simp[results,Tryz.results47,go_sem,c0,c1]) rfl ⟨by rw[Hv.out],hb3⟩
theorem Zvu(x:Int):Zkd x 1=fv x 1:=by
 unfold Zkd;rw[Nat.gcd_one_right,show ((1:Nat):Int)=1 from rfl,Int.ediv_one]
theorem Zxo(w:World)(n m:Int)(d e:Nat)(hn:Zbg n)(hm:Zbg m)(hd:Num d)(he:Num e)(fu:0<d)(jF:0<e)
  (dt:Num ((n*e).natAbs+(m*d).natAbs+1)) (hnp:Num (n.natAbs+m.natAbs)) (hde:Num (d*e+1)) (L:Qd w) :
  Kc Tryz.prog 110 #[fv n d,fv m e] w (Zkd (n*e+m*d) (d*e)):=by
 have G9:0<d*e:=Nat.mul_pos fu jF;have fS:(n*e+m*d).natAbs≤(n*e).natAbs+(m*d).natAbs:=Int.natAbs_add_le _ _;have eG:Num ((n*e+m*d).natAbs+1):=dt.le (by omega)
 have gq:Num (n*e).natAbs:=dt.le (by omega)
 have bk:Num (m*d).natAbs:=dt.le (by omega)
 have H3:=hd_ (Zhx.mk' w (itx n) (dec d) (itx m) (dec e));have HL:=hd_ (L.below H3.out.bel);clear L;have o1:=Zil d;have o2:=Zil e
 by_cases fU:d=1∧e=1
 ·obtain⟨rfl,rfl⟩:=fU;obtain⟨rs,hrs⟩:∃ rs,itx (n+m)=rs:=⟨_,rfl⟩;obtain⟨rt,hrt⟩:∃ rt,dec 1=rt:=⟨_,rfl⟩;have lR:=hd_ (hrt.symm.trans Vg);have hv:Zkd (n*(1:Nat)+m*(1:Nat)) (1*1) = .agg #[.string rs,.string rt]:=by
   rw[show (1*1:Nat)=1 from rfl,Zvu,show ((1:Nat):Int)=1 from rfl,Int.mul_one,Int.mul_one]
   unfold fv;rw[hrs,hrt]
  have Hv:=hd_ hv;unfold Kc;have Gl:Hid (∀ W,Below (((w.alloc (.cells #[.string (itx n),.string (dec 1)] 42)).alloc (.cells #[.string (itx m),.string (dec 1)] 42)).alloc (.cells #[.string ⟨#[]⟩,.string ⟨#[]⟩] 42)).heap.size (((w.alloc (.cells #[.string (itx n),.string (dec 1)] 42)).alloc (.cells #[.string (itx m),.string (dec 1)] 42)).alloc (.cells #[.string ⟨#[]⟩,.string ⟨#[]⟩] 42)) W→Kc Tryz.prog 20 #[.string (itx n),.string (itx m)] W (.string rs)):=fun W hW=>by
   have:=Zf1 W n m hn hm hnp (HL.out.below hW)
   rw[hrs] at this;exact this
  rw[decide_eq_true rfl] at o1 o2;unfold fv;rw[hrt] at H3 HL Gl o1 o2 ⊢;clear hv hrs hrt gq bk eG fS dt hde G9 hd he;go_enter Tryz.func110,Tryz.ntmps110;obtain⟨k0,k1,-,-⟩:=Ka H3.out.fa;obtain⟨k2,k3,-,-⟩:=Ka H3.out.fb
  go_wp2_with fail
  generalize ((w.alloc (.cells #[.string (itx n),.string (rt)] 42)).alloc (.cells #[.string (itx m),.string (rt)] 42)).alloc (.cells #[.string ⟨#[]⟩,.string ⟨#[]⟩] 42)=W0 at *
  clear k0 k1 k2 k3;refine cm_ (Gl.out _ (Below.refl _ _)) ?_;rintro e w1 ⟨rfl,hZ⟩;have HQ:=hd_ hZ;clear hZ Gl;have H8:=hd_ (H3.out.next HQ.out);clear H3 HQ;rw[lR.out] at *
  obtain⟨k0,k1,f0,f1⟩:=Ka H8.out.fr;have gP:=hd_ H8.out.bel;clear H8;go_wp2;obtain⟨c0,c1,hb3⟩:=Ks (B:=w.heap.size) (.string rs) (.string ⟨#[49]⟩) k0 k1 (by omega) gP.out
  generalize (w1.setCell ⟨w.heap.size+1+1,0,none⟩ (.string rs)).setCell ⟨w.heap.size+1+1,1,none⟩ (.string ⟨#[49]⟩)=w9 at *
  exact bodyPost_ret (v := .agg #[.string rs,.string ⟨#[49]⟩]) (by simp[results,Tryz.results110,go_sem,c0,c1]) rfl ⟨by rw[Hv.out],hb3⟩
 ·obtain⟨rs,hrs⟩:∃ rs,itx ((n*e+m*d)/((Nat.gcd (n*e+m*d).natAbs (d*e):Nat):Int))=rs:=⟨_,rfl⟩;obtain⟨rt,hrt⟩:∃ rt,dec (d*e/Nat.gcd (n*e+m*d).natAbs (d*e))=rt:=⟨_,rfl⟩;have hv:Zkd (n*e+m*d) (d*e) = .agg #[.string rs,.string rt]:=by unfold Zkd fv;rw[hrs,hrt]
  have Hv:=hd_ hv;unfold Kc;have GS:Hid (∀ W,Below (((w.alloc (.cells #[.string (itx n),.string (dec d)] 42)).alloc (.cells #[.string (itx m),.string (dec e)] 42)).alloc (.cells #[.string ⟨#[]⟩,.string ⟨#[]⟩] 42)).heap.size (((w.alloc (.cells #[.string (itx n),.string (dec d)] 42)).alloc (.cells #[.string (itx m),.string (dec e)] 42)).alloc (.cells #[.string ⟨#[]⟩,.string ⟨#[]⟩] 42)) W→∀ d' os,Calls Tryz.prog 115 #[.string (itx n),.string (dec e)] (Go.Sort.grow (redrawn W d') os) fun x w''=>x = .returned (.string (itx (n*e)))∧∃ p:Regrown,w''=Go.Sort.grow (redrawn W p.d) p.os):=fun W hW d' os=>by
   have:=Yx (Go.Sort.grow (redrawn W d') os) n (e:Int) hn (show Num _ from he) gq ((HL.out.below hW).below (below_regrown W d' os))
   rw[Kj] at this;exact Calls.regrown_of this
  have GH:Hid (∀ W,Below (((w.alloc (.cells #[.string (itx n),.string (dec d)] 42)).alloc (.cells #[.string (itx m),.string (dec e)] 42)).alloc (.cells #[.string ⟨#[]⟩,.string ⟨#[]⟩] 42)).heap.size (((w.alloc (.cells #[.string (itx n),.string (dec d)] 42)).alloc (.cells #[.string (itx m),.string (dec e)] 42)).alloc (.cells #[.string ⟨#[]⟩,.string ⟨#[]⟩] 42)) W→∀ d' os,Calls Tryz.prog 115 #[.string (itx m),.string (dec d)] (Go.Sort.grow (redrawn W d') os) fun x w''=>x = .returned (.string (itx (m*d)))∧∃ p:Regrown,w''=Go.Sort.grow (redrawn W p.d) p.os):=fun W hW d' os=>by
   have:=Yx (Go.Sort.grow (redrawn W d') os) m (d:Int) hm (show Num _ from hd) bk ((HL.out.below hW).below (below_regrown W d' os))
   rw[Kj] at this;exact Calls.regrown_of this
  have Fa:Hid (∀ W,Below (((w.alloc (.cells #[.string (itx n),.string (dec d)] 42)).alloc (.cells #[.string (itx m),.string (dec e)] 42)).alloc (.cells #[.string ⟨#[]⟩,.string ⟨#[]⟩] 42)).heap.size (((w.alloc (.cells #[.string (itx n),.string (dec d)] 42)).alloc (.cells #[.string (itx m),.string (dec e)] 42)).alloc (.cells #[.string ⟨#[]⟩,.string ⟨#[]⟩] 42)) W→∀ d' os,Calls Tryz.prog 20 #[.string (itx (n*e)),.string (itx (m*d))] (Go.Sort.grow (redrawn W d') os) fun x w''=>x = .returned (.string (itx (n*e+m*d)))∧∃ p:Regrown,w''=Go.Sort.grow (redrawn W p.d) p.os):=fun W hW d' os=>by
   exact Calls.regrown_of (Zf1 (Go.Sort.grow (redrawn W d') os) (n*e) (m*d) gq bk (dt.le (Nat.le_succ _)) ((HL.out.below hW).below (below_regrown W d' os)))
  have Ee:Hid (∀ W,Below (((w.alloc (.cells #[.string (itx n),.string (dec d)] 42)).alloc (.cells #[.string (itx m),.string (dec e)] 42)).alloc (.cells #[.string ⟨#[]⟩,.string ⟨#[]⟩] 42)).heap.size (((w.alloc (.cells #[.string (itx n),.string (dec d)] 42)).alloc (.cells #[.string (itx m),.string (dec e)] 42)).alloc (.cells #[.string ⟨#[]⟩,.string ⟨#[]⟩] 42)) W→∀ d' os,Calls Tryz.prog 115 #[.string (dec d),.string (dec e)] (Go.Sort.grow (redrawn W d') os) fun x w''=>x = .returned (.string (dec (d*e)))∧∃ p:Regrown,w''=Go.Sort.grow (redrawn W p.d) p.os):=fun W hW d' os=>by
   have:=Yx (Go.Sort.grow (redrawn W d') os) (d:Int) (e:Int) (show Num _ from hd) (show Num _ from he) (show Num _ from by rw[Int.natAbs_mul];exact hde.le (Nat.le_succ _)) ((HL.out.below hW).below (below_regrown W d' os))
   rw[Kj,Kj,← Int.natCast_mul,Kj] at this;exact Calls.regrown_of this
  have C0:Hid (∀ W,Below (((w.alloc (.cells #[.string (itx n),.string (dec d)] 42)).alloc (.cells #[.string (itx m),.string (dec e)] 42)).alloc (.cells #[.string ⟨#[]⟩,.string ⟨#[]⟩] 42)).heap.size (((w.alloc (.cells #[.string (itx n),.string (dec d)] 42)).alloc (.cells #[.string (itx m),.string (dec e)] 42)).alloc (.cells #[.string ⟨#[]⟩,.string ⟨#[]⟩] 42)) W→∀ d' os,Calls Tryz.prog 125 #[.string (itx (n*e+m*d)),.string (dec (d*e))] (Go.Sort.grow (redrawn W d') os) fun x w''=>x = .returned (.agg #[.string rs,.string rt])∧∃ p:Regrown,w''=Go.Sort.grow (redrawn W p.d) p.os):=fun W hW d' os=>by
   have:=Zb8 (Go.Sort.grow (redrawn W d') os) (n*e+m*d) (d*e) _ (eG.le (Nat.le_succ _)) (hde.le (Nat.le_succ _)) G9 eG hde rfl ((HL.out.below hW).below (below_regrown W d' os))
   unfold fv at this;rw[hrs,hrt] at this;exact Calls.regrown_of this
  by_cases G1:d=1
  ·rw[decide_eq_true G1] at o1;rw[decide_eq_false (fun h=>fU ⟨G1,h⟩)] at o2
   clear G1 fU
   by_cases h1:(itx n).size≤9∧(dec d).size≤9
   ·have gD:=hd_ (Zl n d hn hd h1)
    by_cases h2:(itx m).size≤9∧(dec e).size≤9
    ·have gN:=hd_ (Zl m e hm he h2);have q1:=Zd n 9 (by decide) h1.1
     have q2:=Zd m 9 (by decide) h2.1
     have q3:=(Ku d 9 (by decide)).1 (by rw[← Ky];exact h1.2)
     have q4:=(Ku e 9 (by decide)).1 (by rw[← Ky];exact h2.2)
     have q5:(n*e).natAbs≤1000000000*1000000000:=by rw[Int.natAbs_mul];exact Nat.mul_le_mul (by omega) (by omega)
     have q7:(m*d).natAbs≤1000000000*1000000000:=by rw[Int.natAbs_mul];exact Nat.mul_le_mul (by omega) (by omega)
     have q6:d*e≤1000000000*1000000000:=Nat.mul_le_mul (by omega) (by omega)
     have fM:IntKind.i64.wrap (n*e)=n*e:=iw_ _ (by omega)
     have DN:IntKind.i64.wrap (m*d)=m*d:=iw_ _ (by omega)
     have Ea:IntKind.i64.wrap (n*e+m*d)=n*e+m*d:=iw_ _ (by omega)
     have fL:IntKind.i64.wrap ((d:Int)*(e:Int))=((d*e:Nat):Int):=by rw[← Int.natCast_mul];exact iw_ _ ⟨Int.le_trans (by decide) (Int.natCast_nonneg _),Int.le_trans (Int.ofNat_le.2 q6) (by decide)⟩
     have Gg:Hid (∀ W,Below (((w.alloc (.cells #[.string (itx n),.string (dec d)] 42)).alloc (.cells #[.string (itx m),.string (dec e)] 42)).alloc (.cells #[.string ⟨#[]⟩,.string ⟨#[]⟩] 42)).heap.size (((w.alloc (.cells #[.string (itx n),.string (dec d)] 42)).alloc (.cells #[.string (itx m),.string (dec e)] 42)).alloc (.cells #[.string ⟨#[]⟩,.string ⟨#[]⟩] 42)) W→Kc Tryz.prog 124 #[.int .i64 (n*e+m*d),.int .i64 ((d*e:Nat):Int)] W (.agg #[.string rs,.string rt])):=fun W hW=>by
      have:=Znb W (n*e+m*d) (d*e) _ (by omega) (by omega) G9 rfl (HL.out.below hW)
      unfold fv at this;rw[hrs,hrt] at this;exact this
     unfold fv at gD gN ⊢;clear GS GH Fa Ee C0 q1 q2 q3 q4 q5 q6 q7 h1 h2 hrs hrt hv G9 fS;go_enter Tryz.func110,Tryz.ntmps110;obtain⟨k0,k1,-,-⟩:=Ka H3.out.fa;obtain⟨k2,k3,-,-⟩:=Ka H3.out.fb
     go_wp2_with fail
     generalize ((w.alloc (.cells #[.string (itx n),.string (dec d)] 42)).alloc (.cells #[.string (itx m),.string (dec e)] 42)).alloc (.cells #[.string ⟨#[]⟩,.string ⟨#[]⟩] 42)=W0 at *
     clear k0 k1 k2 k3;refine cm_ (gD.out _) ?_;rintro e w1 ⟨rfl,hZ⟩;have HQ:=hd_ hZ;clear hZ gD;obtain⟨k0,k1,-,-⟩:=Ka (H3.out.next HQ.out).fa;obtain⟨k2,k3,-,-⟩:=Ka (H3.out.next HQ.out).fb
     go_wp2_with fail
     clear k0 k1 k2 k3;refine cm_ (gN.out _) ?_;rintro e w2 ⟨rfl,HU⟩;have H6:=hd_ (HQ.out.trans (HU.mono HQ.out.size));clear HU HQ gN
     go_wp2_with fail
     refine cm_ (Gg.out w2 H6.out) ?_;rintro e w3 ⟨rfl,hb3⟩;have gd:=hd_ (H6.out.trans (hb3.mono H6.out.size));clear hb3 H6 Gg;have H8:=hd_ (H3.out.next gd.out);clear H3 gd;obtain⟨k0,k1,f0,f1⟩:=Ka H8.out.fr;have gP:=hd_ H8.out.bel;clear H8;go_wp2;obtain⟨c0,c1,hb3⟩:=Ks (B:=w.heap.size) (.string rs) (.string rt) k0 k1 (by omega) gP.out
     generalize (w3.setCell ⟨w.heap.size+1+1,0,none⟩ (.string rs)).setCell ⟨w.heap.size+1+1,1,none⟩ (.string rt)=w9 at *
     exact bodyPost_ret (v := .agg #[.string rs,.string rt]) (by simp[results,Tryz.results110,go_sem,c0,c1]) rfl ⟨by rw[Hv.out],hb3⟩
    ·obtain⟨x,y,Gk⟩:=Zm m e hm he h2;have gN:=hd_ Gk;unfold fv at gD gN ⊢;clear h1 h2 hrs hrt hv G9 Gk fS;go_enter Tryz.func110,Tryz.ntmps110;obtain⟨k0,k1,-,-⟩:=Ka H3.out.fa;obtain⟨k2,k3,-,-⟩:=Ka H3.out.fb
     go_wp2_with fail
     generalize ((w.alloc (.cells #[.string (itx n),.string (dec d)] 42)).alloc (.cells #[.string (itx m),.string (dec e)] 42)).alloc (.cells #[.string ⟨#[]⟩,.string ⟨#[]⟩] 42)=W0 at *
     clear k0 k1 k2 k3;refine cm_ (gD.out _) ?_;rintro e w1 ⟨rfl,hZ⟩;have HQ:=hd_ hZ;clear hZ gD;obtain⟨k0,k1,-,-⟩:=Ka (H3.out.next HQ.out).fa;obtain⟨k2,k3,-,-⟩:=Ka (H3.out.next HQ.out).fb
     go_wp2_with fail
     clear k0 k1 k2 k3;refine cm_ (gN.out _) ?_;rintro e w2 ⟨rfl,HU⟩;have H6:=hd_ (HQ.out.trans (HU.mono HQ.out.size));clear HU HQ gN;obtain⟨k0,k1,-,-⟩:=Ka (H3.out.next H6.out).fa;obtain⟨k2,k3,-,-⟩:=Ka (H3.out.next H6.out).fb;have q0:=cell_regrown k0;have q1:=cell_regrown k1;have q2:=cell_regrown k2;have q3:=cell_regrown k3;have gY:=GS.out w2 H6.out;have gV:=GH.out w2 H6.out;have Gr:=Fa.out w2 H6.out;have GN:=Ee.out w2 H6.out;have Fo:=C0.out w2 H6.out;clear k0 k1 k2 k3 GS GH Fa Ee C0
     go_wp2_with fail
     refine Kx 17 (by kernel_rfl) (by kernel_rfl) ?_
     simp only[List.take_succ_cons,List.take_zero,List.drop_succ_cons,List.drop_zero]
     repeat (first | go_big_quiet_step (first | with_reducible exact gY _ _ | with_reducible exact gV _ _ | with_reducible exact Gr _ _ | with_reducible exact GN _ _ | with_reducible exact Fo _ _) | quiet_step (first | with_reducible exact gY _ _ | with_reducible exact gV _ _ | with_reducible exact Gr _ _ | with_reducible exact GN _ _ | with_reducible exact Fo _ _))
     refine wpQuiet_nil ?_;intro w8 hw8;obtain⟨⟨dq,osq⟩,rfl⟩:=hw8;have GE:=below_regrown w2 dq osq;have H8:=hd_ ((H3.out.next H6.out).next GE);clear GE gY gV Gr GN Fo q0 q1 q2 q3 H3 H6;generalize Go.Sort.grow (redrawn w2 dq) osq=w8 at *
     obtain⟨k0,k1,f0,f1⟩:=Ka H8.out.fr;have gP:=hd_ H8.out.bel;clear H8;go_wp2;obtain⟨c0,c1,hb3⟩:=Ks (B:=w.heap.size) (.string rs) (.string rt) k0 k1 (by omega) gP.out
     generalize (w8.setCell ⟨w.heap.size+1+1,0,none⟩ (.string rs)).setCell ⟨w.heap.size+1+1,1,none⟩ (.string rt)=w9 at *
     exact bodyPost_ret (v := .agg #[.string rs,.string rt]) (by simp[results,Tryz.results110,go_sem,c0,c1]) rfl ⟨by rw[Hv.out],hb3⟩
   ·obtain⟨x,y,gK⟩:=Zm n d hn hd h1;have gD:=hd_ gK;unfold fv at gD ⊢;clear h1 hrs hrt hv G9 gK fS;go_enter Tryz.func110,Tryz.ntmps110;obtain⟨k0,k1,-,-⟩:=Ka H3.out.fa;obtain⟨k2,k3,-,-⟩:=Ka H3.out.fb
    go_wp2_with fail
    generalize ((w.alloc (.cells #[.string (itx n),.string (dec d)] 42)).alloc (.cells #[.string (itx m),.string (dec e)] 42)).alloc (.cells #[.string ⟨#[]⟩,.string ⟨#[]⟩] 42)=W0 at *
    clear k0 k1 k2 k3;refine cm_ (gD.out _) ?_;rintro e w1 ⟨rfl,hZ⟩;have HQ:=hd_ hZ;clear hZ gD;obtain⟨k0,k1,-,-⟩:=Ka (H3.out.next HQ.out).fa;obtain⟨k2,k3,-,-⟩:=Ka (H3.out.next HQ.out).fb;have q0:=cell_regrown k0;have q1:=cell_regrown k1;have q2:=cell_regrown k2;have q3:=cell_regrown k3;have gY:=GS.out w1 HQ.out;have gV:=GH.out w1 HQ.out;have Gr:=Fa.out w1 HQ.out;have GN:=Ee.out w1 HQ.out;have Fo:=C0.out w1 HQ.out;clear k0 k1 k2 k3 GS GH Fa Ee C0
    go_wp2_with fail
    refine Kx 17 (by kernel_rfl) (by kernel_rfl) ?_
    simp only[List.take_succ_cons,List.take_zero,List.drop_succ_cons,List.drop_zero]
    repeat (first | go_big_quiet_step (first | with_reducible exact gY _ _ | with_reducible exact gV _ _ | with_reducible exact Gr _ _ | with_reducible exact GN _ _ | with_reducible exact Fo _ _) | quiet_step (first | with_reducible exact gY _ _ | with_reducible exact gV _ _ | with_reducible exact Gr _ _ | with_reducible exact GN _ _ | with_reducible exact Fo _ _))
    refine wpQuiet_nil ?_;intro w8 hw8;obtain⟨⟨dq,osq⟩,rfl⟩:=hw8;have GE:=below_regrown w1 dq osq;have H8:=hd_ ((H3.out.next HQ.out).next GE);clear GE gY gV Gr GN Fo q0 q1 q2 q3 H3 HQ;generalize Go.Sort.grow (redrawn w1 dq) osq=w8 at *
    obtain⟨k0,k1,f0,f1⟩:=Ka H8.out.fr;have gP:=hd_ H8.out.bel;clear H8;go_wp2;obtain⟨c0,c1,hb3⟩:=Ks (B:=w.heap.size) (.string rs) (.string rt) k0 k1 (by omega) gP.out
    generalize (w8.setCell ⟨w.heap.size+1+1,0,none⟩ (.string rs)).setCell ⟨w.heap.size+1+1,1,none⟩ (.string rt)=w9 at *
    exact bodyPost_ret (v := .agg #[.string rs,.string rt]) (by simp[results,Tryz.results110,go_sem,c0,c1]) rfl ⟨by rw[Hv.out],hb3⟩
  ·rw[decide_eq_false G1] at o1;clear G1 fU o2
   by_cases h1:(itx n).size≤9∧(dec d).size≤9
   ·have gD:=hd_ (Zl n d hn hd h1)
    by_cases h2:(itx m).size≤9∧(dec e).size≤9
    ·have gN:=hd_ (Zl m e hm he h2);have q1:=Zd n 9 (by decide) h1.1
     have q2:=Zd m 9 (by decide) h2.1
     have q3:=(Ku d 9 (by decide)).1 (by rw[← Ky];exact h1.2)
     have q4:=(Ku e 9 (by decide)).1 (by rw[← Ky];exact h2.2)
     have q5:(n*e).natAbs≤1000000000*1000000000:=by rw[Int.natAbs_mul];exact Nat.mul_le_mul (by omega) (by omega)
     have q7:(m*d).natAbs≤1000000000*1000000000:=by rw[Int.natAbs_mul];exact Nat.mul_le_mul (by omega) (by omega)
     have q6:d*e≤1000000000*1000000000:=Nat.mul_le_mul (by omega) (by omega)
     have fM:IntKind.i64.wrap (n*e)=n*e:=iw_ _ (by omega)
     have DN:IntKind.i64.wrap (m*d)=m*d:=iw_ _ (by omega)
     have Ea:IntKind.i64.wrap (n*e+m*d)=n*e+m*d:=iw_ _ (by omega)
     have fL:IntKind.i64.wrap ((d:Int)*(e:Int))=((d*e:Nat):Int):=by rw[← Int.natCast_mul];exact iw_ _ ⟨Int.le_trans (by decide) (Int.natCast_nonneg _),Int.le_trans (Int.ofNat_le.2 q6) (by decide)⟩
     have Gg:Hid (∀ W,Below (((w.alloc (.cells #[.string (itx n),.string (dec d)] 42)).alloc (.cells #[.string (itx m),.string (dec e)] 42)).alloc (.cells #[.string ⟨#[]⟩,.string ⟨#[]⟩] 42)).heap.size (((w.alloc (.cells #[.string (itx n),.string (dec d)] 42)).alloc (.cells #[.string (itx m),.string (dec e)] 42)).alloc (.cells #[.string ⟨#[]⟩,.string ⟨#[]⟩] 42)) W→Kc Tryz.prog 124 #[.int .i64 (n*e+m*d),.int .i64 ((d*e:Nat):Int)] W (.agg #[.string rs,.string rt])):=fun W hW=>by
      have:=Znb W (n*e+m*d) (d*e) _ (by omega) (by omega) G9 rfl (HL.out.below hW)
      unfold fv at this;rw[hrs,hrt] at this;exact this
     unfold fv at gD gN ⊢;clear GS GH Fa Ee C0 q1 q2 q3 q4 q5 q6 q7 h1 h2 hrs hrt hv G9 fS;go_enter Tryz.func110,Tryz.ntmps110;obtain⟨k0,k1,-,-⟩:=Ka H3.out.fa;obtain⟨k2,k3,-,-⟩:=Ka H3.out.fb
     go_wp2_with fail
     generalize ((w.alloc (.cells #[.string (itx n),.string (dec d)] 42)).alloc (.cells #[.string (itx m),.string (dec e)] 42)).alloc (.cells #[.string ⟨#[]⟩,.string ⟨#[]⟩] 42)=W0 at *
     clear k0 k1 k2 k3;refine cm_ (gD.out _) ?_;rintro e w1 ⟨rfl,hZ⟩;have HQ:=hd_ hZ;clear hZ gD;obtain⟨k0,k1,-,-⟩:=Ka (H3.out.next HQ.out).fa;obtain⟨k2,k3,-,-⟩:=Ka (H3.out.next HQ.out).fb
     go_wp2_with fail
     clear k0 k1 k2 k3;refine cm_ (gN.out _) ?_;rintro e w2 ⟨rfl,HU⟩;have H6:=hd_ (HQ.out.trans (HU.mono HQ.out.size));clear HU HQ gN
     go_wp2_with fail
     refine cm_ (Gg.out w2 H6.out) ?_;rintro e w3 ⟨rfl,hb3⟩;have gd:=hd_ (H6.out.trans (hb3.mono H6.out.size));clear hb3 H6 Gg;have H8:=hd_ (H3.out.next gd.out);clear H3 gd;obtain⟨k0,k1,f0,f1⟩:=Ka H8.out.fr;have gP:=hd_ H8.out.bel;clear H8;go_wp2;obtain⟨c0,c1,hb3⟩:=Ks (B:=w.heap.size) (.string rs) (.string rt) k0 k1 (by omega) gP.out
     generalize (w3.setCell ⟨w.heap.size+1+1,0,none⟩ (.string rs)).setCell ⟨w.heap.size+1+1,1,none⟩ (.string rt)=w9 at *
     exact bodyPost_ret (v := .agg #[.string rs,.string rt]) (by simp[results,Tryz.results110,go_sem,c0,c1]) rfl ⟨by rw[Hv.out],hb3⟩
    ·obtain⟨x,y,Gk⟩:=Zm m e hm he h2;have gN:=hd_ Gk;unfold fv at gD gN ⊢;clear h1 h2 hrs hrt hv G9 Gk fS;go_enter Tryz.func110,Tryz.ntmps110;obtain⟨k0,k1,-,-⟩:=Ka H3.out.fa;obtain⟨k2,k3,-,-⟩:=Ka H3.out.fb
     go_wp2_with fail
     generalize ((w.alloc (.cells #[.string (itx n),.string (dec d)] 42)).alloc (.cells #[.string (itx m),.string (dec e)] 42)).alloc (.cells #[.string ⟨#[]⟩,.string ⟨#[]⟩] 42)=W0 at *
     clear k0 k1 k2 k3;refine cm_ (gD.out _) ?_;rintro e w1 ⟨rfl,hZ⟩;have HQ:=hd_ hZ;clear hZ gD;obtain⟨k0,k1,-,-⟩:=Ka (H3.out.next HQ.out).fa;obtain⟨k2,k3,-,-⟩:=Ka (H3.out.next HQ.out).fb
     go_wp2_with fail
     clear k0 k1 k2 k3;refine cm_ (gN.out _) ?_;rintro e w2 ⟨rfl,HU⟩;have H6:=hd_ (HQ.out.trans (HU.mono HQ.out.size));clear HU HQ gN;obtain⟨k0,k1,-,-⟩:=Ka (H3.out.next H6.out).fa;obtain⟨k2,k3,-,-⟩:=Ka (H3.out.next H6.out).fb;have q0:=cell_regrown k0;have q1:=cell_regrown k1;have q2:=cell_regrown k2;have q3:=cell_regrown k3;have gY:=GS.out w2 H6.out;have gV:=GH.out w2 H6.out;have Gr:=Fa.out w2 H6.out;have GN:=Ee.out w2 H6.out;have Fo:=C0.out w2 H6.out;clear k0 k1 k2 k3 GS GH Fa Ee C0
     go_wp2_with fail
     refine Kx 17 (by kernel_rfl) (by kernel_rfl) ?_
     simp only[List.take_succ_cons,List.take_zero,List.drop_succ_cons,List.drop_zero]
     repeat (first | go_big_quiet_step (first | with_reducible exact gY _ _ | with_reducible exact gV _ _ | with_reducible exact Gr _ _ | with_reducible exact GN _ _ | with_reducible exact Fo _ _) | quiet_step (first | with_reducible exact gY _ _ | with_reducible exact gV _ _ | with_reducible exact Gr _ _ | with_reducible exact GN _ _ | with_reducible exact Fo _ _))
     refine wpQuiet_nil ?_;intro w8 hw8;obtain⟨⟨dq,osq⟩,rfl⟩:=hw8;have GE:=below_regrown w2 dq osq;have H8:=hd_ ((H3.out.next H6.out).next GE);clear GE gY gV Gr GN Fo q0 q1 q2 q3 H3 H6;generalize Go.Sort.grow (redrawn w2 dq) osq=w8 at *
     obtain⟨k0,k1,f0,f1⟩:=Ka H8.out.fr;have gP:=hd_ H8.out.bel;clear H8;go_wp2;obtain⟨c0,c1,hb3⟩:=Ks (B:=w.heap.size) (.string rs) (.string rt) k0 k1 (by omega) gP.out
     generalize (w8.setCell ⟨w.heap.size+1+1,0,none⟩ (.string rs)).setCell ⟨w.heap.size+1+1,1,none⟩ (.string rt)=w9 at *
     exact bodyPost_ret (v := .agg #[.string rs,.string rt]) (by simp[results,Tryz.results110,go_sem,c0,c1]) rfl ⟨by rw[Hv.out],hb3⟩
   ·obtain⟨x,y,gK⟩:=Zm n d hn hd h1;have gD:=hd_ gK;unfold fv at gD ⊢;clear h1 hrs hrt hv G9 gK fS;go_enter Tryz.func110,Tryz.ntmps110;obtain⟨k0,k1,-,-⟩:=Ka H3.out.fa;obtain⟨k2,k3,-,-⟩:=Ka H3.out.fb
    go_wp2_with fail
    generalize ((w.alloc (.cells #[.string (itx n),.string (dec d)] 42)).alloc (.cells #[.string (itx m),.string (dec e)] 42)).alloc (.cells #[.string ⟨#[]⟩,.string ⟨#[]⟩] 42)=W0 at *
    clear k0 k1 k2 k3;refine cm_ (gD.out _) ?_;rintro e w1 ⟨rfl,hZ⟩;have HQ:=hd_ hZ;clear hZ gD;obtain⟨k0,k1,-,-⟩:=Ka (H3.out.next HQ.out).fa;obtain⟨k2,k3,-,-⟩:=Ka (H3.out.next HQ.out).fb;have q0:=cell_regrown k0;have q1:=cell_regrown k1;have q2:=cell_regrown k2;have q3:=cell_regrown k3;have gY:=GS.out w1 HQ.out;have gV:=GH.out w1 HQ.out;have Gr:=Fa.out w1 HQ.out;have GN:=Ee.out w1 HQ.out;have Fo:=C0.out w1 HQ.out;clear k0 k1 k2 k3 GS GH Fa Ee C0
    go_wp2_with fail
    refine Kx 17 (by kernel_rfl) (by kernel_rfl) ?_
    simp only[List.take_succ_cons,List.take_zero,List.drop_succ_cons,List.drop_zero]
    repeat (first | go_big_quiet_step (first | with_reducible exact gY _ _ | with_reducible exact gV _ _ | with_reducible exact Gr _ _ | with_reducible exact GN _ _ | with_reducible exact Fo _ _) | quiet_step (first | with_reducible exact gY _ _ | with_reducible exact gV _ _ | with_reducible exact Gr _ _ | with_reducible exact GN _ _ | with_reducible exact Fo _ _))
    refine wpQuiet_nil ?_;intro w8 hw8;obtain⟨⟨dq,osq⟩,rfl⟩:=hw8;have GE:=below_regrown w1 dq osq;have H8:=hd_ ((H3.out.next HQ.out).next GE);clear GE gY gV Gr GN Fo q0 q1 q2 q3 H3 HQ;generalize Go.Sort.grow (redrawn w1 dq) osq=w8 at *
    obtain⟨k0,k1,f0,f1⟩:=Ka H8.out.fr;have gP:=hd_ H8.out.bel;clear H8;go_wp2;obtain⟨c0,c1,hb3⟩:=Ks (B:=w.heap.size) (.string rs) (.string rt) k0 k1 (by omega) gP.out
    generalize (w8.setCell ⟨w.heap.size+1+1,0,none⟩ (.string rs)).setCell ⟨w.heap.size+1+1,1,none⟩ (.string rt)=w9 at *
    exact bodyPost_ret (v := .agg #[.string rs,.string rt]) (by simp[results,Tryz.results110,go_sem,c0,c1]) rfl ⟨by rw[Hv.out],hb3⟩
theorem Zip(w:World)(n:Int)(d:Nat)(hn:Zbg n)(hd:Num d)(fu:0<d)(L:Qd w):
  Kc Tryz.prog 150 #[fv n d] w (.int .i64 (if ((dec n.natAbs).size≤400∧(dec d).size≤400)∧Nat.gcd n.natAbs d=1 then 0 else 2)):=by
 unfold Kc fv;have gj:=hd_ ((Below.refl w.heap.size w).alloc nr_ (.cells #[.string (itx n),.string (dec d)] 42));have gi:Hid ((w.alloc (.cells #[.string (itx n),.string (dec d)] 42)).heap[w.heap.size]?=some (.cells #[.string (itx n),.string (dec d)] 42 (0,0))):=heap_alloc_new w _;have HL:=hd_ (L.below gj.out);have gD:=hd_ (fun W=>Ze3 W n hn)
 have gN:Hid (∀ W,Kc Tryz.prog 126 #[.string (dec d)] W (.int .i64 (if (dec d).size≤400 then 0 else 2))):=fun W=>by
  have:=Ze3 W (d:Int) (show Num _ from hd)
  rw[Kj] at this;exact this
 have Ga:Hid (∀ W,Kc Tryz.prog 84 #[.string (dec d)] W (.int .i64 1)):=fun W=>by
  have:=Yk W (d:Int)
  rw[Kj,Zfu fu] at this;exact this
 have fG:Hid (∀ W,Below (w.alloc (.cells #[.string (itx n),.string (dec d)] 42)).heap.size (w.alloc (.cells #[.string (itx n),.string (dec d)] 42)) W→Kc Tryz.prog 188 #[.string (itx n),.string (dec d)] W (.string (dec (Nat.gcd n.natAbs d)))):=fun W hW=>by
  have:=Zjp W n (d:Int) hn (show Num _ from hd) (HL.out.below hW)
  rw[Kj] at this;exact this
 have ho:=Zil (Nat.gcd n.natAbs d);clear L HL hn hd fu
 by_cases h1:(dec n.natAbs).size≤400
 ·rw[if_pos h1] at gD
  by_cases h2:(dec d).size≤400
  ·rw[if_pos h2] at gN
   by_cases h3:Nat.gcd n.natAbs d=1
   ·rw[if_pos ⟨⟨h1,h2⟩,h3⟩];rw[decide_eq_true h3] at ho;clear h1 h2 h3;generalize dec (Nat.gcd n.natAbs d)=u at *
    go_enter Tryz.func150,Tryz.ntmps150;obtain⟨k0,k1,-,-⟩:=Ka gi.out
    go_wp2_with fail
    generalize w.alloc (.cells #[.string (itx n),.string (dec d)] 42)=W0 at *
    clear k0 k1;refine cm_ (gD.out _) ?_;rintro e w1 ⟨rfl,hZ⟩;have HQ:=hd_ hZ;clear hZ gD;obtain⟨k0,k1,-,-⟩:=Ka (Kk gi.out HQ.out)
    go_wp2_with fail
    clear k0 k1;refine cm_ (gN.out _) ?_;rintro e w2 ⟨rfl,HU⟩;have H6:=hd_ (HQ.out.trans (HU.mono HQ.out.size));clear HU HQ gN;obtain⟨k0,k1,-,-⟩:=Ka (Kk gi.out H6.out)
    go_wp2_with fail
    clear k0 k1;refine cm_ (Ga.out _) ?_;rintro e w3 ⟨rfl,hb3⟩;have gd:=hd_ (H6.out.trans (hb3.mono H6.out.size));clear hb3 H6 Ga;obtain⟨k0,k1,-,-⟩:=Ka (Kk gi.out gd.out)
    go_wp2_with fail
    clear k0 k1;refine cm_ (fG.out _ gd.out) ?_;rintro e w4 ⟨rfl,gw⟩;have gl:=hd_ (gd.out.trans (gw.mono gd.out.size));clear gw gd fG;have gP:=hd_ (gj.out.trans (gl.out.mono gj.out.size));obtain⟨k0,k1,-,-⟩:=Ka (Kk gi.out gl.out);go_wp2;go_ret;exact⟨rfl,gP.out⟩
   ·rw[if_neg (fun h=>h3 h.2)]
    rw[decide_eq_false h3] at ho;clear h1 h2 h3;generalize dec (Nat.gcd n.natAbs d)=u at *
    go_enter Tryz.func150,Tryz.ntmps150;obtain⟨k0,k1,-,-⟩:=Ka gi.out
    go_wp2_with fail
    generalize w.alloc (.cells #[.string (itx n),.string (dec d)] 42)=W0 at *
    clear k0 k1;refine cm_ (gD.out _) ?_;rintro e w1 ⟨rfl,hZ⟩;have HQ:=hd_ hZ;clear hZ gD;obtain⟨k0,k1,-,-⟩:=Ka (Kk gi.out HQ.out)
    go_wp2_with fail
    clear k0 k1;refine cm_ (gN.out _) ?_;rintro e w2 ⟨rfl,HU⟩;have H6:=hd_ (HQ.out.trans (HU.mono HQ.out.size));clear HU HQ gN;obtain⟨k0,k1,-,-⟩:=Ka (Kk gi.out H6.out)
    go_wp2_with fail
    clear k0 k1;refine cm_ (Ga.out _) ?_;rintro e w3 ⟨rfl,hb3⟩;have gd:=hd_ (H6.out.trans (hb3.mono H6.out.size));clear hb3 H6 Ga;obtain⟨k0,k1,-,-⟩:=Ka (Kk gi.out gd.out)
    go_wp2_with fail
    clear k0 k1;refine cm_ (fG.out _ gd.out) ?_;rintro e w4 ⟨rfl,gw⟩;have gl:=hd_ (gd.out.trans (gw.mono gd.out.size));clear gw gd fG;have gP:=hd_ (gj.out.trans (gl.out.mono gj.out.size));obtain⟨k0,k1,-,-⟩:=Ka (Kk gi.out gl.out);go_wp2;go_ret;exact⟨rfl,gP.out⟩
  ·rw[if_neg h2] at gN;rw[if_neg (fun h=>h2 h.1.2)]
   clear h1 h2 fG ho;go_enter Tryz.func150,Tryz.ntmps150;obtain⟨k0,k1,-,-⟩:=Ka gi.out
   go_wp2_with fail
   generalize w.alloc (.cells #[.string (itx n),.string (dec d)] 42)=W0 at *
   clear k0 k1;refine cm_ (gD.out _) ?_;rintro e w1 ⟨rfl,hZ⟩;have HQ:=hd_ hZ;clear hZ gD;obtain⟨k0,k1,-,-⟩:=Ka (Kk gi.out HQ.out)
   go_wp2_with fail
   clear k0 k1;refine cm_ (gN.out _) ?_;rintro e w2 ⟨rfl,HU⟩;have H6:=hd_ (HQ.out.trans (HU.mono HQ.out.size));clear HU HQ gN;have gP:=hd_ (gj.out.trans (H6.out.mono gj.out.size));obtain⟨k0,k1,-,-⟩:=Ka (Kk gi.out H6.out);go_wp2;go_ret;exact⟨rfl,gP.out⟩
 ·rw[if_neg h1] at gD;rw[if_neg (fun h=>h1 h.1.1)]
  clear h1 fG ho gN;go_enter Tryz.func150,Tryz.ntmps150;obtain⟨k0,k1,-,-⟩:=Ka gi.out
  go_wp2_with fail
  generalize w.alloc (.cells #[.string (itx n),.string (dec d)] 42)=W0 at *
  clear k0 k1;refine cm_ (gD.out _) ?_;rintro e w1 ⟨rfl,hZ⟩;have HQ:=hd_ hZ;clear hZ gD;have gP:=hd_ (gj.out.trans (HQ.out.mono gj.out.size));obtain⟨k0,k1,-,-⟩:=Ka (Kk gi.out HQ.out);go_wp2;go_ret;exact⟨rfl,gP.out⟩
theorem Zku(w:World)(n:Int)(d:Nat):
  Kc Tryz.prog 89 #[fv n d] w (.int .i64 n.sign):=by
 unfold Kc fv;have gj:=hd_ ((Below.refl w.heap.size w).alloc nr_ (.cells #[.string (itx n),.string (dec d)] 42));have gi:Hid ((w.alloc (.cells #[.string (itx n),.string (dec d)] 42)).heap[w.heap.size]?=some (.cells #[.string (itx n),.string (dec d)] 42 (0,0))):=heap_alloc_new w _;have Ga:=hd_ (fun W=>Yk W n)
 go_enter Tryz.func89,Tryz.ntmps89;obtain⟨k0,k1,-,-⟩:=Ka gi.out
 go_wp2_with fail
 generalize w.alloc (.cells #[.string (itx n),.string (dec d)] 42)=W0 at *
 clear k0 k1;refine cm_ (Ga.out _) ?_;rintro e w1 ⟨rfl,hZ⟩;have HQ:=hd_ hZ;clear hZ Ga;have gP:=hd_ (gj.out.trans (HQ.out.mono gj.out.size));obtain⟨k0,k1,-,-⟩:=Ka (Kk gi.out HQ.out);go_wp2;go_ret;exact⟨rfl,gP.out⟩
theorem Zra(w:World)(n:Int)(d:Nat)(hn:Zbg n)(hd:Num d)(fu:0<d)(fN:Num (n.natAbs+1))(L:Qd w):
  Kc Tryz.prog 123 #[fv n d] w (.string (itx (n/(d:Int)))):=by
 unfold Kc fv;have gj:=hd_ ((Below.refl w.heap.size w).alloc nr_ (.cells #[.string (itx n),.string (dec d)] 42));have gi:Hid ((w.alloc (.cells #[.string (itx n),.string (dec d)] 42)).heap[w.heap.size]?=some (.cells #[.string (itx n),.string (dec d)] 42 (0,0))):=heap_alloc_new w _;have HL:=hd_ (L.below gj.out);have fR:Hid (∀ W,Below (w.alloc (.cells #[.string (itx n),.string (dec d)] 42)).heap.size (w.alloc (.cells #[.string (itx n),.string (dec d)] 42)) W→Kc Tryz.prog 163 #[.string (itx n),.string (dec d)] W (.tuple #[.string (itx (n/(d:Int))),.string (itx (n%(d:Int))),.int .i64 0])):=fun W hW=>Yg W n d hn hd fu fN (HL.out.below hW)
 clear L;go_enter Tryz.func123,Tryz.ntmps123;obtain⟨k0,k1,-,-⟩:=Ka gi.out
 go_wp2_with fail
 generalize w.alloc (.cells #[.string (itx n),.string (dec d)] 42)=W0 at *
 clear k0 k1;refine cm_ (fR.out _ (Below.refl _ _)) ?_;rintro e w1 ⟨rfl,hZ⟩;have HQ:=hd_ hZ;clear hZ fR;have gP:=hd_ (gj.out.trans (HQ.out.mono gj.out.size));obtain⟨k0,k1,-,-⟩:=Ka (Kk gi.out HQ.out);go_wp2;go_ret;exact⟨rfl,gP.out⟩
theorem Zo0(w:World)(n:Int)(d:Nat)(hn:Zbg n)(hd:Num d)(fu:0<d)(fN:Num (n.natAbs+1))(G1:Num (d+1))(L:Qd w):
  Kc Tryz.prog 102 #[.string (itx n),.string (dec d)] w (.tuple #[Zkd n d,.int .i64 0]):=by
 obtain⟨rs,hrs⟩:∃ rs,itx (n/((Nat.gcd n.natAbs d:Nat):Int))=rs:=⟨_,rfl⟩;obtain⟨rt,hrt⟩:∃ rt,dec (d/Nat.gcd n.natAbs d)=rt:=⟨_,rfl⟩;have hv:Zkd n d = .agg #[.string rs,.string rt]:=by unfold Zkd fv;rw[hrs,hrt]
 have Hv:=hd_ hv;unfold Kc;have gj:=hd_ ((Below.refl w.heap.size w).alloc nr_ (.cells #[.string ⟨#[]⟩,.string ⟨#[]⟩] 42));have gi:Hid ((w.alloc (.cells #[.string ⟨#[]⟩,.string ⟨#[]⟩] 42)).heap[w.heap.size]?=some (.cells #[.string ⟨#[]⟩,.string ⟨#[]⟩] 42 (0,0))):=heap_alloc_new w _;have HL:=hd_ (L.below gj.out);clear L;have Ga:Hid (∀ W,Kc Tryz.prog 84 #[.string (dec d)] W (.int .i64 1)):=fun W=>by
  have:=Yk W (d:Int)
  rw[Kj,Zfu fu] at this;exact this
 have dG:Hid (∀ W,Below (w.alloc (.cells #[.string ⟨#[]⟩,.string ⟨#[]⟩] 42)).heap.size (w.alloc (.cells #[.string ⟨#[]⟩,.string ⟨#[]⟩] 42)) W→Kc Tryz.prog 125 #[.string (itx n),.string (dec d)] W (.agg #[.string rs,.string rt])):=fun W hW=>by
  have:=Zb8 W n d _ hn hd fu fN G1 rfl (HL.out.below hW)
  unfold fv at this;rw[hrs,hrt] at this;exact this
 clear hrs hrt hv;go_enter Tryz.func102,Tryz.ntmps102
 go_wp2_with fail
 generalize w.alloc (.cells #[.string ⟨#[]⟩,.string ⟨#[]⟩] 42)=W0 at *
 refine cm_ (Ga.out _) ?_;rintro e w1 ⟨rfl,hZ⟩;have HQ:=hd_ hZ;clear hZ Ga
 go_wp2_with fail
 refine cm_ (dG.out _ HQ.out) ?_;rintro e w2 ⟨rfl,HU⟩;have H6:=hd_ (HQ.out.trans (HU.mono HQ.out.size));clear HU HQ dG;have gv:=hd_ (Kk gi.out H6.out);have gP:=hd_ (gj.out.trans (H6.out.mono gj.out.size));obtain⟨k0,k1,f0,f1⟩:=Ka gv.out;clear H6 gj gv gi HL;go_wp2;obtain⟨c0,c1,hb3⟩:=Ks (.string rs) (.string rt) k0 k1 nr_ gP.out;generalize (w2.setCell ⟨w.heap.size,0,none⟩ (.string rs)).setCell ⟨w.heap.size,1,none⟩ (.string rt)=w9 at *
 exact bodyPost_ret (v := .tuple #[.agg #[.string rs,.string rt],.int .i64 0]) (by simp[results,Tryz.results102,go_sem,c0,c1]) rfl ⟨by rw[Hv.out],hb3⟩
theorem Zoz(w:World)(n:Int)(d:Nat)(q1 : -9223372036854775808≤n)(q2:n≤9223372036854775807)(q3:d≤9223372036854775807)(hn:Zbg n)(hd:Num d)(fu:0<d)(fN:Num (n.natAbs+1))(G1:Num (d+1))(L:Qd w):
  Kc Tryz.prog 35 #[.int .i64 n,.int .i64 d] w (.tuple #[Zkd n d,.int .i64 0]):=by
 obtain⟨rs,hrs⟩:∃ rs,itx (n/((Nat.gcd n.natAbs d:Nat):Int))=rs:=⟨_,rfl⟩;obtain⟨rt,hrt⟩:∃ rt,dec (d/Nat.gcd n.natAbs d)=rt:=⟨_,rfl⟩;have hv:Zkd n d = .agg #[.string rs,.string rt]:=by unfold Zkd fv;rw[hrs,hrt]
 have Hv:=hd_ hv;unfold Kc;have gj:=hd_ ((Below.refl w.heap.size w).alloc nr_ (.cells #[.string ⟨#[]⟩,.string ⟨#[]⟩] 42));have gi:Hid ((w.alloc (.cells #[.string ⟨#[]⟩,.string ⟨#[]⟩] 42)).heap[w.heap.size]?=some (.cells #[.string ⟨#[]⟩,.string ⟨#[]⟩] 42 (0,0))):=heap_alloc_new w _;have HL:=hd_ (L.below gj.out);clear L;have FU:Hid (∀ W,Below (w.alloc (.cells #[.string ⟨#[]⟩,.string ⟨#[]⟩] 42)).heap.size (w.alloc (.cells #[.string ⟨#[]⟩,.string ⟨#[]⟩] 42)) W→Kc Tryz.prog 73 #[.int .i64 n] W (.string (itx n))):=fun W hW=>Zaj W n q1 q2 (HL.out.below hW)
 have MK:Hid (∀ W,Below (w.alloc (.cells #[.string ⟨#[]⟩,.string ⟨#[]⟩] 42)).heap.size (w.alloc (.cells #[.string ⟨#[]⟩,.string ⟨#[]⟩] 42)) W→Kc Tryz.prog 73 #[.int .i64 d] W (.string (dec d))):=fun W hW=>by
  have:=Zaj W (d:Int) (by omega) (by omega) (HL.out.below hW)
  rw[Kj] at this;exact this
 have Bu:Hid (∀ W,Below (w.alloc (.cells #[.string ⟨#[]⟩,.string ⟨#[]⟩] 42)).heap.size (w.alloc (.cells #[.string ⟨#[]⟩,.string ⟨#[]⟩] 42)) W→Kc Tryz.prog 102 #[.string (itx n),.string (dec d)] W (.tuple #[.agg #[.string rs,.string rt],.int .i64 0])):=fun W hW=>by
  have:=Zo0 W n d hn hd fu fN G1 (HL.out.below hW)
  rw[hv] at this;exact this
 clear hrs hrt hv;go_enter Tryz.func35,Tryz.ntmps35
 go_wp2_with fail
 generalize w.alloc (.cells #[.string ⟨#[]⟩,.string ⟨#[]⟩] 42)=W0 at *
 refine cm_ (FU.out _ (Below.refl _ _)) ?_;rintro e w1 ⟨rfl,hZ⟩;have HQ:=hd_ hZ;clear hZ FU
 go_wp2_with fail
 refine cm_ (MK.out _ HQ.out) ?_;rintro e w2 ⟨rfl,HU⟩;have H6:=hd_ (HQ.out.trans (HU.mono HQ.out.size));clear HU HQ MK
 go_wp2_with fail
 refine cm_ (Bu.out _ H6.out) ?_;rintro e w3 ⟨rfl,hb3⟩;have gd:=hd_ (H6.out.trans (hb3.mono H6.out.size));clear hb3 H6 Bu;have gv:=hd_ (Kk gi.out gd.out);have gP:=hd_ (gj.out.trans (gd.out.mono gj.out.size));obtain⟨k0,k1,f0,f1⟩:=Ka gv.out;clear gd gj gv gi HL;go_wp2;obtain⟨c0,c1,hb3⟩:=Ks (.string rs) (.string rt) k0 k1 nr_ gP.out;generalize (w3.setCell ⟨w.heap.size,0,none⟩ (.string rs)).setCell ⟨w.heap.size,1,none⟩ (.string rt)=w9 at *
 exact bodyPost_ret (v := .tuple #[.agg #[.string rs,.string rt],.int .i64 0]) (by simp[results,Tryz.results35,go_sem,c0,c1]) rfl ⟨by rw[Hv.out],hb3⟩
theorem Zel(w:World)(z:Int)(q1 : -9223372036854775808≤z)(q2:z≤9223372036854775807)(L:Qd w):
  Kc Tryz.prog 98 #[.int .i64 z] w (fv z 1):=by
 obtain⟨rs,hrs⟩:∃ rs,itx z=rs:=⟨_,rfl⟩;have hv:fv z 1 = .agg #[.string rs,.string ⟨#[49]⟩]:=by unfold fv;rw[hrs,Vg]
 have Hv:=hd_ hv;unfold Kc;have gj:=hd_ ((Below.refl w.heap.size w).alloc nr_ (.cells #[.string ⟨#[]⟩,.string ⟨#[]⟩] 42));have gi:Hid ((w.alloc (.cells #[.string ⟨#[]⟩,.string ⟨#[]⟩] 42)).heap[w.heap.size]?=some (.cells #[.string ⟨#[]⟩,.string ⟨#[]⟩] 42 (0,0))):=heap_alloc_new w _;have HL:=hd_ (L.below gj.out);clear L;have FU:Hid (∀ W,Below (w.alloc (.cells #[.string ⟨#[]⟩,.string ⟨#[]⟩] 42)).heap.size (w.alloc (.cells #[.string ⟨#[]⟩,.string ⟨#[]⟩] 42)) W→Kc Tryz.prog 73 #[.int .i64 z] W (.string rs)):=fun W hW=>by
  have:=Zaj W z q1 q2 (HL.out.below hW)
  rw[hrs] at this;exact this
 clear hrs hv;go_enter Tryz.func98,Tryz.ntmps98
 go_wp2_with fail
 generalize w.alloc (.cells #[.string ⟨#[]⟩,.string ⟨#[]⟩] 42)=W0 at *
 refine cm_ (FU.out _ (Below.refl _ _)) ?_;rintro e w1 ⟨rfl,hZ⟩;have HQ:=hd_ hZ;clear hZ FU;have gv:=hd_ (Kk gi.out HQ.out);have gP:=hd_ (gj.out.trans (HQ.out.mono gj.out.size));obtain⟨k0,k1,f0,f1⟩:=Ka gv.out;clear HQ gj gv gi HL;go_wp2;obtain⟨c0,c1,hb3⟩:=Ks (.string rs) (.string ⟨#[49]⟩) k0 k1 nr_ gP.out;generalize (w1.setCell ⟨w.heap.size,0,none⟩ (.string rs)).setCell ⟨w.heap.size,1,none⟩ (.string ⟨#[49]⟩)=w9 at *
 exact bodyPost_ret (v := .agg #[.string rs,.string ⟨#[49]⟩]) (by simp[results,Tryz.results98,go_sem,c0,c1]) rfl ⟨by rw[Hv.out],hb3⟩
theorem Zsi(w:World)(n:Int)(d:Nat):
  Kc Tryz.prog 151 #[fv n d] w (.bool (decide ((dec n.natAbs).size≤30∧(dec d).size≤30))):=by
 unfold Kc fv;have gj:=hd_ ((Below.refl w.heap.size w).alloc nr_ (.cells #[.string (itx n),.string (dec d)] 42));have gi:Hid ((w.alloc (.cells #[.string (itx n),.string (dec d)] 42)).heap[w.heap.size]?=some (.cells #[.string (itx n),.string (dec d)] 42 (0,0))):=heap_alloc_new w _;have AF:=hd_ (fun W=>Ze8 W n)
 by_cases h1:(dec n.natAbs).size≤30
 ·have Dy:((dec n.natAbs).size:Int)≤30:=by omega
  by_cases h2:(dec d).size≤30
  ·have ER:((dec d).size:Int)≤30:=by omega
   rw[decide_eq_true (show _∧_ from ⟨h1,h2⟩)]
   clear h1 h2;go_enter Tryz.func151,Tryz.ntmps151;obtain⟨k0,k1,-,-⟩:=Ka gi.out
   go_wp2_with fail
   generalize w.alloc (.cells #[.string (itx n),.string (dec d)] 42)=W0 at *
   clear k0 k1;refine cm_ (AF.out _) ?_;rintro e w1 ⟨rfl,hZ⟩;have HQ:=hd_ hZ;clear hZ AF;have gP:=hd_ (gj.out.trans (HQ.out.mono gj.out.size));obtain⟨k0,k1,-,-⟩:=Ka (Kk gi.out HQ.out);go_wp2;go_ret;exact⟨rfl,gP.out⟩
  ·have ER:¬ ((dec d).size:Int)≤30:=by omega
   have Oo:=hd_ (decide_eq_false ER);rw[decide_eq_false (fun h:_∧_=>h2 h.2)]
   clear h1 h2;go_enter Tryz.func151,Tryz.ntmps151;obtain⟨k0,k1,-,-⟩:=Ka gi.out
   go_wp2_with fail
   generalize w.alloc (.cells #[.string (itx n),.string (dec d)] 42)=W0 at *
   clear k0 k1;refine cm_ (AF.out _) ?_;rintro e w1 ⟨rfl,hZ⟩;have HQ:=hd_ hZ;clear hZ AF;have gP:=hd_ (gj.out.trans (HQ.out.mono gj.out.size));obtain⟨k0,k1,-,-⟩:=Ka (Kk gi.out HQ.out);go_wp2;go_ret;exact⟨by rw[Oo.out];rfl,gP.out⟩
 ·have Dy:¬ ((dec n.natAbs).size:Int)≤30:=by omega
  rw[decide_eq_false (fun h:_∧_=>h1 h.1)]
  clear h1;go_enter Tryz.func151,Tryz.ntmps151;obtain⟨k0,k1,-,-⟩:=Ka gi.out
  go_wp2_with fail
  generalize w.alloc (.cells #[.string (itx n),.string (dec d)] 42)=W0 at *
  clear k0 k1;refine cm_ (AF.out _) ?_;rintro e w1 ⟨rfl,hZ⟩;have HQ:=hd_ hZ;clear hZ AF;have gP:=hd_ (gj.out.trans (HQ.out.mono gj.out.size));obtain⟨k0,k1,-,-⟩:=Ka (Kk gi.out HQ.out);go_wp2;go_ret;exact⟨rfl,gP.out⟩
def IsP (n:Nat):Prop:=2≤n∧n≤97∧∀ j,j<10→2≤j→j*j≤n→n%j≠0
instance (n:Nat):Decidable (IsP n):=by unfold IsP;infer_instance
theorem Znq(w:World)(n:Nat)(hn:n≤9223372036854775807):
  Kc Tryz.prog 16 #[.int .i64 n] w (.bool (decide (IsP n))):=by
 unfold Kc
 by_cases h2:2≤n
 ·by_cases Bg:n≤97
  ·have ER:¬ (n:Int)<2:=by omega
   have lA:¬ (97:Int)<n:=by omega
   have H2:=hd_ h2;go_enter Tryz.func16,Tryz.ntmps16
   go_wp2_with fail
   go_loopw [3] (fun i wr=>∃ k:Nat,2≤k∧k≤10∧i = .int .i64 k∧Hid (∀ j,2≤j→j<k→j*j≤n→n%j≠0)∧Hid (Below w.heap.size w wr)) (fun i _=>10-(intOf i).toNat)
   case atStart=>exact⟨2,by omega,by omega,rfl,fun j h1 h2=>by omega,Below.refl _ _⟩
   case round =>
    obtain⟨k,hk,hk10,rfl,Hj,Hb⟩:=hrel;have Dp:k*k≤100:=Nat.mul_le_mul hk10 hk10;have FQ:IntKind.i64.wrap ((k:Int)*(k:Int))=((k*k:Nat):Int):=by rw[← Int.natCast_mul];exact iw_ _ (by omega)
    by_cases fV:k*k≤n
    ·have DW:((k*k:Nat):Int)≤n:=by omega
     have ii:k<10:=by
      rcases Nat.lt_or_ge k 10 with h|h
      ·exact h
      ·have:k=10:=by omega
       subst this;omega
     have OQ:((k:Int)==0)=false:=by rw[beq_eq_false_iff_ne];omega
     have eF:Int.tmod (n:Int) (k:Int)=((n%k:Nat):Int):=by rw[← Int.ofNat_tmod]
     have EN:=Nat.mod_lt n (show 0<k by omega)
     have Dd:=hd_ fV
     by_cases hz:n%k=0
     ·have Hv:Hid (decide (IsP n)=false):=by
       show _=_
       rw[decide_eq_false_iff_not];exact fun h=>h.2.2 k ii hk fV hz
      rw[hz] at eF;rw[show ((0:Nat):Int)=0 from rfl] at eF
      have EU:IntKind.i64.wrap 0=0:=iw_ _ (by omega)
      clear hz fV EN Dp;generalize k*k=q at *
      go_wp2;go_ret;exact⟨by rw[Hv.out];rfl,Hb.out⟩
     ·have GX:Hid (∀ j,2≤j→j<k+1→j*j≤n→n%j≠0):=fun j h1 h2 h3=>by
       rcases Nat.lt_or_ge j k with h|h
       ·exact Hj.out j h1 h h3
       ·have:j=k:=by omega
        subst this;exact hz
      have fM:IntKind.i64.wrap ((n%k:Nat):Int)=((n%k:Nat):Int):=iw_ _ (by omega)
      have gq:(((n%k:Nat):Int)==0)=false:=by rw[beq_eq_false_iff_ne];omega
      clear hz fV Dp;generalize n%k=r at *
      generalize k*k=q at *
      go_wp2
      go_roundw
      case rel=>exact⟨k+1,by omega,by omega,by go_num,GX,Hb⟩
      case measure=>simp[intOf];omega
    ·have DW:¬ ((k*k:Nat):Int)≤n:=by omega
     have Hv:Hid (decide (IsP n)=true):=by
      show _=_
      rw[decide_eq_true_eq];refine⟨H2.out,Bg,fun j h2 h1 h3=>?_⟩
      rcases Nat.lt_or_ge j k with h|h
      ·exact Hj.out j h1 h h3
      ·have:=Nat.mul_le_mul h h;omega
     clear fV Dp;generalize k*k=q at *
     go_wp2;go_ret;exact⟨by rw[Hv.out];rfl,Hb.out⟩
  ·have Hv:Hid (decide (IsP n)=false):=by
    show _=_
    rw[decide_eq_false_iff_not];exact fun h=>Bg h.2.1
   have lA:(97:Int)<n:=by omega
   have ER:¬ (n:Int)<2:=by omega
   go_enter Tryz.func16,Tryz.ntmps16;go_wp2;go_ret;exact⟨by rw[Hv.out];rfl,Below.refl _ _⟩
 ·have Hv:Hid (decide (IsP n)=false):=by
   show _=_
   rw[decide_eq_false_iff_not];exact fun h=>h2 h.1
  have ER:(n:Int)<2:=by omega
  go_enter Tryz.func16,Tryz.ntmps16;go_wp2;go_ret;exact⟨by rw[Hv.out];rfl,Below.refl _ _⟩
def Rd (w:World) (a:Option Addr) (vs:List Value):Prop :=
 vs=[]∨∃ b off,a=some ⟨b,off,none⟩∧b<w.heap.size∧∀ i v,vs[i]?=some v→w.cell? ⟨b,off+i,none⟩=some v
theorem Rd.below{w w':World}{a:Option Addr}{vs:List Value}{B:Nat}(h:Rd w a vs)(hb:Below B w w')(hB:w.heap.size≤B):Rd w' a vs:=by
 rcases h with h|⟨b,off,h1,h2,h3⟩
 ·exact .inl h
 ·exact .inr ⟨b,off,h1,Nat.lt_of_lt_of_le h2 hb.size,fun i v hi=>by rw[hb.cell (p:=⟨b,off+i,none⟩) (by show b<B;omega)];exact h3 i v hi⟩
theorem Rd.kept{w w':World}{a:Option Addr}{vs:List Value}(h:Rd w a vs)(hb:Below w.heap.size w w'):Rd w' a vs:=h.below hb nr_
theorem Rd.open{w:World}{a:Option Addr}{vs:List Value}(h:Rd w a vs)(h0:0<vs.length):
  ∃ b off,a=some ⟨b,off,none⟩∧b<w.heap.size∧∀ i v,vs[i]?=some v→w.cell? ⟨b,off+i,none⟩=some v:=by
 rcases h with h|h
 ·subst h;simp at h0
 ·exact h
theorem Rd.nil(w:World)(a:Option Addr):Rd w a [] := .inl rfl
def Zrt (n:Int):Prop:=0≤n∧IsP n.toNat
instance (n:Int):Decidable (Zrt n):=by unfold Zrt;infer_instance
theorem Zfi(w:World)(n:Int)(h0 : -9223372036854775808≤n)(h1:n≤9223372036854775807):
  Kc Tryz.prog 16 #[.int .i64 n] w (.bool (decide (Zrt n))):=by
 by_cases hn:0≤n
 ·obtain⟨m,rfl⟩:=Int.eq_ofNat_of_zero_le hn;have:=Znq w m (by omega)
  have e:decide (Zrt (m:Int))=decide (IsP m):=by
   rw[decide_eq_decide];unfold Zrt;simp
  rw[e];exact this
 ·have e:decide (Zrt n)=false:=decide_eq_false (fun h=>hn h.1)
  rw[e];have ER:n<2:=by omega
  unfold Kc;go_enter Tryz.func16,Tryz.ntmps16;go_wp2;go_ret;exact⟨rfl,Below.refl _ _⟩
def pgo:Option Int→List Int→Int
 | _,[]=>0
 | prev,n::l=>if ¬ Zrt n then 25 else if prev.any (fun m=>decide (n≤m))=true then 6 else pgo (some n) l
def Zou (ps:List Int):Nat→Option Int
 | 0=>none
 | m+1=>ps[m]?
def Vo (ps:List Int):Int:=if ps.length=0 then 13 else if 6<ps.length then 4 else pgo none ps
def Ziv (l:List Int):Prop:=∀ x∈l,-9223372036854775808≤x∧x≤9223372036854775807
theorem Ziv.get{l:List Int}(h:Ziv l)(k:Nat)(hk:k<l.length): -9223372036854775808≤l[k]∧l[k]≤9223372036854775807:=h _ (List.getElem_mem hk)
theorem Zdd(w:World)(a:Option Addr)(c:Nat)(ps:List Int)(hr:Rd w a (Qt ps))(hi:Ziv ps)(hl:ps.length≤1000000):
  Kc Tryz.prog 77 #[.slice a ps.length c] w (.int .i64 (Vo ps)):=by
 unfold Kc;have Hr:=hd_ hr;have Hi:=hd_ hi;have Hp:=hd_ (fun W (z:Int) q1 q2=>Zfi W z q1 q2)
 clear hr hi
 by_cases h0:ps.length=0
 ·have hv:Vo ps=13:=by unfold Vo;rw[if_pos h0]
  rw[hv,h0];go_enter Tryz.func77,Tryz.ntmps77;go_wp2;go_ret;exact⟨rfl,Below.refl _ _⟩
 by_cases h6:6<ps.length
 ·have hv:Vo ps=4:=by unfold Vo;rw[if_neg h0,if_pos h6]
  rw[hv];have lB:((ps.length:Int)==0)=false:=by rw[beq_eq_false_iff_ne];omega
  have ou:(6:Int)<ps.length:=by omega
  clear hv;generalize ps.length=n at *
  go_enter Tryz.func77,Tryz.ntmps77;go_wp2;go_ret;exact⟨rfl,Below.refl _ _⟩
 have Hv:Hid (Vo ps=pgo none ps):=by
  show _=_
  unfold Vo;rw[if_neg h0,if_neg h6]
 have lB:((ps.length:Int)==0)=false:=by rw[beq_eq_false_iff_ne];omega
 have ou:¬ (6:Int)<ps.length:=by omega
 obtain⟨b,off,rfl,hb,hcells⟩:=Hr.out.open (by rw[Qf];omega)
 have Gt:Hid (∀ k,k<ps.length→w.cell? ⟨b,off+k,none⟩=some (.int .i64 (ps.getD k 0))):=fun k hk=>by
  rw[List.getD_eq_getElem?_getD,List.getElem?_eq_getElem hk];exact hcells k _ (Ym ps k hk)
 clear hcells Hr;generalize hn:ps.length=n at *
 have Hn:=hd_ hn;clear hn;go_enter Tryz.func77,Tryz.ntmps77
 go_wp2_with fail
 go_loopw [15] (fun i wr=>∃ k:Nat,k≤n∧i = .int .i64 k∧Hid (pgo none ps=pgo (Zou ps k) (ps.drop k))∧Hid (Below w.heap.size w wr)) (fun i _=>n-(intOf i).toNat)
 case atStart=>exact⟨0,Nat.zero_le _,rfl,rfl,Below.refl _ _⟩
 case round =>
  obtain⟨k,hk,rfl,Hg,Hb⟩:=hrel
  by_cases H9:k<n
  ·have gm:(k:Int)<n:=by omega
   have gO:k<ps.length:=by rw[Hn.out];exact H9
   have cx:wr.cell? ⟨b,off+k,none⟩=some (.int .i64 (ps.getD k 0)):=by
    rw[Hb.out.cell (p:=⟨b,off+k,none⟩) hb];exact Gt.out k H9
   have hd:ps.drop k=ps[k]::ps.drop (k+1):=List.drop_eq_getElem_cons gO;have Hd:=hd_ hd;have Ar:ps.getD k 0=ps[k]:=by rw[List.getD_eq_getElem?_getD,List.getElem?_eq_getElem gO];rfl
   rw[Ar] at cx;clear Ar;have hz:=Hi.out.get k gO;obtain⟨z,CP⟩:∃ z,ps[k]=z:=⟨_,rfl⟩;have Ie:=hd_ CP;rw[CP] at cx hz;have dO:=Hp.out wr z hz.1 hz.2;clear hd CP
   by_cases hp:Zrt z
   ·rw[decide_eq_true hp] at dO
    by_cases DZ:k=0
    ·subst DZ;rw[Nat.add_zero] at cx;have dS:¬ (0:Int)<0:=by omega
     go_wp2_with fail
     refine cm_ dO ?_;rintro e w1 ⟨rfl,hZ⟩;have HQ:=hd_ (Hb.out.trans (hZ.mono Hb.out.size));clear hZ dO Hb;go_wp2
     go_roundw
     case rel =>
      refine⟨1,by omega,by go_num,?_,HQ⟩
      show _=_
      rw[Hg.out,Hd.out];simp only[pgo,Zou,Ie.out];rw[if_neg (fun h=>h hp),if_neg (by simp)]
      have:ps[0]?=some z:=by rw[List.getElem?_eq_getElem gO,Ie.out]
      rw[this]
     case measure=>simp[intOf];omega
    ·obtain⟨m,rfl⟩:∃ m,k=m+1:=⟨k-1,by omega⟩
     have dS:(0:Int)<((m+1:Nat):Int):=by omega
     have EN:m<ps.length:=by omega
     have fM:IntKind.i64.wrap (((m+1:Nat):Int)-1)=(m:Int):=by
      rw[show ((m+1:Nat):Int)-1=(m:Int) by omega];exact iw_ _ (by omega)
     obtain⟨y,AR⟩:∃ y,ps[m]=y:=⟨_,rfl⟩;have jT:=hd_ AR;have Oe:Hid (w.cell? ⟨b,off+m,none⟩=some (.int .i64 y)):=by
      show _=_
      rw[Gt.out m (by omega),← AR,List.getD_eq_getElem?_getD,List.getElem?_eq_getElem EN];rfl
     have Bv:Hid (pgo none ps=if z≤y then 6 else pgo (some z) (ps.drop (m+1+1))):=by
      show _=_
      rw[Hg.out,Hd.out];have:ps[m]?=some y:=by rw[List.getElem?_eq_getElem EN,AR]
      simp only[pgo,Zou,Ie.out,this,Option.any_some,decide_eq_true_eq];rw[if_neg (fun h=>h hp)]
     have dQ:0≤(m:Int):=by omega
     have OM:(m:Int)<n:=by omega
     clear AR Hg
     go_wp2_with fail
     refine cm_ dO ?_;rintro e w1 ⟨rfl,hZ⟩;have HQ:=hd_ (Hb.out.trans (hZ.mono Hb.out.size));clear hZ dO Hb cx;have cy:w1.cell? ⟨b,off+m,none⟩=some (.int .i64 y):=by
      rw[HQ.out.cell (p:=⟨b,off+m,none⟩) hb];exact Oe.out
     by_cases hzy:z≤y
     ·have Fp:Hid (Vo ps=6):=by
       show _=_
       rw[Hv.out,Bv.out,if_pos hzy]
      go_wp2;go_ret;exact⟨by rw[Fp.out];rfl,HQ.out⟩
     ·have De:Hid (pgo none ps=pgo (some z) (ps.drop (m+1+1))):=by
       show _=_
       rw[Bv.out,if_neg hzy]
      clear Bv;go_wp2
      go_roundw
      case rel =>
       refine⟨m+1+1,by omega,by go_num,?_,HQ⟩
       show _=_
       rw[De.out];have:ps[m+1]?=some z:=by rw[List.getElem?_eq_getElem gO,Ie.out]
       simp only[Zou,this]
      case measure=>simp[intOf];omega
   ·rw[decide_eq_false hp] at dO;have Fp:Hid (Vo ps=25):=by
     show _=_
     rw[Hv.out,Hg.out,Hd.out];simp only[pgo,Ie.out];rw[if_pos hp]
    go_wp2_with fail
    refine cm_ dO ?_;rintro e w1 ⟨rfl,hZ⟩;have HQ:=hd_ (Hb.out.trans (hZ.mono Hb.out.size));clear hZ dO Hb;go_wp2;go_ret;exact⟨by rw[Fp.out];rfl,HQ.out⟩
  ·have gm:¬ (k:Int)<n:=by omega
   have Fp:Hid (Vo ps=0):=by
    show _=_
    rw[Hv.out,Hg.out,List.drop_of_length_le (by rw[Hn.out];omega)]
    rfl
   go_wp2;go_ret;exact⟨by rw[Fp.out];rfl,Hb.out⟩
end Go.Proofs.YtnjedhgcfeoemaaGreatDoor

namespace Go.Proofs.YtnjedhgcfeoemaaGreatDoor
open Go.ChangeShapes Go.WideShapes Go.ChangeAt Go.RowKit
theorem Ztv:laidOutB Tryz.prog=true:=by kernel_rfl
theorem own:ownKnob Tryz.prog.godebug=none:=by kernel_rfl
def Ztw {H : Type} : List (String × DataW H) := [("math/bits.deBruijn32tab", Rows.laid_math_bits_deBruijn32tab), ("math/bits.deBruijn64tab", Rows.laid_math_bits_deBruijn64tab), ("internal/strconv.uint64pow10", Rows.laid_internal_strconv_uint64pow10), ("strconv.ErrRange", Rows.laid_strconv_ErrRange), ("strconv.ErrSyntax", Rows.laid_strconv_ErrSyntax)]
theorem gER : Tryz.prog.globalNamed "strconv.ErrRange" = some 1 := by kernel_rfl
theorem gES : Tryz.prog.globalNamed "strconv.ErrSyntax" = some 0 := by kernel_rfl
theorem tER:(Tryz.prog.globals[1]?).map (·.type)=some 200:=by kernel_rfl
theorem tES:(Tryz.prog.globals[0]?).map (·.type)=some 200:=by kernel_rfl
theorem Qdc:(Tryz.prog.globals[3]?).map (·.type)=some 317:=by kernel_rfl
theorem Zpq:Tryz.prog.cellsOf 314=1:=by kernel_rfl
theorem Zpp:Tryz.prog.cellsOf 9=1:=by kernel_rfl
theorem Zxf:Tryz.prog.cellsOf 193=1:=by kernel_rfl
theorem Zxg:Tryz.prog.cellsOf 317=20:=by kernel_rfl
theorem Qao : "*" ++ "errors.errorString" = "*errors.errorString" := by decide
theorem Qc1 (u : TypeId) (h : Tryz.prog.typeName? 3 u = some "*errors.errorString") : u = 312 :=
 typeName_ptr_named (nm := "errors.errorString") (by rw [Qao]; kernel_rfl) (by kernel_rfl) (by decide) u (by rw [Qao]; exact h)
theorem Zw6(os:Os)(args:Array Value):laidMetH Tryz.prog Ztw ((World.doorLaid Tryz.prog 400 os).forCall (fun _ _=>0) ⟨#[],args,[]⟩).memory :=
 laidMetH_of_parts3 (fuel:=8) (laidMet_of_run' 8 (by kernel_rfl) (by kernel_rfl)) (by kernel_rfl) (by kernel_rfl)
theorem Zzh{W:World}(h:laidMetH Tryz.prog Ztw W):Qd W:=by
 rw[MakeChecks.laidMetH_plain _ _ _ (by kernel_rfl)] at h
 have h3:=laidMet.tail (laidMet.tail h);have h4:=laidMet.tail h3;have h5:=laidMet.tail h4;obtain⟨a0,s0,bQ,-,-,-⟩:=laid_sentinel h4 gER tER Tryz.underlying200 Qc1 Tryz.underlying312 Tryz.underlying314 rfl rfl Tryz.underlying9 Zpq Zpp;obtain⟨a1,s1,dK,-,-,-⟩:=laid_sentinel h5 gES tES Tryz.underlying200 Qc1 Tryz.underlying312 Tryz.underlying314 rfl rfl Tryz.underlying9 Zpq Zpp;have k0:W.cell? ⟨1,0,none⟩=some (.iface 312 (.pointer (some a0))):=by
  have h0:=World.var?_cell gER bQ 0
  simpa using h0
 have k1:W.cell? ⟨0,0,none⟩=some (.iface 312 (.pointer (some a1))):=by
  have h0:=World.var?_cell gES dK 0
  simpa using h0
 exact⟨Lib.tabIs_of_head (k := .u64) (zs:=Lib.pow10Tab) Zeo Qdc Tryz.underlying317 Tryz.underlying193 Zxf Zxg h3,⟨_,k0,.inr ⟨_,_,rfl⟩⟩,⟨_,k1,.inr ⟨_,_,rfl⟩⟩⟩
end Go.Proofs.YtnjedhgcfeoemaaGreatDoor

namespace Go.Proofs.YtnjedhgcfeoemaaGreatDoor
open Go.RowKit
theorem Zld(n:Int)(d:Nat)(h:d≠0):(mkRat n d).num=n/((Nat.gcd n.natAbs d:Nat):Int):=by
 rw[← Rat.normalize_eq_mkRat h,Rat.num_normalize]
theorem Zle(n:Int)(d:Nat)(h:d≠0):(mkRat n d).den=d/Nat.gcd n.natAbs d:=by
 rw[← Rat.normalize_eq_mkRat h,Rat.den_normalize]
def Sm (D:Nat) (q:Rat):Prop:=q.num.natAbs<10^D∧q.den<10^D
theorem Sm.mk'{D:Nat}{n:Int}{d:Nat}(h:d≠0)(h1:n.natAbs<10^D)(h2:d<10^D):Sm D (mkRat n d):=by
 refine⟨?_,?_⟩
 ·rw[Zld n d h];have:(n/((Nat.gcd n.natAbs d:Nat):Int)).natAbs≤n.natAbs:=by
   have h3:((Nat.gcd n.natAbs d:Nat):Int) ∣ n:=Int.gcd_dvd_left n (d:Int);rw[Int.natAbs_ediv_of_dvd h3];exact Nat.div_le_self _ _
  omega
 ·rw[Zle n d h];exact Nat.lt_of_le_of_lt (Nat.div_le_self _ _) h2
theorem Sm.le{D E:Nat}{q:Rat}(h:Sm D q)(hE:D≤E):Sm E q :=
 ⟨Nat.lt_of_lt_of_le h.1 (Nat.pow_le_pow_right (by decide) hE),Nat.lt_of_lt_of_le h.2 (Nat.pow_le_pow_right (by decide) hE)⟩
theorem Qe{a b D E:Nat}(h1:a<10^D)(h2:b<10^E):a*b<10^(D+E):=by
 rw[Nat.pow_add];exact Nat.mul_lt_mul'' h1 h2
theorem Sm.mul{D E:Nat}{a b:Rat}(ha:Sm D a)(hb:Sm E b):Sm (D+E) (a*b):=by
 rw[Rat.mul_def'];refine Sm.mk' (Nat.mul_ne_zero a.den_nz b.den_nz) ?_ (Qe ha.2 hb.2);rw[Int.natAbs_mul];exact Qe ha.1 hb.1
theorem Zxx{n m:Int}{d e D E:Nat}(h1:n.natAbs<10^D)(h2:m.natAbs<10^E)(h3:d<10^D)(h4:e<10^E):(n*e).natAbs+(m*d).natAbs+1<10^(D+E+1):=by
 have e1:=Qe h1 h4;have e2:=Qe h2 h3;rw[Nat.add_comm E D] at e2;rw[Int.natAbs_mul,Int.natAbs_mul,Int.natAbs_natCast,Int.natAbs_natCast,Nat.pow_succ];have:=Nat.pow_pos (n:=D+E) (show 0<10 by decide)
 omega
theorem Sm.add{D E:Nat}{a b:Rat}(ha:Sm D a)(hb:Sm E b):Sm (D+E+1) (a+b):=by
 rw[Rat.add_def'];have e1:=Zxx ha.1 hb.1 ha.2 hb.2;have e2:=Qe ha.2 hb.2;have e3:=Int.natAbs_add_le (a.num*b.den) (b.num*a.den);have e4:10^(D+E)≤10^(D+E+1):=Nat.pow_le_pow_right (by decide) (by omega)
 exact Sm.mk' (Nat.mul_ne_zero a.den_nz b.den_nz) (by omega) (by omega)
theorem Sm.pos{D:Nat}{q:Rat}(h:Sm D q):0<D:=by
 rcases Nat.eq_zero_or_pos D with h0|h0
 ·subst h0;have:=h.2
  have:=q.den_pos
  omega
 ·exact h0
theorem Kw{x D:Nat}(h:x<10^D)(hD:0<D)(h6:D≤1000000):Num x:=by
 unfold Num;rw[Ky];exact Nat.le_trans ((Ku x D hD).2 h) h6
theorem Zc(x D:Nat)(hD:0<D):(dec x).size≤D↔x<10^D:=by
 rw[Ky];exact Ku x D hD
def fr (q:Rat):Value:=fv q.num q.den
theorem Zc2(n:Int)(d:Nat)(h:d≠0):Zkd n d=fr (mkRat n d):=by
 unfold Zkd fr;rw[Zld n d h,Zle n d h]
theorem Zrs(w:World)(a b:Rat)(D E:Nat)(ha:Sm D a)(hb:Sm E b)(h6:D+E+2≤1000000)(L:Qd w):
  Kc Tryz.prog 110 #[fr a,fr b] w (fr (a+b)):=by
 have h1:=Zxx ha.1 hb.1 ha.2 hb.2;have h2:=Qe ha.2 hb.2;have h3:10^(D+E)<10^(D+E+1):=Nat.pow_lt_pow_right (by decide) (by omega)
 have p1:=ha.pos;have p2:=hb.pos;have q1:10^D≤10^(D+E):=Nat.pow_le_pow_right (by decide) (by omega)
 have q2:10^E≤10^(D+E):=Nat.pow_le_pow_right (by decide) (by omega)
 have q3:10^(D+E+1)=10^(D+E)*10:=Nat.pow_succ ..;have:=ha.1
 have:=hb.1
 have h:=Zxo w a.num b.num a.den b.den (Kw ha.1 p1 (by omega)) (Kw hb.1 p2 (by omega)) (Kw ha.2 p1 (by omega)) (Kw hb.2 p2 (by omega)) a.den_pos b.den_pos
  (Kw (D:=D+E+1) h1 (by omega) (by omega)) (Kw (D:=D+E+1) (by omega) (by omega) (by omega)) (Kw (D:=D+E+1) (by omega) (by omega) (by omega)) L
 rw[Zc2 _ _ (Nat.mul_ne_zero a.den_nz b.den_nz),← Rat.add_def'] at h;exact h
theorem Zu9(w:World)(a b:Rat)(D E:Nat)(ha:Sm D a)(hb:Sm E b)(h6:D+E+2≤1000000)(L:Qd w):
  Kc Tryz.prog 47 #[fr a,fr b] w (fr (a*b)):=by
 have h1:=Qe ha.1 hb.1;have h2:=Qe ha.2 hb.2;have h3:10^(D+E)<10^(D+E+1):=Nat.pow_lt_pow_right (by decide) (by omega)
 have p1:=ha.pos;have p2:=hb.pos;rw[← Int.natAbs_mul] at h1;have h:=Zv4 w a.num b.num a.den b.den (Kw ha.1 p1 (by omega)) (Kw hb.1 p2 (by omega)) (Kw ha.2 p1 (by omega)) (Kw hb.2 p2 (by omega)) a.den_pos b.den_pos
  (Kw (D:=D+E+1) (by omega) (by omega) (by omega)) (Kw (D:=D+E+1) (by omega) (by omega) (by omega)) L
 rw[Zc2 _ _ (Nat.mul_ne_zero a.den_nz b.den_nz),← Rat.mul_def'] at h;exact h
theorem Zi5(w:World)(a:Rat):Kc Tryz.prog 89 #[fr a] w (.int .i64 a.num.sign):=Zku w a.num a.den
theorem Qbm(w:World)(a:Rat)(D:Nat)(ha:Sm D a)(h6:D+1≤1000000)(L:Qd w):Kc Tryz.prog 123 #[fr a] w (.string (itx a.floor)):=by
 have p:=ha.pos;have h3:10^D<10^(D+1):=Nat.pow_lt_pow_right (by decide) (by omega)
 have:=ha.1
 have h:=Zra w a.num a.den (Kw ha.1 p (by omega)) (Kw ha.2 p (by omega)) a.den_pos (Kw (D:=D+1) (by omega) (by omega) (by omega)) L
 rw[← Rat.floor_def] at h;exact h
theorem Zs8(w:World)(z:Int)(q1 : -9223372036854775808≤z)(q2:z≤9223372036854775807)(L:Qd w):
  Kc Tryz.prog 98 #[.int .i64 z] w (fr (z:Rat)):=Zel w z q1 q2 L
def Yc (q:Rat):Prop:=q.num.natAbs<10^30∧q.den<10^30
instance (q:Rat):Decidable (Yc q):=by unfold Yc;infer_instance
theorem Zx0(w:World)(a:Rat):Kc Tryz.prog 151 #[fr a] w (.bool (decide (Yc a))):=by
 have h:=Zsi w a.num a.den;have e:decide ((dec a.num.natAbs).size≤30∧(dec a.den).size≤30)=decide (Yc a):=by
  rw[decide_eq_decide];unfold Yc;rw[Zc _ _ (by decide),Zc _ _ (by decide)]
 rw[e] at h;exact h
def IsQ (s t:ByteArray):Prop:=∃ q:Rat,s=itx q.num∧t=dec q.den∧Sm 400 q
theorem Zuq(w:World)(q:Rat)(hq:Sm 400 q)(L:Qd w):Kc Tryz.prog 150 #[fr q] w (.int .i64 0):=by
 have p:=hq.pos;have h:=Zip w q.num q.den (Kw hq.1 p (by decide)) (Kw hq.2 p (by decide)) q.den_pos L
 rw[if_pos ⟨⟨(Zc _ _ (by decide)).2 hq.1,(Zc _ _ (by decide)).2 hq.2⟩,q.reduced⟩] at h
 exact h
def Qv (l:List (ByteArray×ByteArray)):List Value:=l.flatMap fun x=>[.string x.1,.string x.2]
theorem Vc(l:List (ByteArray×ByteArray)):(Qv l).length=l.length*2:=by
 induction l with
 | nil=>rfl
 | cons x l ih=>simp only[Qv,List.flatMap_cons,List.length_append,List.length_cons,List.length_nil] at ih ⊢;omega
theorem Zz(x:ByteArray×ByteArray)(l):Qv (x::l) = .string x.1 :: .string x.2::Qv l:=rfl
theorem Zj7(l m:List (ByteArray×ByteArray)):Qv (l++m)=Qv l++Qv m:=by simp[Qv]
theorem Zby:∀ (l:List (ByteArray×ByteArray)) (k:Nat) (h:k<l.length),(Qv l)[k*2]?=some (.string l[k].1)∧(Qv l)[k*2+1]?=some (.string l[k].2)
 | [],k,h=>by simp at h
 | x::l,0,h=>by rw[Zz];exact⟨rfl,rfl⟩
 | x::l,k+1,h=>by
  rw[Zz,show (k+1)*2=k*2+1+1 by omega,show k*2+1+1+1=(k*2+1)+1+1 by omega]
  simp only[List.getElem?_cons_succ,List.getElem_cons_succ];exact Zby l k (by simpa using h)
theorem Zir:∀ (l:List (ByteArray×ByteArray)) (k:Nat) (s t:ByteArray),k<l.length→((Qv l).set (k*2) (.string s)).set (k*2+1) (.string t)=Qv (l.set k (s,t))
 | [],k,s,t,h=>by simp at h
 | x::l,0,s,t,h=>by rw[List.set_cons_zero,Zz,Zz];rfl
 | x::l,k+1,s,t,h=>by
  rw[List.set_cons_succ,Zz,Zz,show (k+1)*2=k*2+1+1 by omega,show k*2+1+1+1=(k*2+1)+1+1 by omega]
  simp only[List.set_cons_succ];rw[Zir l k s t (by simpa using h)]
def qs (q:Rat):ByteArray×ByteArray:=(itx q.num,dec q.den)
def Kt (l:List Rat):List Value:=Qv (l.map qs)
theorem Kz(l:List Rat):(Kt l).length=l.length*2:=by unfold Kt;rw[Vc,List.length_map]
def Zkc (w:World) (B:Nat) (a:Option Addr) (c:Nat) (l:List (ByteArray×ByteArray)):Prop:=w.ownsRow B 42 2 (.slice a l.length c) l.length (Qv l)
theorem Zkc.open{w:World}{B c:Nat}{a:Option Addr}{l:List (ByteArray×ByteArray)}(h:Zkc w B a c l)(hn:0<l.length):
  ∃ g,a=some ⟨g,0,none⟩∧B≤g∧g<w.heap.size∧l.length≤c∧(∀ j (hj:j<l.length),w.cell? ⟨g,j*2,none⟩=some (.string l[j].1)∧w.cell? ⟨g,j*2+1,none⟩=some (.string l[j].2))∧(∀ j,w.frozen? ⟨g,j,none⟩=false):=by
 obtain⟨g,cap,hv,h1,h2,h3,h4,h5⟩:=Vy h hn;simp only[Value.slice.injEq] at hv;obtain⟨rfl,-,rfl⟩:=hv;exact⟨g,rfl,h1,h2,h3,fun j hj=>⟨by rw[h4 (j*2) (by omega),(Zby l j hj).1],by rw[h4 (j*2+1) (by omega),(Zby l j hj).2]⟩,h5⟩
theorem Zkc.rd{w:World}{B c:Nat}{a:Option Addr}{l:List (ByteArray×ByteArray)}(h:Zkc w B a c l):Rd w a (Qv l):=by
 by_cases hn:0<l.length
 ·obtain⟨g,cap,hv,h1,h2,h3,h4,h5⟩:=Vy h hn;simp only[Value.slice.injEq] at hv;obtain⟨rfl,-,rfl⟩:=hv;refine .inr ⟨g,0,rfl,h2,fun i v hi=>?_⟩
  rw[Nat.zero_add,h4 i (by have:=(List.getElem?_eq_some_iff.1 hi).1;rw[Vc] at this;exact this)]
  exact hi
 ·rw[List.eq_nil_of_length_eq_zero (show l.length=0 by omega)];exact .inl rfl
theorem Zkc.below{w w':World}{B c:Nat}{a:Option Addr}{l:List (ByteArray×ByteArray)}(h:Zkc w B a c l){D:Nat}(hb:Below D w w')(hD:w.heap.size≤D):Zkc w' B a c l:=Vw h hb hD
theorem Zkc.store{w:World}{B c g:Nat}{l:List (ByteArray×ByteArray)}(h:Zkc w B (some ⟨g,0,none⟩) c l)(j:Nat)(hj:j<l.length)(s t:ByteArray):
  Zkc ((w.setCell ⟨g,j*2,none⟩ (.string s)).setCell ⟨g,j*2+1,none⟩ (.string t)) B (some ⟨g,0,none⟩) c (l.set j (s,t)):=by
 have h1:=(World.ownsRow.stored h (j*2) (.string s)).1;have h2:=(World.ownsRow.stored h1 (j*2+1) (.string t)).1;rw[Zir l j s t hj] at h2;unfold Zkc;rw[List.length_set];exact h2
theorem Qbh:(Tryz.prog.info? 42).map (fun i=>(i.zero,i.size,i.bytes))=some (some (.agg #[.string ⟨#[]⟩,.string ⟨#[]⟩]),2,32):=by kernel_rfl
theorem elQ:Zbz Tryz.prog 38 42 (.agg #[.string ⟨#[]⟩,.string ⟨#[]⟩]) 2 32:=⟨Tryz.underlying38,info_parts Qbh,rfl,by decide⟩
def Yr (n:Nat):List (ByteArray×ByteArray):=List.replicate n (⟨#[]⟩,⟨#[]⟩)
theorem Znw(n j:Nat)(h:j<(Qv (Yr n)).length):(Qv (Yr n))[j] = .string ⟨#[]⟩:=by
 have hm:=List.getElem_mem h;obtain⟨x,dJ,Ft⟩:=List.mem_flatMap.1 hm;obtain rfl:=List.eq_of_mem_replicate dJ
 simpa using Ft
theorem Zqv(n:Nat):madeCells #[.string ⟨#[]⟩,.string ⟨#[]⟩] (n*2)=(Qv (Yr n)).toArray:=by
 apply Array.ext
 ·rw[size_madeCells,List.size_toArray,Vc];simp[Yr]
 ·intro i h1 h2;rw[List.size_toArray] at h2;have e:(Qv (Yr n)).toArray[i] = .string ⟨#[]⟩:=by rw[List.getElem_toArray];exact Znw n i h2
  rw[e];simp only[madeCells,Array.getElem_map,Array.getElem_range];rcases(show i%2=0∨i%2=1 by omega) with h|h<;>simp[h]
theorem Qaz(n:Nat)(w:World)(hn:n≤100000000):
  (Instr.makeSlice 38 (.int .i64 (n:Int)) (.int .i64 (n:Int))).run Tryz.prog w = .ok (.slice (some ⟨w.heap.size,0,none⟩) n n) (w.alloc (.cells (Qv (Yr n)).toArray 42)):=by
 obtain⟨i,hi,hz,hs,hb⟩:=info_parts Qbh;have:=run_make (P:=Tryz.prog) w 38 42 i _ Tryz.underlying38 hi hz .i64 .i64 n n (by omega) (by omega) (by rw[hb];omega) (by omega)
 simp only[Int.toNat_natCast,hs] at this;rw[show (Value.agg #[.string ⟨#[]⟩,.string ⟨#[]⟩]).cells = #[.string ⟨#[]⟩,.string ⟨#[]⟩] from rfl,Zqv] at this
 exact this
theorem Zk6(w:World)(l:List (ByteArray×ByteArray))(hl:l.length≤100000000):Zkc (w.alloc (.cells (Qv l).toArray 42)) w.heap.size (some ⟨w.heap.size,0,none⟩) l.length l :=
 ⟨Vc l,.inr ⟨w.heap.size,l.length,(Qv l).toArray,rfl,Nat.le_refl _,heap_alloc_new _ _,Nat.le_refl _,by unfold maxLen;omega,by simp[Vc],List.take_of_length_le (by simp[Vc])⟩⟩
def Zbi (n k:Nat):List (ByteArray×ByteArray):=List.replicate k (qs 0)++Yr (n-k)
theorem Zaa(n k:Nat)(h:k≤n):(Zbi n k).length=n:=by simp[Zbi,Yr];omega
theorem Zmh(n k:Nat)(h:k<n):(Zbi n k).set k (qs 0)=Zbi n (k+1):=by
 unfold Zbi Yr;rw[List.set_append_right _ _ (by simp),List.length_replicate,Nat.sub_self]
 obtain⟨m,hm⟩:∃ m,n-k=m+1:=⟨n-k-1,by omega⟩
 rw[hm,show n-(k+1)=m by omega,List.replicate_succ,List.set_cons_zero]
 rw[List.replicate_succ',List.append_assoc];rfl
def Zc7 (w:World) (B:Nat) (a:Option Addr) (c:Nat) (l:List Rat):Prop:=Zkc w B a c (l.map qs)
theorem Zc7.rd{w:World}{B c:Nat}{a:Option Addr}{l:List Rat}(h:Zc7 w B a c l):Rd w a (Kt l):=Zkc.rd h
theorem Zc7.below{w w':World}{B c:Nat}{a:Option Addr}{l:List Rat}(h:Zc7 w B a c l){D:Nat}(hb:Below D w w')(hD:w.heap.size≤D):Zc7 w' B a c l:=Zkc.below h hb hD
theorem Zc7.open{w:World}{B c:Nat}{a:Option Addr}{l:List Rat}(h:Zc7 w B a c l)(hn:0<l.length):
  ∃ g,a=some ⟨g,0,none⟩∧B≤g∧g<w.heap.size∧l.length≤c∧(∀ j (hj:j<l.length),w.cell? ⟨g,j*2,none⟩=some (.string (itx l[j].num))∧w.cell? ⟨g,j*2+1,none⟩=some (.string (dec l[j].den)))∧(∀ j,w.frozen? ⟨g,j,none⟩=false):=by
 obtain⟨g,h1,h2,h3,h4,h5,h6⟩:=Zkc.open h (by simpa using hn)
 refine⟨g,h1,h2,h3,by simpa using h4,fun j hj=>?_,h6⟩
 have:=h5 j (by simpa using hj)
 simpa [qs] using this
theorem Zc7.store{w:World}{B c g:Nat}{l:List Rat}(h:Zc7 w B (some ⟨g,0,none⟩) c l)(j:Nat)(hj:j<l.length)(q:Rat):
  Zc7 ((w.setCell ⟨g,j*2,none⟩ (.string (itx q.num))).setCell ⟨g,j*2+1,none⟩ (.string (dec q.den))) B (some ⟨g,0,none⟩) c (l.set j q):=by
 have:=Zkc.store h j (by simpa using hj) (itx q.num) (dec q.den)
 unfold Zc7;rw[List.map_set];exact this
def Ziw (f:FuncId) (args:Array Value) (w:World) (l:List Rat):Prop :=
 Calls Tryz.prog f args w fun e w'=>∃ a c,e = .returned (.slice a l.length c)∧Zc7 w' w.heap.size a c l∧Below w.heap.size w w'
theorem Zvc(w:World)(n:Nat)(hn:n≤1000)(L:Qd w):Ziw 132 #[.int .i64 n] w (List.replicate n 0):=by
 unfold Ziw;have eI:=Qaz n w (by omega)
 have HL:=hd_ L;have Ho:=hd_ (Zk6 w (Yr n) (by simp[Yr];omega))
 have gj:=hd_ ((Below.refl w.heap.size w).alloc nr_ (.cells (Qv (Yr n)).toArray 42));have bE:Hid (∀ W,Below w.heap.size w W→Kc Tryz.prog 98 #[.int .i64 0] W (.agg #[.string (itx 0),.string (dec 1)])):=fun W hW=>Zel W 0 (by decide) (by decide) (HL.out.below hW)
 have mi:IntKind.i64.wrap (n:Int)=n:=iw_ _ (by omega)
 clear L;go_enter Tryz.func132,Tryz.ntmps132
 go_wp2_with fail
 go_loopw [9] (fun i wr=>∃ k:Nat,k≤n∧i = .int .i64 k∧Hid (Zkc wr w.heap.size (some ⟨w.heap.size,0,none⟩) n (Zbi n k))∧Hid (Below w.heap.size w wr)) (fun i _=>n-(intOf i).toNat)
 case atStart =>
  refine⟨0,Nat.zero_le _,rfl,?_,gj⟩;have:=Ho.out
  rw[show (Yr n).length=n by simp[Yr]] at this
  show Zkc _ _ _ _ _
  rw[show Zbi n 0=Yr n by simp[Zbi]]
  exact this
 case round =>
  obtain⟨k,hk,rfl,gz,Hb⟩:=hrel
  by_cases H9:k<n
  ·have gm:(k:Int)<n:=by omega
   have ib:=bE.out wr Hb.out
   go_wp2_with fail
   refine cm_ ib ?_;rintro e w1 ⟨rfl,hZ⟩;have Ff:=gz.out.below hZ nr_;have hb:=Hb.out.trans (hZ.mono Hb.out.size);obtain⟨g,hg,hB,fy,-,hcells,CV⟩:=Ff.open (by rw[Zaa n k hk];omega)
   simp only[Option.some.injEq,Addr.mk.injEq,and_true] at hg;subst hg;have c0:=(hcells k (by rw[Zaa n k hk];exact H9)).1
   have c1:=(hcells k (by rw[Zaa n k hk];exact H9)).2
   have f0:=CV (k*2);have f1:=CV (k*2+1);have EH:=hd_ Ff;have HQ:=hd_ hb;clear Ff hb hcells hZ ib gz Hb CV;go_wp2
   go_roundw
   case rel =>
    refine⟨k+1,by omega,by go_num,?_,?_⟩
    ·have:=EH.out.store k (by rw[Zaa n k hk];exact H9) (itx 0) (dec 1)
     rw[show ((itx 0,dec 1):ByteArray×ByteArray)=qs 0 from rfl,Zmh n k H9] at this
     exact this
    ·exact(HQ.out.setCell (p:=⟨w.heap.size,k*2,none⟩) nr_ _).setCell (p:=⟨w.heap.size,k*2+1,none⟩) nr_ _
   case measure=>simp[intOf];omega
  ·have gm:¬ (k:Int)<n:=by omega
   have bV:k=n:=by omega
   subst bV;go_wp2;go_ret;refine⟨some ⟨w.heap.size,0,none⟩,k,by first | rfl | (rw[show (List.replicate k (0:Rat)).length=k from List.length_replicate];rfl),?_,Hb.out⟩
   have:=gz.out
   unfold Zc7;rw[List.map_replicate];have e:Zbi k k=List.replicate k (qs 0):=by simp[Zbi,Yr]
   rw[e] at this;exact this
def Zcs (s:ByteArray):Bool:=decide (0<s.size∧(lb s).getD 0 0=45)
def Zes (s:ByteArray):ByteArray:=if Zcs s then s.extract 1 s.size else s
theorem Ztg(s:ByteArray):(Zes s).size≤s.size:=by
 unfold Zes;split
 ·rw[ByteArray.size_extract];omega
 ·omega
theorem Zp7(w:World)(s:ByteArray)(hs:s.size≤10000000):
  Kc Tryz.prog 68 #[.string s] w (.tuple #[.bool (Zcs s),.string (Zes s)]):=by
 unfold Kc
 by_cases h0:0<s.size
 ·have dz:∀ W,(Instr.index 25 (.string s) (.int .i64 0)).run Tryz.prog W = .ok (.int .u8 ((lb s).getD 0 0).toNat) W:=fun W=>Zws W s h0
  have Gj:(0:Int)<s.size:=by omega
  have fU:(1:Int)≤s.size:=by omega
  by_cases hc:(lb s).getD 0 0=45
  ·have Hv:Hid (Zcs s=true):=by show _=_;unfold Zcs;rw[decide_eq_true_eq];exact⟨h0,hc⟩
   have Hm:Hid (Zes s=s.extract 1 s.size):=by show _=_;unfold Zes;rw[if_pos Hv.out]
   rw[hc] at dz;rw[show (((45:UInt8).toNat:Nat):Int)=45 from rfl] at dz
   rw[Hv.out,Hm.out];clear Hv Hm hc;go_enter Tryz.func68,Tryz.ntmps68
   go_wp2_with fail
   go_quiet (fail)
   go_wp2
   go_ret2
   exact⟨by first | rfl | simp,by first | exact Below.refl _ _ | exact Qg _ _⟩
  ·have Hv:Hid (Zcs s=false):=by show _=_;unfold Zcs;rw[decide_eq_false_iff_not];exact fun h=>hc h.2
   have Hm:Hid (Zes s=s):=by show _=_;unfold Zes;rw[if_neg (by rw[Hv.out];decide)]
   rw[Hv.out,Hm.out];have et:((((lb s).getD 0 0).toNat:Int)==45)=false:=by
    rw[beq_eq_false_iff_ne];intro h;apply hc;apply UInt8.toNat_inj.1;have:(45:UInt8).toNat=45:=rfl
    omega
   clear Hv Hm hc;generalize (((lb s).getD 0 0).toNat:Int)=c at *
   go_enter Tryz.func68,Tryz.ntmps68;go_wp2
   go_ret2
   exact⟨rfl,Below.refl _ _⟩
 ·have Hv:Hid (Zcs s=false):=by show _=_;unfold Zcs;rw[decide_eq_false_iff_not];exact fun h=>h0 h.1
  have Hm:Hid (Zes s=s):=by show _=_;unfold Zes;rw[if_neg (by rw[Hv.out];decide)]
  rw[Hv.out,Hm.out];have Gj:¬ (0:Int)<s.size:=by omega
  clear Hv Hm;go_enter Tryz.func68,Tryz.ntmps68;go_wp2
  go_ret2
  exact⟨rfl,Below.refl _ _⟩
def IsZ (s:ByteArray):Prop:=∃ z:Int,s=itx z∧(dec z.natAbs).size≤400
theorem Zd0(z:Int):Zcs (itx z)=decide (z<0):=by
 unfold Zcs;rw[decide_eq_decide];rcases Int.eq_nat_or_neg z with⟨n,rfl|rfl⟩
 ·rw[Kj];have:=Za4 n
  constructor
  ·intro h;rw[h.2] at this;exact absurd this (by decide)
  ·omega
 ·rcases Nat.eq_zero_or_pos n with h | h
  ·subst h;have hd:=Za4 0
   show 0<(itx ((0:Nat):Int)).size∧(lb (itx ((0:Nat):Int))).getD 0 0=45↔_
   rw[Kj];constructor
   ·intro h;rw[h.2] at hd;exact absurd hd (by decide)
   ·intro h;exact absurd h (by decide)
  ·rw[Zaq n h,Zk n h];constructor
   ·intro _;omega
   ·intro _;exact⟨by omega,rfl⟩
theorem Zjj(z:Int):Zes (itx z)=dec z.natAbs:=by
 unfold Zes;rw[Zd0]
 by_cases h:z<0
 ·rw[if_pos (decide_eq_true h)];obtain⟨n,rfl⟩:∃ n:Nat,z = -(n:Int):=⟨z.natAbs,by omega⟩
  rw[Zo7 n (by omega)]
  congr 1;omega
 ·rw[if_neg (by rw[decide_eq_false h];decide)]
  obtain⟨n,rfl⟩:∃ n:Nat,z=(n:Int):=⟨z.natAbs,by omega⟩
  rw[Kj];rfl
theorem Zl8{s:ByteArray}(h:Zch (lb s)):∃ n,s=dec n:=by
 refine⟨Qu (lb s),?_⟩;have:=congrArg bs (Zl9 h)
 rw[bs_lb] at this;exact this
theorem Znd{s:ByteArray}(h:Zcs s=true):lb s=45::lb (s.extract 1 s.size):=by
 unfold Zcs at h;rw[decide_eq_true_eq] at h;obtain⟨h0,h1⟩:=h;have hl:lb (s.extract 1 s.size)=(lb s).drop 1:=by
  unfold lb;rw[ByteArray.data_extract,Array.toList_extract]
  show (s.data.toList.drop 1).take (s.size-1)=s.data.toList.drop 1
  refine List.take_of_length_le ?_;rw[List.length_drop,Array.length_toList];exact Nat.le_refl _
 rw[hl];rw[← Yf] at h0;generalize lb s=u at *
 cases u with
 | nil=>exact absurd h0 (by decide)
 | cons c l =>
  rw[show (c::l).getD 0 0=c from rfl] at h1
  rw[h1];rfl
theorem Zzl(s:ByteArray):IsZ s↔¬ (Zcs s=true∧Zes s=⟨#[48]⟩)∧Zch (lb (Zes s))∧(Zes s).size≤400:=by
 constructor
 ·rintro⟨z,rfl,hz⟩;rw[Zjj,Zd0];refine⟨?_,Zl7 _,hz⟩;rintro⟨h1,h2⟩;rw[decide_eq_true_eq] at h1;have h3:((dec z.natAbs).toList==[48])=true:=by rw[h2,Vk];rfl
  rw[Ze,decide_eq_true_eq] at h3;omega
 ·rintro⟨h1,h2,h3⟩;obtain⟨n,hn⟩:=Zl8 h2
  by_cases G5:Zcs s=true
  ·have du:1≤n:=by
    rcases Nat.eq_zero_or_pos n with h|h
    ·subst h;exact absurd ⟨G5,hn.trans Zc6⟩ h1
    ·exact h
   refine⟨-(n:Int),?_,?_⟩
   ·have e:=Znd G5;have hm:s.extract 1 s.size=dec n:=by rw[← hn];unfold Zes;rw[if_pos G5]
    rw[hm] at e;have:=congrArg bs e
    rw[bs_lb,Vz] at this;rw[this,Zgz n du]
   ·have e:(-(n:Int)).natAbs=n:=by omega
    rw[e,← hn];exact h3
  ·have hm:Zes s=s:=by unfold Zes;rw[if_neg G5]
   rw[hm] at hn h3;refine⟨(n:Int),by rw[Kj];exact hn,?_⟩
   rw[show ((n:Nat):Int).natAbs=n from rfl,← hn];exact h3
theorem Zhd(w:World)(s:ByteArray)(h:IsZ s):Kc Tryz.prog 126 #[.string s] w (.int .i64 0):=by
 obtain⟨z,rfl,hz⟩:=h;have:=Ze3 w z (Nat.le_trans hz (by decide))
 rw[if_pos hz] at this;exact this
theorem Ziq(w:World)(s:ByteArray)(hs:s.size≤10000000)(h:¬ IsZ s):Kc Tryz.prog 126 #[.string s] w (.int .i64 2):=by
 unfold Kc;have Hs:=hd_ (Zp7 w s hs);have Hc:=hd_ (fun W=>Zl4 W (Zes s) (Nat.le_trans (Ztg s) hs))
 rw[Zzl] at h
 by_cases hz:Zcs s=true∧Zes s=⟨#[48]⟩
 ·have CP:((Zes s).toList==[48])=true:=by rw[hz.2,Vk];rfl
  rw[hz.1] at Hs;clear Hc hz h;generalize Zes s=t at *
  go_enter Tryz.func126,Tryz.ntmps126
  go_wp2_with fail
  refine cm_ Hs.out ?_;rintro e w1 ⟨rfl,hZ⟩;have HQ:=hd_ hZ;clear hZ Hs;go_wp2;go_ret;exact⟨rfl,HQ.out⟩
 ·have Eb:¬ (Zch (lb (Zes s))∧(Zes s).size≤400):=fun h'=>h ⟨hz,h'⟩
  rw[if_neg Eb] at Hc;clear h Eb
  by_cases G5:Zcs s=true
  ·have CP:((Zes s).toList==[48])=false:=by
    rw[Bool.eq_false_iff];intro h';apply hz;refine⟨G5,?_⟩;have h2:=eq_of_beq h';rw[Vk] at h2;have:=congrArg bs h2
    rw[bs_lb] at this;exact this
   rw[G5] at Hs;clear hz G5;generalize Zes s=t at *
   go_enter Tryz.func126,Tryz.ntmps126
   go_wp2_with fail
   refine cm_ Hs.out ?_;rintro e w1 ⟨rfl,hZ⟩;have HQ:=hd_ hZ;clear hZ Hs
   go_wp2_with fail
   refine cm_ (Hc.out w1) ?_;rintro e w2 ⟨rfl,HU⟩;have H6:=hd_ (HQ.out.trans (HU.mono HQ.out.size));clear HU HQ Hc;go_wp2;go_ret;exact⟨rfl,H6.out⟩
  ·rw[Bool.not_eq_true] at G5;rw[G5] at Hs;clear hz G5;generalize Zes s=t at *
   go_enter Tryz.func126,Tryz.ntmps126
   go_wp2_with fail
   refine cm_ Hs.out ?_;rintro e w1 ⟨rfl,hZ⟩;have HQ:=hd_ hZ;clear hZ Hs
   go_wp2_with fail
   refine cm_ (Hc.out w1) ?_;rintro e w2 ⟨rfl,HU⟩;have H6:=hd_ (HQ.out.trans (HU.mono HQ.out.size));clear HU HQ Hc;go_wp2;go_ret;exact⟨rfl,H6.out⟩
theorem Qcd{q:Rat}{D:Nat}(hD:0<D)(h1:(dec q.num.natAbs).size≤D)(h2:(dec q.den).size≤D):Sm D q:=⟨(Zc _ _ hD).1 h1,(Zc _ _ hD).1 h2⟩
theorem Qbe{n:Int}{d:Nat}(h0:0<d)(hg:Nat.gcd n.natAbs d=1)(h1:(dec n.natAbs).size≤400)(h2:(dec d).size≤400):IsQ (itx n) (dec d) :=
 ⟨⟨n,d,by omega,hg⟩,rfl,rfl,Qcd (by decide) h1 h2⟩
theorem Zhe(w:World)(s t:ByteArray)(hs:s.size≤10000000)(ht:t.size≤10000000)(h:¬ IsQ s t)(L:Qd w):
  Kc Tryz.prog 150 #[.agg #[.string s,.string t]] w (.int .i64 2):=by
 have gj:=hd_ ((Below.refl w.heap.size w).alloc nr_ (.cells #[.string s,.string t] 42));have gi:Hid ((w.alloc (.cells #[.string s,.string t] 42)).heap[w.heap.size]?=some (.cells #[.string s,.string t] 42 (0,0))):=heap_alloc_new w _
 by_cases h1:IsZ s
 ·have gD:=hd_ (fun W=>Zhd W s h1)
  by_cases h2:IsZ t
  ·have gN:=hd_ (fun W=>Zhd W t h2)
   obtain⟨n,rfl,hn⟩:=h1;obtain⟨z,rfl,hz⟩:=h2
   by_cases e9:0<z
   ·obtain⟨d,rfl⟩:∃ d:Nat,z=(d:Int):=⟨z.toNat,by omega⟩
    rw[show ((d:Nat):Int).natAbs=d from rfl] at hz
    rw[Kj] at h ⊢;have:=Zip w n d (Nat.le_trans hn (by decide)) (Nat.le_trans hz (by decide)) (by omega) L
    rw[if_neg (fun hh=>h (Qbe (by omega) hh.2 hn hz))] at this
    exact this
   ·have Ga:=hd_ (fun W=>Yk W z)
    have GJ:z.sign≤0:=by
     rcases Int.lt_or_eq_of_le (show z≤0 by omega) with h|h
     ·rw[Int.sign_eq_neg_one_of_neg h];decide
     ·rw[h];decide
    unfold Kc;clear h hn hz e9 L;generalize z.sign=g at *
    generalize itx n=s at *
    generalize itx z=t at *
    go_enter Tryz.func150,Tryz.ntmps150;obtain⟨k0,k1,-,-⟩:=Ka gi.out
    go_wp2_with fail
    generalize w.alloc (.cells #[.string s,.string t] 42)=W0 at *
    clear k0 k1;refine cm_ (gD.out _) ?_;rintro e w1 ⟨rfl,hZ⟩;have HQ:=hd_ hZ;clear hZ gD ;obtain⟨k0,k1,-,-⟩:=Ka (Kk gi.out HQ.out)
    go_wp2_with fail
    skip
    clear k0 k1;refine cm_ (gN.out _) ?_;rintro e w2 ⟨rfl,HU⟩;have H6:=hd_ (HQ.out.trans (HU.mono HQ.out.size));clear HU gN HQ;obtain⟨k0,k1,-,-⟩:=Ka (Kk gi.out H6.out)
    go_wp2_with fail
    skip
    clear k0 k1;refine cm_ (Ga.out _) ?_;rintro e w3 ⟨rfl,hb3⟩;have gd:=hd_ (H6.out.trans (hb3.mono H6.out.size));clear hb3 Ga H6;have gP:=hd_ (gj.out.trans (gd.out.mono gj.out.size));obtain⟨k0,k1,-,-⟩:=Ka (Kk gi.out gd.out);go_wp2;go_ret;exact⟨rfl,gP.out⟩
  ·have gN:=hd_ (fun W=>Ziq W t ht h2)
   unfold Kc;clear h h1 h2 L;go_enter Tryz.func150,Tryz.ntmps150;obtain⟨k0,k1,-,-⟩:=Ka gi.out
   go_wp2_with fail
   generalize w.alloc (.cells #[.string s,.string t] 42)=W0 at *
   clear k0 k1;refine cm_ (gD.out _) ?_;rintro e w1 ⟨rfl,hZ⟩;have HQ:=hd_ hZ;clear hZ gD ;obtain⟨k0,k1,-,-⟩:=Ka (Kk gi.out HQ.out)
   go_wp2_with fail
   skip
   clear k0 k1;refine cm_ (gN.out _) ?_;rintro e w2 ⟨rfl,HU⟩;have H6:=hd_ (HQ.out.trans (HU.mono HQ.out.size));clear HU gN HQ;have gP:=hd_ (gj.out.trans (H6.out.mono gj.out.size));obtain⟨k0,k1,-,-⟩:=Ka (Kk gi.out H6.out);go_wp2;go_ret;exact⟨rfl,gP.out⟩
 ·have gD:=hd_ (fun W=>Ziq W s hs h1)
  unfold Kc;clear h h1 L;go_enter Tryz.func150,Tryz.ntmps150;obtain⟨k0,k1,-,-⟩:=Ka gi.out
  go_wp2_with fail
  generalize w.alloc (.cells #[.string s,.string t] 42)=W0 at *
  clear k0 k1;refine cm_ (gD.out _) ?_;rintro e w1 ⟨rfl,hZ⟩;have HQ:=hd_ hZ;clear hZ gD ;have gP:=hd_ (gj.out.trans (HQ.out.mono gj.out.size));obtain⟨k0,k1,-,-⟩:=Ka (Kk gi.out HQ.out);go_wp2;go_ret;exact⟨rfl,gP.out⟩
end Go.Proofs.YtnjedhgcfeoemaaGreatDoor

namespace Go.Proofs.YtnjedhgcfeoemaaGreatDoor
open Go.RowKit
open Classical in
noncomputable def sgo:List (ByteArray×ByteArray)→Int
 | []=>0
 | x::l=>if ∃ q:Rat,x=qs q∧Sm 400 q then if ∃ q:Rat,x=qs q∧Yc q then sgo l else 4 else 2
noncomputable def Zcj (n:Nat) (l:List (ByteArray×ByteArray)):Int:=if l.length=n then sgo l else 5
theorem Qm{w:World}{b off:Nat}{l:List (ByteArray×ByteArray)}(h:∀ i v,(Qv l)[i]?=some v→w.cell? ⟨b,off+i,none⟩=some v)(k:Nat)(hk:k<l.length):
  w.cell? ⟨b,off+k*2,none⟩=some (.string (l.getD k default).1)∧w.cell? ⟨b,off+k*2+1,none⟩=some (.string (l.getD k default).2):=by
 have e:l.getD k default=l[k]:=by rw[List.getD_eq_getElem?_getD,List.getElem?_eq_getElem hk];rfl
 rw[e];exact⟨h _ _ (Zby l k hk).1,by rw[Nat.add_assoc];exact h _ _ (Zby l k hk).2⟩
theorem Zj6{a b:Nat}(h:dec a=dec b):a=b:=Zn6 (Qbv h)
theorem Zjo{a b:Int}(h:itx a=itx b):a=b:=by
 have h1:=congrArg Zcs h;rw[Zd0,Zd0,decide_eq_decide] at h1;have h2:=congrArg Zes h;rw[Zjj,Zjj] at h2;have h3:=Zj6 h2;omega
theorem Qas{p q:Rat}(h:qs p=qs q):p=q:=by
 simp only[qs,Prod.mk.injEq] at h;exact Rat.ext (Zjo h.1) (Zj6 h.2)
open Classical in
theorem Zh9(w:World)(a1 a2:Option Addr)(c1 c2 n:Nat)(l:List (ByteArray×ByteArray))(hr:Rd w a2 (Qv l))(hl:l.length≤1000000)(hn:n≤1000000)(hs:∀ x∈l,x.1.size≤1000000∧x.2.size≤1000000)(L:Qd w):
  Kc Tryz.prog 78 #[.slice a1 n c1,.slice a2 l.length c2] w (.int .i64 (Zcj n l)):=by
 unfold Kc;have HL:=hd_ L;have Hs:=hd_ hs;clear L hs
 by_cases FZ:l.length=n
 ·have Hv:Hid (Zcj n l=sgo l):=by show _=_;unfold Zcj;rw[if_pos FZ]
  by_cases h0:0<l.length
  ·obtain⟨b,off,rfl,hb,hcells⟩:=hr.open (by rw[Vc];omega)
   have Gt:=hd_ hcells;clear hcells hr;rw[FZ];have Hn:=hd_ FZ;clear FZ hl h0;go_enter Tryz.func78,Tryz.ntmps78
   go_wp2_with fail
   go_loopw [14] (fun i wr=>∃ k:Nat,k≤n∧i = .int .i64 k∧Hid (sgo l=sgo (l.drop k))∧Hid (Below w.heap.size w wr)) (fun i _=>n-(intOf i).toNat)
   case atStart=>exact⟨0,Nat.zero_le _,rfl,rfl,Below.refl _ _⟩
   case round =>
    obtain⟨k,hk,rfl,Hg,Hb⟩:=hrel
    by_cases H9:k<n
    ·have gm:(k:Int)<n:=by omega
     have gO:k<l.length:=by rw[Hn.out];exact H9
     obtain⟨c0,c1⟩:=Qm Gt.out k gO;rw[← Hb.out.cell (p:=⟨b,off+k*2,none⟩) hb] at c0;rw[← Hb.out.cell (p:=⟨b,off+k*2+1,none⟩) hb] at c1;obtain⟨x,hx⟩:∃ x,l.getD k default=x:=⟨_,rfl⟩;have iv:l[k]=x:=by rw[← hx,List.getD_eq_getElem?_getD,List.getElem?_eq_getElem gO];rfl
     have Hd:Hid (l.drop k=x::l.drop (k+1)):=by show _=_;rw[← iv];exact List.drop_eq_getElem_cons gO
     have fF:=hd_ (Hs.out x (by rw[← iv];exact List.getElem_mem gO))
     rw[hx] at c0 c1;clear hx iv gO;obtain⟨s,t⟩:=x;simp only at c0 c1;have gj:=hd_ (Hb.out.alloc Hb.out.size (.cells #[.string s,.string t] 42));have gi:Hid ((wr.alloc (.cells #[.string s,.string t] 42)).heap[wr.heap.size]?=some (.cells #[.string s,.string t] 42 (0,0))):=heap_alloc_new wr _
     by_cases hq:∃ q:Rat,(s,t)=qs q∧Sm 400 q
     ·have gK:Kc Tryz.prog 150 #[.agg #[.string s,.string t]] (wr.alloc (.cells #[.string s,.string t] 42)) (.int .i64 0):=by
       obtain⟨q,hqs,CT⟩:=hq;simp only[qs,Prod.mk.injEq] at hqs;have m7:=HL.out.below gj.out;rw[hqs.1,hqs.2] at m7 ⊢;exact Zuq _ q CT m7
      have lP:Hid (∀ W,Kc Tryz.prog 151 #[.agg #[.string s,.string t]] W (.bool (decide (∃ q:Rat,(s,t)=qs q∧Yc q)))):=fun W=>by
       obtain⟨q,hqs,CT⟩:=hq;have e:decide (∃ p:Rat,(s,t)=qs p∧Yc p)=decide (Yc q):=by
        rw[decide_eq_decide];constructor
        ·rintro⟨p,h1,h2⟩;rw[hqs] at h1;rw[Qas h1];exact h2
        ·exact fun h=>⟨q,hqs,h⟩
       rw[e];simp only[qs,Prod.mk.injEq] at hqs;rw[hqs.1,hqs.2];exact Zx0 W q
      have Bv:Hid (sgo l=if ∃ q:Rat,(s,t)=qs q∧Yc q then sgo (l.drop (k+1)) else 4):=by
       show _=_
       rw[Hg.out,Hd.out]
       show (if _ then _ else _)=_
       rw[if_pos hq]
      clear hq Hg Hd
      go_wp2_with fail
      generalize wr.alloc (.cells #[.string s,.string t] 42)=W0 at *
      clear c0 c1;refine cm_ gK ?_;rintro e w1 ⟨rfl,hZ⟩;have HQ:=hd_ hZ;clear hZ gK;obtain⟨k0,k1,-,-⟩:=Ka (Kk gi.out HQ.out);have CR:=lP.out w1
      by_cases hshort:∃ q:Rat,(s,t)=qs q∧Yc q
      ·rw[decide_eq_true hshort] at CR;have De:Hid (sgo l=sgo (l.drop (k+1))):=by show _=_;rw[Bv.out,if_pos hshort]
       clear hshort Bv lP
       go_wp2_with fail
       clear k0 k1;refine cm_ CR ?_;rintro e w2 ⟨rfl,HU⟩;have H6:=hd_ (gj.out.trans ((HQ.out.trans (HU.mono HQ.out.size)).mono gj.out.size));clear HU CR HQ;go_wp2
       go_roundw
       case rel=>exact⟨k+1,by omega,by go_num,De,H6⟩
       case measure=>simp[intOf];omega
      ·rw[decide_eq_false hshort] at CR;have De:Hid (sgo l=4):=by show _=_;rw[Bv.out,if_neg hshort]
       clear hshort Bv lP
       go_wp2_with fail
       clear k0 k1;refine cm_ CR ?_;rintro e w2 ⟨rfl,HU⟩;have H6:=hd_ (gj.out.trans ((HQ.out.trans (HU.mono HQ.out.size)).mono gj.out.size));clear HU CR HQ;go_wp2;go_ret;exact⟨by rw[Hv.out,De.out];rfl,H6.out⟩
     ·have gK:Kc Tryz.prog 150 #[.agg #[.string s,.string t]] (wr.alloc (.cells #[.string s,.string t] 42)) (.int .i64 2) :=
       Zhe _ s t (Nat.le_trans fF.out.1 (by decide)) (Nat.le_trans fF.out.2 (by decide)) (fun ⟨q,h1,h2,h3⟩=>hq ⟨q,by rw[h1,h2];rfl,h3⟩) (HL.out.below (gj.out))
      have De:Hid (sgo l=2):=by
       show _=_
       rw[Hg.out,Hd.out]
       show (if _ then _ else _)=_
       rw[if_neg hq]
      clear hq Hg Hd
      go_wp2_with fail
      generalize wr.alloc (.cells #[.string s,.string t] 42)=W0 at *
      clear c0 c1;refine cm_ gK ?_;rintro e w1 ⟨rfl,hZ⟩;have H6:=hd_ (gj.out.trans (hZ.mono gj.out.size));clear hZ gK;go_wp2;go_ret;exact⟨by rw[Hv.out,De.out];rfl,H6.out⟩
    ·have gm:¬ (k:Int)<n:=by omega
     have Fp:Hid (sgo l=0):=by
      show _=_
      rw[Hg.out,List.drop_of_length_le (by rw[Hn.out];omega)]
      rfl
     go_wp2;go_ret;exact⟨by rw[Hv.out,Fp.out];rfl,Hb.out⟩
  ·have GM:l=[]:=List.eq_nil_of_length_eq_zero (by omega)
   subst GM;have du:n=0:=by rw[← FZ];rfl
   subst du;have Db:Hid (sgo []=0):=rfl;rw[show ([]:List (ByteArray×ByteArray)).length=0 from rfl]
   have hz:((0:Nat):Int)=0:=rfl;go_enter Tryz.func78,Tryz.ntmps78
   go_wp2_with fail
   go_loopw [14] (fun i wr=>i = .int .i64 0∧Hid (Below w.heap.size w wr)) (fun i _=>0)
   case atStart=>exact⟨rfl,Below.refl _ _⟩
   case round =>
    obtain⟨rfl,Hb⟩:=hrel;go_wp2;go_ret;exact⟨by rw[Hv.out,Db.out];rfl,Hb.out⟩
 ·have Hv:Hid (Zcj n l=5):=by show _=_;unfold Zcj;rw[if_neg FZ]
  have gq:((l.length:Int)==(n:Int))=false:=by rw[beq_eq_false_iff_ne];omega
  clear hr;generalize l.length=m at *
  go_enter Tryz.func78,Tryz.ntmps78;go_wp2;go_ret;exact⟨by rw[Hv.out];rfl,Below.refl _ _⟩
end Go.Proofs.YtnjedhgcfeoemaaGreatDoor

namespace Go.Proofs.YtnjedhgcfeoemaaGreatDoor
open Go.RowKit
abbrev Ze9:=List (ByteArray×ByteArray)
def RdL (w:World) (a:Option Addr) (ls:List Ze9):Prop :=
 ls=[]∨∃ b off,a=some ⟨b,off,none⟩∧b<w.heap.size∧∀ i,i<ls.length→∃ a' c',w.cell? ⟨b,off+i,none⟩=some (.slice a' (ls.getD i []).length c')∧Rd w a' (Qv (ls.getD i []))
theorem RdL.below{w w':World}{a:Option Addr}{ls:List Ze9}{B:Nat}(h:RdL w a ls)(hb:Below B w w')(hB:w.heap.size≤B):RdL w' a ls:=by
 rcases h with h|⟨b,off,h1,h2,h3⟩
 ·exact .inl h
 ·refine .inr ⟨b,off,h1,Nat.lt_of_lt_of_le h2 hb.size,fun i hi=>?_⟩
  obtain⟨a',c',h4,h5⟩:=h3 i hi;exact⟨a',c',by rw[hb.cell (p:=⟨b,off+i,none⟩) (by show b<B;omega)];exact h4,h5.below hb hB⟩
def Ssz (l:Ze9):Prop:=∀ x∈l,x.1.size≤1000000∧x.2.size≤1000000
noncomputable def Zrl (ps:List Int) (l:Ze9):Int:=if Vo ps=0 then Zcj ps.length l else Vo ps
noncomputable def lgo (n:Nat):List Ze9→Int
 | []=>0
 | l::ls=>if Zcj n l=0 then lgo n ls else Zcj n l
noncomputable def Zlh (ps:List Int) (ls:List Ze9):Int:=if Vo ps=0 then lgo ps.length ls else Vo ps
theorem Zds(w:World)(a1 a2:Option Addr)(c1 c2:Nat)(ps:List Int)(l:Ze9)(hp:Rd w a1 (Qt ps))(hi:Ziv ps)(Fm:ps.length≤1000000)
  (hr:Rd w a2 (Qv l)) (hl:l.length≤1000000) (hs:Ssz l) (L:Qd w) :
  Kc Tryz.prog 22 #[.slice a1 ps.length c1,.slice a2 l.length c2] w (.int .i64 (Zrl ps l)):=by
 unfold Kc;have H1:=hd_ (Zdd w a1 c1 ps hp hi Fm);have H2:Hid (∀ W,Below w.heap.size w W→Kc Tryz.prog 78 #[.slice a1 ps.length c1,.slice a2 l.length c2] W (.int .i64 (Zcj ps.length l))):=fun W hW =>
  Zh9 W a1 a2 c1 c2 ps.length l (hr.below hW nr_) hl Fm hs (L.below hW)
 have Hv:Hid (Zrl ps l=if Vo ps=0 then Zcj ps.length l else Vo ps):=rfl
 clear hp hi Fm hr hl hs L;generalize Zrl ps l=v at *
 generalize Vo ps=p at *
 generalize Zcj ps.length l=q at *
 generalize ps.length=n at *
 generalize l.length=m at *
 by_cases h0:p=0
 ·subst h0;have Fp:Hid (v=q):=by show _=_;rw[Hv.out,if_pos rfl]
  clear Hv;go_enter Tryz.func22,Tryz.ntmps22
  go_wp2_with fail
  refine cm_ H1.out ?_;rintro e w1 ⟨rfl,hZ⟩;have HQ:=hd_ hZ;clear hZ H1
  go_wp2_with fail
  refine cm_ (H2.out w1 HQ.out) ?_;rintro e w2 ⟨rfl,HU⟩;have H6:=hd_ (HQ.out.trans (HU.mono HQ.out.size));clear HU H2 HQ;go_wp2;go_ret;exact⟨by rw[Fp.out];rfl,H6.out⟩
 ·have Fp:Hid (v=p):=by show _=_;rw[Hv.out,if_neg h0]
  have fh:(p==0)=false:=by rw[beq_eq_false_iff_ne];exact h0
  clear Hv h0;go_enter Tryz.func22,Tryz.ntmps22
  go_wp2_with fail
  refine cm_ H1.out ?_;rintro e w1 ⟨rfl,hZ⟩;have HQ:=hd_ hZ;clear hZ H1;go_wp2;go_ret;exact⟨by rw[Fp.out];rfl,HQ.out⟩
theorem Zcv(w:World)(a1 a2:Option Addr)(c1 c2:Nat)(ps:List Int)(ls:List Ze9)(hp:Rd w a1 (Qt ps))(hi:Ziv ps)(Fm:ps.length≤1000000)
  (hr:RdL w a2 ls) (hl:ls.length≤1000000) (F0:∀ l∈ls,l.length≤1000000∧Ssz l) (L:Qd w) :
  Kc Tryz.prog 107 #[.slice a1 ps.length c1,.slice a2 ls.length c2] w (.int .i64 (Zlh ps ls)):=by
 unfold Kc;have H1:=hd_ (Zdd w a1 c1 ps hp hi Fm);have H2:Hid (∀ W a c l,Below w.heap.size w W→l∈ls→Rd W a (Qv l)→Kc Tryz.prog 78 #[.slice a1 ps.length c1,.slice a l.length c] W (.int .i64 (Zcj ps.length l))):=fun W a c l hW hm CS =>
  Zh9 W a1 a c1 c ps.length l CS (F0 l hm).1 Fm (F0 l hm).2 (L.below hW)
 have Hv:Hid (Zlh ps ls=if Vo ps=0 then lgo ps.length ls else Vo ps):=rfl
 have Hr:=hd_ hr;clear hp hi Fm F0 L hr;generalize Zlh ps ls=v at *
 generalize Vo ps=p at *
 generalize ps.length=n at *
 by_cases h0:p=0
 ·subst h0;have Fp:Hid (v=lgo n ls):=by show _=_;rw[Hv.out,if_pos rfl]
  clear Hv;generalize hm:ls.length=m at *
  have Hm:=hd_ hm;clear hm;go_enter Tryz.func107,Tryz.ntmps107
  go_wp2_with fail
  refine cm_ H1.out ?_;rintro e w1 ⟨rfl,hZ⟩;have HQ:=hd_ hZ;clear hZ H1
  go_wp2_with fail
  go_loopw [16] (fun i wr=>∃ k:Nat,k≤m∧i = .int .i64 k∧Hid (lgo n ls=lgo n (ls.drop k))∧Hid (Below w.heap.size w wr)) (fun i _=>m-(intOf i).toNat)
  case atStart=>exact⟨0,Nat.zero_le _,rfl,rfl,HQ⟩
  case round =>
   obtain⟨k,hk,rfl,Hg,Hb⟩:=hrel
   by_cases H9:k<m
   ·have gm:(k:Int)<m:=by omega
    have gO:k<ls.length:=by rw[Hm.out];exact H9
    rcases Hr.out with GM|⟨b,off,rfl,hb,hcells⟩
    ·rw[GM] at gO;exact absurd gO (Nat.not_lt_zero _)
    obtain⟨a',c',cx,CS⟩:=hcells k gO;have fy:ls.getD k []=ls[k]:=by rw[List.getD_eq_getElem?_getD,List.getElem?_eq_getElem gO];rfl
    rw[← Hb.out.cell (p:=⟨b,off+k,none⟩) hb,fy] at cx;rw[fy] at CS;have Hd:Hid (ls.drop k=ls[k]::ls.drop (k+1)):=List.drop_eq_getElem_cons gO;have Gq:ls[k]∈ls:=List.getElem_mem gO;have hc:=H2.out wr a' c' ls[k] Hb.out Gq (CS.below Hb.out nr_);clear fy hcells CS Gq;generalize ls[k]=l at *
    generalize l.length=q at *
    by_cases hs:Zcj n l=0
    ·have De:Hid (lgo n ls=lgo n (ls.drop (k+1))):=by
      show _=_
      rw[Hg.out,Hd.out]
      show (if _ then _ else _)=_
      rw[if_pos hs]
     rw[hs] at hc;clear hs Hg Hd
     go_wp2_with fail
     refine cm_ hc ?_;rintro e w2 ⟨rfl,HU⟩;have H6:=hd_ (Hb.out.trans (HU.mono Hb.out.size));clear HU hc Hb;go_wp2
     go_roundw
     case rel=>exact⟨k+1,by omega,by go_num,De,H6⟩
     case measure=>simp[intOf];omega
    ·have De:Hid (lgo n ls=Zcj n l):=by
      show _=_
      rw[Hg.out,Hd.out]
      show (if _ then _ else _)=_
      rw[if_neg hs]
     have DQ:(Zcj n l==0)=false:=by rw[beq_eq_false_iff_ne];exact hs
     clear hs Hg Hd;generalize Zcj n l=z at *
     go_wp2_with fail
     refine cm_ hc ?_;rintro e w2 ⟨rfl,HU⟩;have H6:=hd_ (Hb.out.trans (HU.mono Hb.out.size));clear HU hc Hb;go_wp2;go_ret;exact⟨by rw[Fp.out,De.out];rfl,H6.out⟩
   ·have gm:¬ (k:Int)<m:=by omega
    have De:Hid (lgo n ls=0):=by
     show _=_
     rw[Hg.out,List.drop_of_length_le (by rw[Hm.out];omega)]
     rfl
    go_wp2;go_ret;exact⟨by rw[Fp.out,De.out];rfl,Hb.out⟩
 ·have Fp:Hid (v=p):=by show _=_;rw[Hv.out,if_neg h0]
  have fh:(p==0)=false:=by rw[beq_eq_false_iff_ne];exact h0
  clear Hv h0;generalize ls.length=m at *
  go_enter Tryz.func107,Tryz.ntmps107
  go_wp2_with fail
  refine cm_ H1.out ?_;rintro e w1 ⟨rfl,hZ⟩;have HQ:=hd_ hZ;clear hZ H1;go_wp2;go_ret;exact⟨by rw[Fp.out];rfl,HQ.out⟩
def Zdl (acc x:List Rat) (f:Rat):List Rat:=List.zipWith (fun o y=>o+y*f) acc x
def Zh2 (n:Nat) (ls:List (List Rat)) (fs:List Rat) (k:Nat):List Rat:=((ls.zip fs).take k).foldl (fun acc p=>Zdl acc p.1 p.2) (List.replicate n 0)
def Zhp (n:Nat) (ls:List (List Rat)) (fs:List Rat):List Rat:=(ls.zip fs).foldl (fun acc p=>Zdl acc p.1 p.2) (List.replicate n 0)
def Zqu (acc x:List Rat) (f:Rat) (j:Nat):List Rat:=(Zdl acc x f).take j++acc.drop j
theorem Zn(acc x:List Rat)(f:Rat)(h:x.length=acc.length):(Zdl acc x f).length=acc.length:=by simp[Zdl,h]
theorem Zb7(acc x:List Rat)(f:Rat)(j:Nat)(h:x.length=acc.length)(hj:j≤acc.length):(Zqu acc x f j).length=acc.length:=by
 simp only[Zqu,List.length_append,List.length_take,List.length_drop,Zn acc x f h];omega
theorem Zv8(acc x:List Rat)(f:Rat)(j:Nat)(h:x.length=acc.length)(hj:j<acc.length)(hh:j<(Zqu acc x f j).length):(Zqu acc x f j)[j]=acc[j]:=by
 simp only[Zqu];rw[List.getElem_append_right (by rw[List.length_take,Zn acc x f h];omega)]
 simp only[List.getElem_drop,List.length_take,Zn acc x f h];congr 1;omega
theorem Zv7(acc x:List Rat)(f:Rat)(j:Nat)(h:x.length=acc.length)(hj:j<acc.length):(Zqu acc x f j).set j (acc[j]+x[j]*f)=Zqu acc x f (j+1):=by
 have hl:=Zn acc x f h;unfold Zqu;rw[List.set_append_right _ _ (by rw[List.length_take];omega),List.length_take,hl,Nat.min_eq_left (by omega),Nat.sub_self,List.drop_eq_getElem_cons hj,List.set_cons_zero,
  List.take_add_one,List.getElem?_eq_getElem (show j<(Zdl acc x f).length by omega),List.append_assoc]
 have:(Zdl acc x f)[j]=acc[j]+x[j]*f:=by simp[Zdl]
 rw[this];rfl
theorem Ztf(acc x:List Rat)(f:Rat):Zqu acc x f 0=acc:=by simp[Zqu]
theorem Zv9(acc x:List Rat)(f:Rat)(h:x.length=acc.length):Zqu acc x f acc.length=Zdl acc x f:=by
 unfold Zqu;rw[List.drop_length,List.append_nil,List.take_of_length_le (by rw[Zn acc x f h];exact Nat.le_refl _)]
theorem Zgg(n ls fs):Zh2 n ls fs 0=List.replicate n 0:=rfl
theorem Zgh(n:Nat)(ls:List (List Rat))(fs:List Rat)(k:Nat)(h1:k<ls.length)(h2:k<fs.length):Zh2 n ls fs (k+1)=Zdl (Zh2 n ls fs k) ls[k] fs[k]:=by
 unfold Zh2;rw[List.take_add_one,List.getElem?_eq_getElem (by rw[List.length_zip];omega),List.foldl_append]
 simp
theorem Zoo(n:Nat)(ls:List (List Rat))(fs:List Rat)(k:Nat)(h:ls.length≤k):Zh2 n ls fs k=Zhp n ls fs:=by
 unfold Zh2 Zhp;rw[List.take_of_length_le (by rw[List.length_zip];omega)]
theorem Za(n:Nat)(ls:List (List Rat))(fs:List Rat)(hl:∀ l∈ls,l.length=n)(hf:fs.length=ls.length):∀ k,k≤ls.length→(Zh2 n ls fs k).length=n
 | 0,_=>by rw[Zgg,List.length_replicate]
 | k+1,h=>by
  have ih:=Za n ls fs hl hf k (by omega)
  rw[Zgh n ls fs k (by omega) (by omega),Zn _ _ _ (by rw[ih];exact hl _ (List.getElem_mem _)),ih]
theorem Zgf(n:Nat)(ls:List (List Rat))(fs:List Rat)(hl:∀ l∈ls,l.length=n)(hf:fs.length=ls.length):(Zhp n ls fs).length=n:=by
 rw[← Zoo n ls fs ls.length nr_];exact Za n ls fs hl hf _ nr_
theorem Sm.zero:Sm 1 0:=⟨by decide,by decide⟩
theorem Zsb(n:Nat)(ls:List (List Rat))(fs:List Rat)(Dx Df:Nat)(hl:∀ l∈ls,∀ q∈l,Sm Dx q)(hfq:∀ q∈fs,Sm Df q)(hf:fs.length=ls.length):∀ k,k≤ls.length→∀ q∈Zh2 n ls fs k,Sm (1+k*(Dx+Df+1)) q
 | 0,_,q,hq=>by
  rw[Zgg] at hq;rw[List.eq_of_mem_replicate hq]
  simpa using Sm.zero
 | k+1,h,q,hq=>by
  have ih:=Zsb n ls fs Dx Df hl hfq hf k (by omega)
  rw[Zgh n ls fs k (by omega) (by omega)] at hq
  unfold Zdl at hq;obtain⟨i,hi,hqi⟩:=List.mem_iff_getElem.1 hq;rw[List.getElem_zipWith] at hqi;rw[← hqi];have h1:=ih _ (List.getElem_mem (show i<(Zh2 n ls fs k).length by simp at hi;omega))
  have h2:=hl _ (List.getElem_mem (show k<ls.length by omega)) _ (List.getElem_mem (show i<(ls[k]).length by simp at hi;omega))
  have h3:=hfq _ (List.getElem_mem (show k<fs.length by omega))
  exact(h1.add (h2.mul h3)).le (by rw[Nat.add_mul];omega)
theorem Qw(l:List Rat)(k:Nat)(h:k<l.length):((l.map qs).getD k default)=qs l[k]:=by
 rw[List.getD_eq_getElem?_getD,List.getElem?_map,List.getElem?_eq_getElem h];rfl
theorem Zff(w:World)(a b:Rat)(D E:Nat)(ha:Sm D a)(hb:Sm E b)(h6:D+E+2≤1000000)(L:Qd w):
  ∀ d os,Calls Tryz.prog 47 #[fr a,fr b] (Go.Sort.grow (redrawn w d) os) fun e w''=>e = .returned (fr (a*b))∧∃ p:Regrown,w''=Go.Sort.grow (redrawn w p.d) p.os:=fun d os =>
 Calls.regrown_of (Zu9 _ a b D E ha hb h6 (L.below (below_regrown w d os)))
theorem Zmd(w:World)(a b:Rat)(D E:Nat)(ha:Sm D a)(hb:Sm E b)(h6:D+E+2≤1000000)(L:Qd w):
  ∀ d os,Calls Tryz.prog 110 #[fr a,fr b] (Go.Sort.grow (redrawn w d) os) fun e w''=>e = .returned (fr (a+b))∧∃ p:Regrown,w''=Go.Sort.grow (redrawn w p.d) p.os:=fun d os =>
 Calls.regrown_of (Zrs _ a b D E ha hb h6 (L.below (below_regrown w d os)))
theorem Zyy(w:World)(a2 a3:Option Addr)(c2 c3 n:Nat)(ls:List (List Rat))(fs:List Rat)(Dx Df:Nat)
  (hr:RdL w a2 (ls.map (List.map qs))) (hf:Rd w a3 (Kt fs)) (gh:∀ l∈ls,l.length=n) (D6:fs.length=ls.length) (hx:∀ l∈ls,∀ q∈l,Sm Dx q) (hfq:∀ q∈fs,Sm Df q)
  (hn:n≤1000) (hm:ls.length≤1000) (hD:3+(ls.length+1)*(Dx+Df+1)≤1000000) (L:Qd w) :
  Ziw 97 #[.int .i64 n,.slice a2 ls.length c2,.slice a3 fs.length c3] w (Zhp n ls fs):=by
 unfold Ziw;have HL:=hd_ L;have Hr:=hd_ hr;have Hf:=hd_ hf;have gZ:=hd_ gh;have Hx:=hd_ hx;have Le:=hd_ hfq;have HD:=hd_ hD;have Hz:=hd_ (Zvc w n hn L);have Cu:=hd_ D6;have oO:=hd_ (Zgf n ls fs gh D6);rw[D6];clear L hr hf gh hx hfq D6 hD;generalize BU:ls.length=m at *
 have Hm:=hd_ BU;clear BU;rw[oO.out];go_enter Tryz.func97,Tryz.ntmps97
 go_wp2_with fail
 refine cm_ Hz.out ?_;rintro e w1 ⟨a,c,rfl,gu,hZ⟩;rw[show (List.replicate n (0:Rat)).length=n from List.length_replicate]
 have gz:=hd_ gu;have HQ:=hd_ hZ;clear gu hZ Hz
 go_wp2_with fail
 go_loopw [16] (fun i wr=>∃ k:Nat,k≤m∧i = .int .i64 k∧Hid (Zc7 wr w.heap.size a c (Zh2 n ls fs k))∧Hid (Below w.heap.size w wr)) (fun i _=>m-(intOf i).toNat)
 case atStart=>exact⟨0,Nat.zero_le _,rfl,by rw[Zgg];exact gz,HQ⟩
 case round =>
  obtain⟨k,hk,rfl,gz,Hb⟩:=hrel
  by_cases H9:k<m
  ·have gm:(k:Int)<m:=by omega
   have gO:k<ls.length:=by rw[Hm.out];exact H9
   rcases Hr.out with GM|⟨b,off,rfl,hb,hcells⟩
   ·rw[List.map_eq_nil_iff] at GM;rw[GM] at gO;exact absurd gO (Nat.not_lt_zero _)
   obtain⟨a',c',cx,CS⟩:=hcells k (by rw[List.length_map];exact gO)
   have fy:(ls.map (List.map qs)).getD k []=ls[k].map qs:=by rw[List.getD_eq_getElem?_getD,List.getElem?_map,List.getElem?_eq_getElem gO];rfl
   have EQ:=gZ.out _ (List.getElem_mem gO);rw[← Hb.out.cell (p:=⟨b,off+k,none⟩) hb,fy,List.length_map,EQ] at cx;rw[fy] at CS;have j0:=hd_ CS;have aM:=hd_ EQ;have DZ:(0:Int)≤k:=by omega
   clear fy hcells CS EQ
   go_wp2_with fail
   have pI:=hd_ Hb.out
   go_loopw [23] (fun j wr=>∃ i:Nat,i≤n∧j = .int .i64 i∧Hid (Zc7 wr w.heap.size a c (Zqu (Zh2 n ls fs k) ls[k] (fs.getD k 0) i))∧Hid (Below w.heap.size w wr)) (fun j _=>n-(intOf j).toNat)
   case atStart=>exact⟨0,Nat.zero_le _,rfl,by rw[Ztf];exact gz,Hb⟩
   case round =>
    obtain⟨i,hi,rfl,gW,H6⟩:=hrel
    by_cases hli:i<n
    ·have JP:(i:Int)<n:=by omega
     have dY:=Za n ls fs gZ.out (by rw[Cu.out,Hm.out]) k (by omega)
     have iq:i<(ls[k]).length:=by rw[aM.out];exact hli
     have it:i<(Zh2 n ls fs k).length:=by rw[dY];exact hli
     have bd:(ls[k]).length=(Zh2 n ls fs k).length:=by rw[dY];exact aM.out
     have bW:k<fs.length:=by rw[Cu.out];exact H9
     have J5:fs.getD k 0=fs[k]:=by rw[List.getD_eq_getElem?_getD,List.getElem?_eq_getElem bW];rfl
     -- the element of the row
     obtain⟨bx,ox,rfl,hbx,hcx⟩:=j0.out.open (by rw[Vc,List.length_map,aM.out];omega)
     obtain⟨x0,x1⟩:=Qm hcx i (by rw[List.length_map];exact iq)
     rw[← H6.out.cell (p:=⟨bx,ox+i*2,none⟩) hbx,Qw _ i iq] at x0;rw[← H6.out.cell (p:=⟨bx,ox+i*2+1,none⟩) hbx,Qw _ i iq] at x1
     -- the factor
     obtain⟨bf,of,rfl,hbf,hcf⟩:=Hf.out.open (by rw[Kz];omega)
     obtain⟨y0,y1⟩:=Qm hcf k (by rw[List.length_map];exact bW)
     rw[← H6.out.cell (p:=⟨bf,of+k*2,none⟩) hbf,Qw _ k bW] at y0;rw[← H6.out.cell (p:=⟨bf,of+k*2+1,none⟩) hbf,Qw _ k bW] at y1
     -- the sum so far
     have EN:=Zb7 (Zh2 n ls fs k) ls[k] (fs.getD k 0) i bd (by omega)
     obtain⟨g,rfl,hBg,fy,-,hco,CV⟩:=gW.out.open (by rw[EN,dY];omega)
     obtain⟨o0,o1⟩:=hco i (by rw[EN];exact it)
     rw[Zv8 _ _ _ i bd it (by rw[EN];exact it)] at o0 o1
     have f0:=CV (i*2);have f1:=CV (i*2+1);have sx:=Hx.out _ (List.getElem_mem gO) _ (List.getElem_mem iq);have sf:=Le.out _ (List.getElem_mem bW);have sa:=Zsb n ls fs Dx Df Hx.out Le.out (by rw[Cu.out,Hm.out]) k (by omega) _ (List.getElem_mem it)
     have lz:(k+1)*(Dx+Df+1)≤(m+1)*(Dx+Df+1):=Nat.mul_le_mul_right _ (by omega)
     have iQ:(k+1)*(Dx+Df+1)=k*(Dx+Df+1)+(Dx+Df+1):=by rw[Nat.add_mul,Nat.one_mul]
     have iR:=HD.out;have iS:(m+1)*(Dx+Df+1)=m*(Dx+Df+1)+(Dx+Df+1):=by rw[Nat.add_mul,Nat.one_mul]
     have nF:=hd_ (HL.out.below H6.out);have aJ:=hd_ (Zv7 (Zh2 n ls fs k) ls[k] fs[k] i bd it);rw[J5] at gW;have Oa:=hd_ J5;have HM:Hid (∀ W,Below wr.heap.size wr W→∀ d os,Calls Tryz.prog 47 #[fr (ls[k])[i],fr fs[k]] (Go.Sort.grow (redrawn W d) os) fun e w''=>e = .returned (fr ((ls[k])[i]*fs[k]))∧∃ p:Regrown,w''=Go.Sort.grow (redrawn W p.d) p.os):=fun W hW =>
      Zff W _ _ Dx Df sx sf (by omega) (nF.out.below hW)
     have HA:Hid (∀ W,Below wr.heap.size wr W→∀ d os,Calls Tryz.prog 110 #[fr (Zh2 n ls fs k)[i],fr ((ls[k])[i]*fs[k])] (Go.Sort.grow (redrawn W d) os) fun e w''=>e = .returned (fr ((Zh2 n ls fs k)[i]+(ls[k])[i]*fs[k]))∧∃ p:Regrown,w''=Go.Sort.grow (redrawn W p.d) p.os):=fun W hW =>
      Zmd W _ _ (1+k*(Dx+Df+1)) (Dx+Df) sa (sx.mul sf) (by omega) (nF.out.below hW)
     unfold fr fv at HM HA;clear sx sf sa lz iQ iR iS hcx hcf hco CV J5 EN;generalize (Zh2 n ls fs k)[i]=oq at *
     generalize (ls[k])[i]=xq at *
     generalize fs[k]=fq at *
     simp only[qs] at x0 x1 y0 y1;have gj:=hd_ (H6.out.alloc H6.out.size (.cells #[.string (itx xq.num),.string (dec xq.den)] 42));have E4:=hd_ ((Below.refl wr.heap.size wr).alloc nr_ (.cells #[.string (itx xq.num),.string (dec xq.den)] 42));have gi:Hid ((wr.alloc (.cells #[.string (itx xq.num),.string (dec xq.den)] 42)).heap[wr.heap.size]?=some (.cells #[.string (itx xq.num),.string (dec xq.den)] 42 (0,0))):=heap_alloc_new wr _;have hM:=HM.out _ E4.out;have hA:=HA.out _ E4.out;have ge:=gW.out.below E4.out nr_;have j4:=hd_ ((E4.out.cell (p:=⟨g,i*2,none⟩) fy).trans o0);have FU:=hd_ ((E4.out.cell (p:=⟨g,i*2+1,none⟩) fy).trans o1);have Av:=hd_ ((E4.out.cell (p:=⟨bf,of+k*2,none⟩) (Nat.lt_of_lt_of_le hbf H6.out.size)).trans y0);have jU:=hd_ ((E4.out.cell (p:=⟨bf,of+k*2+1,none⟩) (Nat.lt_of_lt_of_le hbf H6.out.size)).trans y1);have pL:=hd_ f0;have Bz:=hd_ f1;have dE:=hd_ ge;clear o0 o1 y0 y1 f0 f1 ge HM HA gW H6
     go_wp2_with fail
     generalize wr.alloc (.cells #[.string (itx xq.num),.string (dec xq.den)] 42)=W0 at *
     obtain⟨k0,k1,-,-⟩:=Ka gi.out;have q0:=cell_regrown k0;have q1:=cell_regrown k1;have q2:=cell_regrown j4.out;have q3:=cell_regrown FU.out;have q4:=cell_regrown Av.out;have q5:=cell_regrown jU.out;clear k0 k1 x0 x1;refine Kx 13 (by kernel_rfl) (by kernel_rfl) ?_
     simp only[List.take_succ_cons,List.take_zero,List.drop_succ_cons,List.drop_zero]
     repeat (first | go_big_quiet_step (first | with_reducible exact hM _ _ | with_reducible exact hA _ _) | quiet_step (first | with_reducible exact hM _ _ | with_reducible exact hA _ _))
     refine wpQuiet_nil ?_;intro w8 hw8;obtain⟨⟨dq,osq⟩,rfl⟩:=hw8;have GE:=below_regrown W0 dq osq;have c0:=(GE.cell (p:=⟨g,i*2,none⟩) (block_lt_of_cell j4.out)).trans j4.out;have c1:=(GE.cell (p:=⟨g,i*2+1,none⟩) (block_lt_of_cell FU.out)).trans FU.out;have Cj:=hd_ (dE.out.below GE nr_);have dh:=hd_ (gj.out.trans (GE.mono gj.out.size));clear GE hM hA q0 q1 q2 q3 q4 q5 gj dE j4 FU Av jU gi;generalize Go.Sort.grow (redrawn W0 dq) osq=w8 at *
     have f0:w8.frozen? ⟨g,i*2,none⟩=false:=by
      obtain⟨g',hg',-,-,-,-,h5⟩:=Zc7.open Cj.out (by rw[Zb7 _ _ _ _ (by rw[aM.out];exact(Za n ls fs gZ.out (by rw[Cu.out,Hm.out]) k (by omega)).symm) (by omega)];omega)
      simp only[Option.some.injEq,Addr.mk.injEq,and_true] at hg';rw[hg'];exact h5 _
     have f1:w8.frozen? ⟨g,i*2+1,none⟩=false:=by
      obtain⟨g',hg',-,-,-,-,h5⟩:=Zc7.open Cj.out (by rw[Zb7 _ _ _ _ (by rw[aM.out];exact(Za n ls fs gZ.out (by rw[Cu.out,Hm.out]) k (by omega)).symm) (by omega)];omega)
      simp only[Option.some.injEq,Addr.mk.injEq,and_true] at hg';rw[hg'];exact h5 _
     go_wp2
     go_roundw
     case rel =>
      refine⟨i+1,by omega,by go_num,?_,?_⟩
      ·have:=Zc7.store Cj.out i (by rw[Zb7 _ _ _ _ (by rw[aM.out];exact(Za n ls fs gZ.out (by rw[Cu.out,Hm.out]) k (by omega)).symm) (by omega)];omega) (oq+xq*fq)
       rw[aJ.out] at this;rw[Oa.out];exact this
      ·exact(dh.out.setCell (p:=⟨g,i*2,none⟩) hBg _).setCell (p:=⟨g,i*2+1,none⟩) hBg _
     case measure=>simp[intOf];omega
    ·have JP:¬ (i:Int)<n:=by omega
     have ip:i=n:=by omega
     have dE:Hid (Zc7 wr w.heap.size a c (Zh2 n ls fs (k+1))):=by
      have dY:=Za n ls fs gZ.out (by rw[Cu.out,Hm.out]) k (by omega)
      have bW:k<fs.length:=by rw[Cu.out];exact H9
      have:=gW.out
      have GA:=Zv9 (Zh2 n ls fs k) ls[k] (fs.getD k 0) (by rw[dY];exact aM.out)
      rw[dY] at GA;rw[ip,GA] at this
      show Zc7 _ _ _ _ _
      rw[Zgh n ls fs k gO bW];rw[List.getD_eq_getElem?_getD,List.getElem?_eq_getElem bW] at this;exact this
     clear gW ip;go_wp2
     go_roundw
     case rel=>exact⟨k+1,by omega,by go_num,dE,H6⟩
     case measure=>simp[intOf];omega
  ·have gm:¬ (k:Int)<m:=by omega
   have gW:Hid (Zc7 wr w.heap.size a c (Zhp n ls fs)):=by
    have:=gz.out
    rw[Zoo n ls fs k (by rw[Hm.out];omega)] at this
    exact this
   go_wp2;go_ret;exact⟨a,c,rfl,gW.out,Hb.out⟩
end Go.Proofs.YtnjedhgcfeoemaaGreatDoor

namespace Go.Proofs.YtnjedhgcfeoemaaGreatDoor.RP
open Go Go.Sort Go.Proofs.YtnjedhgcfeoemaaGreatDoor
section
variable {P:Program} {ops:Array Oper} {md:Region.Mode} {C:World→Prop}
def Zbm:Op→Bool
 | .move _ | .assign _ | .load _ _ | .fieldAddr _ _ _ | .indexAddr _ _ _ | .extract _ _ | .binOp _ _ _ _ _ | .convert _ _ _ | .slice _ _ _ _ _ | .unOp _ _ _ | .nilCheck _ | .pick _ _ _ | .build _ _=>true
 | .call c=>match c.callee with
  | .builtin .min | .builtin .max | .builtin .len=>true
  | _=>false
 | _=>false
theorem value_no_enter{s:Sem Value}{w w':World}{f:FuncId}{args:Array Value}(h:(do pure (Next.value (← s)):Sem Next).run P w = .ok (.enter f args) w'):False:=by
 simp only[Sem.run_bind,Sem.run_pure] at h;cases hs:s.run P w with
 | ok v w1=>rw[hs] at h;simp[Result.andThen] at h
 | halt x w1=>rw[hs] at h;simp[Result.andThen] at h
theorem Zjf{s:Sem Bool}{x y:Value}{w w':World}{f:FuncId}{args:Array Value}(h:(do pure (Next.value (if ← s then x else y)):Sem Next).run P w = .ok (.enter f args) w'):False:=by
 simp only[Sem.run_bind,Sem.run_pure] at h;cases hs:s.run P w with
 | ok v w1=>rw[hs] at h;simp[Result.andThen] at h
 | halt x w1=>rw[hs] at h;simp[Result.andThen] at h
theorem Zlb(v:Value){w w':World}{f:FuncId}{args:Array Value} (h:((match v with
  | .pointer none | .nilIface | .nilFunc=>runtimePanic .nilDeref
  | .func (.method name) first captured =>
   match (first[0]?:Option Value) with
   | some .nilIface=>runtimePanic .nilDeref
   | some (.iface t w)=>do
    if (← nilAhead ((← program).types.size+Made.depth) t w name) != some false then
     unsupported (.noEntry "op/nilCheck.the method's receiver behind this interface value is a nil pointer, or cannot be seen to be none, and the arguments act or may panic (ledger 612)")
    pure (.value (.func (.method name) first captured))
   | _=>pure (.value (.func (.method name) first captured))
  | x=>pure (.value x):Sem Next)).run P w = .ok (.enter f args) w'):False:=by
 split at h
 all_goals first
  | (simp[Sem.run_pure] at h;done)
  | (cases h;done)
  | skip
 split at h
 ·cases h
 ·simp only[Sem.run_bind,Result.andThen] at h
  repeat' (split at h)
  all_goals first
   | (cases h;done)
   | (simp[Sem.run_pure,Sem.run_bind,Result.andThen] at h;done)
   | skip
 ·simp[Sem.run_pure] at h
theorem Zv1{o:Oper}{a:Act}{w w':World}{f:FuncId}{args:Array Value}(ho:Zbm o.op=true)(h:(execOp a.eval o).run P w = .ok (.enter f args) w'):False:=by
 have E2:(∃ x,o.op = .move x)∨(∃ x,o.op = .assign x)∨(∃ t x,o.op = .load t x)∨(∃ t x k,o.op = .fieldAddr t x k)∨(∃ t x y,o.op = .indexAddr t x y)∨(∃ x k,o.op = .extract x k)∨(∃ b t x y r,o.op = .binOp b t x y r)∨(∃ s d x,o.op = .convert s d x)∨(∃ s x l h m,o.op = .slice s x l h m)∨(∃ u t x,o.op = .unOp u t x)∨(∃ x,o.op = .nilCheck x)∨(∃ c x y,o.op = .pick c x y)∨(∃ t p,o.op = .build t p)∨(∃ c,o.op = .call c):=by
  cases hop:o.op<;>rw[hop] at ho<;>first | (simp[Zbm] at ho;done) | simp
 rcases E2 with⟨x,hop⟩|⟨x,hop⟩|⟨t,x,hop⟩|⟨t,x,k,hop⟩|⟨t,x,y,hop⟩|⟨x,k,hop⟩|⟨b,t,x,y,r,hop⟩|⟨s,d,x,hop⟩|⟨s,x,lo,hi,mx,hop⟩|⟨u,t,x,hop⟩|⟨x,hop⟩|⟨c,x,y,hop⟩|⟨t,p,hop⟩|⟨c,hop⟩
 ·rw[BigFrame.run_move x hop] at h;cases h
 ·rw[BigFrame.run_assign x hop] at h;cases h
 ·unfold execOp at h;rw[hop] at h;exact value_no_enter h
 ·unfold execOp at h;rw[hop] at h;exact value_no_enter h
 ·unfold execOp at h;rw[hop] at h;exact value_no_enter h
 ·unfold execOp at h;rw[hop] at h;exact value_no_enter h
 ·unfold execOp at h;rw[hop] at h;exact value_no_enter h
 ·unfold execOp at h;rw[hop] at h;exact value_no_enter h
 ·unfold execOp at h;rw[hop] at h;exact value_no_enter h
 ·unfold execOp at h;rw[hop] at h;exact value_no_enter h
 ·unfold execOp at h;rw[hop] at h;exact Zlb (a.eval x) h
 ·unfold execOp at h;rw[hop] at h;exact Zjf h
 ·unfold execOp at h;rw[hop] at h;exact value_no_enter h
 ·rw[hop] at ho;unfold execOp at h;rw[hop] at h;unfold Zbm at ho;simp only at ho h;unfold resolve at h;cases hc:c.callee with
  | value x=>rw[hc] at ho;cases ho
  | invoke x y=>rw[hc] at ho;cases ho
  | builtin b =>
   rw[hc] at ho h;simp only[Sem.run_bind,Sem.run_pure,Result.andThen_ok,invoke] at h;cases b<;>first | (simp at ho;done) | (unfold builtin at h;exact value_no_enter h)
theorem Zhq{o:Oper}{a:Act}{w:World}{v:Value}(ho:Zbm o.op=true)(h:o.quietAt P a C w v){K:Act→World→Prop}(hk:K (a.put o.dst v) w):o.wp P a w K (fun _ _ _=>False):=by
 unfold Oper.quietAt at h;unfold Oper.wp;have gq:=@Zv1 P o a w;generalize (execOp a.eval o).run P w=r at *
 cases r with
 | ok n w' =>
  cases n<;>simp only[Oper.quietUpon] at h<;>simp only[Oper.upon]
  case value u=>obtain⟨rfl,rfl⟩:=h;exact hk
  case skip=>obtain⟨rfl,rfl⟩:=h;exact hk
  case enter f args=>exact(gq ho rfl).elim
 | halt x w'=>simp only[Oper.quietUpon] at h
def Zda (C:World→Prop) (s:Nat) (listed:Array Bool) (w:World):Prop:=listed.getD s false=true∨C w
def Zz2 (P:Program) (md:Region.Mode) (ops:Array Oper) (C:World→Prop) (s:Nat) (Q:Act→World→Prop):Nat→Array Bool→Act→World→Prop
 | 0,listed,a,w=>Region.ready md ops listed=[]∧Q a w
 | f+1,listed,a,w=>Region.ready md ops listed≠[]∧∀ i∈Region.ready md ops listed,
   wpOp P ops (fun _ _ _=>False) i (fun a' w'=>Zda C s (listed.setIfInBounds i true) w'∧Zz2 P md ops C s Q f (listed.setIfInBounds i true) a' w') a w
theorem Zru{o:Oper}{a:Act}{w:World}{K:Act→World→Prop}{Q':Exit→Act→World→Prop}(h:o.wp P a w K (fun _ _ _=>False)):o.wp P a w K Q':=by
 unfold Oper.wp at *
 generalize (execOp a.eval o).run P w=r at *
 cases r with
 | ok n w' =>
  cases n<;>simp only[Oper.upon] at h ⊢ <;>
   first
    | exact h
    | exact cm_ h (fun e w'' he=>by cases e<;>first | exact he | exact he.elim | (obtain⟨_,_,hf⟩:=he;exact hf.elim))
    | exact Rows.mono h (fun _ _ he=>he)
 | halt x w'=>cases x<;>simp only[Oper.upon] at h<;>exact h.elim
theorem Zmi{i:Nat}{a:Act}{w:World}{K K':Act→World→Prop}{Q':Exit→Act→World→Prop}(hk:∀ a w,K a w→K' a w)(h:wpOp P ops (fun _ _ _=>False) i K a w):wpOp P ops Q' i K' a w:=by
 unfold wpOp at *
 split
 ·rename_i ho;simp only[ho] at h;exact hk _ _ h
 ·rename_i o ho
  simp only[ho] at h;split
  ·rename_i hw
   simp only[hw,if_true] at h;rcases h with h|⟨_,_,_,hf⟩
   ·exact .inl (Oper.wp_mono hk (Zru h))
   ·exact hf.elim
  ·rename_i hw;simp only[hw] at h;exact hk _ _ h
theorem wpOp_strong{i:Nat}{a:Act}{w:World}{K:Act→World→Prop}{Q':Exit→Act→World→Prop}(hq:∀ e a w,Q' e a w→e = .normal)(h:wpOp P ops Q' i K a w):wpOp P ops (fun _ _ _=>False) i K a w:=by
 have BR:¬ LetsOut Q':=fun ⟨a,w,h⟩=>by have:=hq _ _ _ h;cases this
 unfold wpOp at *
 split
 ·rename_i ho;simp only[ho] at h;exact h
 ·rename_i o ho
  simp only[ho] at h;split
  ·rename_i hw
   simp only[hw,if_true] at h;rcases h with h|⟨_,h⟩
   ·left;unfold Oper.wp at *
    generalize (execOp a.eval o).run P w=r at *
    cases r with
    | ok n w' =>
     cases n<;>simp only[Oper.upon] at h ⊢ <;>
      first
       | exact h
       | exact cm_ h (fun e w'' he=>by cases e<;>first | exact he | (have:=hq _ _ _ he;cases this) | exact absurd he BR)
       | exact Rows.mono h (fun _ _ he=>he)
    | halt x w'=>cases x<;>simp only[Oper.upon] at h<;>first | exact h.elim | (have:=hq _ _ _ h;cases this)
   ·exact absurd h BR
  ·rename_i hw;simp only[hw] at h;exact h
theorem Zka{s:Nat}{Q:Act→World→Prop}{Q':Exit→Act→World→Prop}(hQ:∀ a w,Q a w→Q' .normal a w):
  ∀ (f:Nat) (listed:Array Bool) (a:Act) (w:World),Zz2 P md ops C s Q f listed a w→wpAny P md ops Q' f listed a w
 | 0,_,_,_,h=>⟨h.1,hQ _ _ h.2⟩
 | f+1,_,_,_,h=>⟨fun h0=>absurd h0 h.1,fun i hi=>Zmi (fun a' w' h'=>Zka hQ f _ a' w' h'.2) (h.2 i hi)⟩
structure RInv (md:Region.Mode) (ops:Array Oper) (listed:Array Bool):Prop where
 size:listed.size=ops.size
 closed:∀ j oj,ops[j]?=some oj→listed.getD j false=true→∀ e∈oj.after,Region.binds md e=true→listed.getD e.on false=true
theorem RInv.set{i:Nat}{listed:Array Bool}(inv:RInv md ops listed)(hi:i∈Region.ready md ops listed):RInv md ops (listed.setIfInBounds i true):=by
 obtain⟨_,oi,hoi,GA⟩:=mem_ready.1 hi;refine⟨by simp[inv.size],fun j oj hj hl e he hb=>?_⟩
 by_cases jD:i=j
 ·subst jD;have:oj=oi:=Option.some.inj (hj.symm.trans hoi)
  subst this;exact getD_set_true (GA e he hb)
 ·rw[getD_set_ne false jD] at hl;exact getD_set_true (inv.closed j oj hj hl e he hb)
def reachB (md:Region.Mode) (ops:Array Oper):Nat→Nat→Nat→Bool
 | 0,_,_=>false
 | f+1,s,i=>match ops[s]? with
  | some o=>o.after.any fun e=>Region.binds md e&&(e.on==i||reachB md ops f e.on i)
  | none=>false
theorem reach_listed{listed:Array Bool}(inv:RInv md ops listed):∀ (f s i:Nat),reachB md ops f s i=true→listed.getD s false=true→listed.getD i false=true
 | 0,_,_,h,_=>by cases h
 | f+1,s,i,h,hs=>by
  unfold reachB at h;split at h
  ·rename_i o ho
   obtain⟨e,he,hb⟩:=Array.any_eq_true'.1 h;simp only[Bool.and_eq_true,Bool.or_eq_true,beq_iff_eq] at hb;have hl:=inv.closed s o ho hs e he hb.1;rcases hb.2 with h2|h2
   ·rw[← h2];exact hl
   ·exact reach_listed inv f e.on i h2 hl
  ·cases h
def Zak (P:Program) (ops:Array Oper) (md:Region.Mode) (C:World→Prop) (s i:Nat) (o:Oper) (v:Value) (a:Act):Prop :=
 (reachB md ops 4 s i=true∧YieldsIn P ops C o v a)∨YieldsIn P ops (fun _=>True) o v a
theorem Zak.of_same{s i:Nat}{o:Oper}{v:Value}{a a':Act}(hy:Zak P ops md C s i o v a)(he:execOp a'.eval o=execOp a.eval o)
  (hw:Region.wanted o (yielded ops a'.tmps)=Region.wanted o (yielded ops a.tmps)):Zak P ops md C s i o v a' :=
 hy.imp (fun ⟨h1,h2⟩=>⟨h1,h2.of_same he hw⟩) (fun h=>h.of_same he hw)
theorem Zos{s i:Nat}{o:Oper}{v:Value}{a:Act}{w:World}{listed:Array Bool}(hi:ops[i]?=some o)(gq:Zbm o.op=true)(inv:RInv md ops listed)(hr:i∈Region.ready md ops listed)(hs:Zda C s listed w)
  (hy:Zak P ops md C s i o v a) {K:Act→World→Prop} (hk:K (a.put o.dst v) w):wpOp P ops (fun _ _ _=>False) i K a w:=by
 have Gm:∀ D:World→Prop,D w→YieldsIn P ops D o v a→wpOp P ops (fun _ _ _=>False) i K a w:=fun D hD h=>by
  unfold wpOp;simp only[hi];rcases h with⟨h1,h2⟩|⟨h1,rfl⟩
  ·simp only[h1,if_true];exact .inl (Zhq gq (h2 w hD) hk)
  ·simp only[h1,Bool.false_eq_true,if_false];exact hk
 rcases hy with⟨hw,h⟩|h
 ·refine Gm C ?_ h;rcases hs with hs|hs
  ·have:=reach_listed inv 4 s i hw hs
   rw[getD_both (mem_ready.1 hr).1] at this;cases this
  ·exact hs
 ·exact Gm _ trivial h
theorem Zvf{j:Nat}{oi oj:Oper}{v:Value}(hj:ops[j]?=some oj)(cD:oi.apart ops oj=true)
  (hsi:∀ cs b,oi.op ≠ .select cs b) (hsj:∀ cs b,oj.op ≠ .select cs b) {s i:Nat} {K:Act→World→Prop} {a:Act} {w:World}
  (hy:Zak P ops md C s i oi v a) (h:wpOp P ops (fun _ _ _=>False) j K (a.put oi.dst v) w) :
  wpOp P ops (fun _ _ _=>False) j (fun a' w'=>Zak P ops md C s i oi v a'∧K (a'.put oi.dst v) w') a w:=by
 obtain⟨h1,h2,h3⟩:=Oper.apart_spec cD;have GF:∀ (a:Act),Zak P ops md C s i oi v a→∀ u,Zak P ops md C s i oi v (a.put oj.dst u):=fun a hy u =>
  hy.of_same (execOp_put oi hsi a oj.dst u h3) (wanted_put oi a oj.dst u h3)
 have DK:∀ d,Zak P ops md C s i oi v ({ a with defers:=d::a.defers }:Act):=fun d=>hy.of_same rfl rfl
 unfold wpOp at *
 simp only[hj] at *
 rw[wanted_put oj a oi.dst v h1] at h;split
 ·rename_i hw
  simp only[hw,if_true] at h;left;rcases h with h|⟨_,_,_,hf⟩
  ·unfold Oper.wp at *
   rw[execOp_put oj hsj a oi.dst v h1] at h;generalize (execOp a.eval oj).run P w=r at *
   cases r with
   | ok n w' =>
    cases n<;>simp only[Oper.upon] at h ⊢
    case value u=>exact⟨GF a hy u,by rw[← Act.put_comm a v u h2];exact h⟩
    case skip=>exact⟨GF a hy undef,by rw[← Act.put_comm a v undef h2];exact h⟩
    case defer d =>
     refine⟨GF _ (DK d) undef,?_⟩;rw[Act.put_defers] at h;rw[← Act.put_comm _ v undef h2];exact h
    case enter f args =>
     exact cm_ h (fun e w'' he=>by
      cases e
      case returned u=>exact⟨GF a hy u,by rw[← Act.put_comm a v u h2];exact he⟩
      case panicked c=>exact he
      case outgrown=>obtain⟨_,_,hf⟩:=he;exact hf.elim)
    case row row args=>exact Rows.mono h (fun u w'' he=>⟨GF a hy u,by rw[← Act.put_comm a v u h2];exact he⟩)
    all_goals exact h
   | halt x w'=>cases x<;>simp only[Oper.upon] at h<;>exact h.elim
  ·exact hf.elim
 ·rename_i hw
  simp only[hw] at h;exact⟨GF a hy _,by rw[← Act.put_comm a v undef h2];exact h⟩
theorem Zit{s i:Nat}{oi:Oper}{v:Value}{Q:Act→World→Prop}(hi:ops[i]?=some oi)(his:i≠s)(gq:Zbm oi.op=true)(hsel:∀ (j:Nat) (o:Oper) cs b,ops[j]?=some o→o.op ≠ .select cs b):
  ∀ (f:Nat) (listed:Array Bool) (a:Act) (w:World),RInv md ops listed →
   (∀ j oj,ops[j]?=some oj→j≠i→listed.getD j true=false→(∀ e∈oj.after,Region.binds md e=true→e.on≠i)→oi.apart ops oj=true) →
   i∈Region.ready md ops listed→Zak P ops md C s i oi v a→Zda C s listed w →
   Zz2 P md ops C s Q f (listed.setIfInBounds i true) (a.put oi.dst v) w→Zz2 P md ops C s Q (f+1) listed a w:=by
 intro f
 induction f with
 | zero =>
  intro listed a w inv _ hr hy hs H;refine⟨fun h=>(by rw[h] at hr;cases hr),fun j hj=>?_⟩
  by_cases G7:j=i
  ·subst G7;exact Zos hi gq inv hr hs hy ⟨hs.imp (fun h=>getD_set_true h) id,H⟩
  ·have:=ready_mono hj G7
   rw[H.1] at this;cases this
 | succ f ih =>
  intro listed a w inv hfree hr hy hs H;have FR:=(mem_ready.1 hr).1;refine⟨fun h=>(by rw[h] at hr;cases hr),fun j hj=>?_⟩
  by_cases G7:j=i
  ·subst G7;exact Zos hi gq inv hr hs hy ⟨hs.imp (fun h=>getD_set_true h) id,H⟩
  ·have h1:=H.2 j (ready_mono hj G7);obtain⟨hjun,oj,hoj,GA⟩:=mem_ready.1 hj;have EW:∀ e∈oj.after,Region.binds md e=true→e.on≠i:=fun e he hb heq=>by
    have h1:=GA e he hb;rw[heq,getD_both FR] at h1;cases h1
   have h2:=Zvf hoj (hfree j oj hoj G7 hjun EW) (fun cs b=>hsel i oi cs b hi) (fun cs b=>hsel j oj cs b hoj) hy h1
   have FG:∀ k ok,ops[k]?=some ok→k≠i→(listed.setIfInBounds j true).getD k true=false →
     (∀ e∈ok.after,Region.binds md e=true→e.on≠i)→oi.apart ops ok=true:=fun k ok hk DX FR Eb=>by
    refine hfree k ok hk DX ?_ Eb
    by_cases Dq:j=k
    ·subst Dq;exact hjun
    ·rw[getD_set_ne true Dq] at FR;exact FR
   have eH:=ready_mono hr (Ne.symm G7);refine wpOp_mono (fun a' w' h3=>?_) h2
   obtain⟨hy',en,H'⟩:=h3;have fg:Zda C s (listed.setIfInBounds j true) w':=by
    rcases en with h|h
    ·rw[Array.setIfInBounds_comm _ _ (Ne.symm G7),getD_set_ne false his] at h;exact .inl h
    ·exact .inr h
   refine⟨fg,ih (listed.setIfInBounds j true) a' w' (inv.set hj) FG eH hy' fg ?_⟩;rw[Array.setIfInBounds_comm _ _ G7];exact H'
def Qau (md:Region.Mode) (ops:Array Oper) (s:Nat):List (Nat×Nat)→Array Bool→Bool
 | [],listed=>(Region.ready md ops listed).isEmpty
 | (k,i)::l,listed =>
  (if k=0 then decide (Region.ready md ops listed=[i])
  else (Region.ready md ops listed).contains i&&Region.free md ops listed i&&(match ops[i]? with | some o=>Zbm o.op | none=>false)&&decide (i≠s)&&(k==2||reachB md ops 4 s i)) &&
  Qau md ops s l (listed.setIfInBounds i true)
def walkR (P:Program) (ops:Array Oper) (C:World→Prop) (s:Nat) (Q:Act→World→Prop):List (Nat×Nat)→Bool→Act→World→Prop
 | [],_,a,w=>Q a w
 | (k,i)::l,b,a,w =>
  if k=0 then wpList P ops (fun e a' w'=>e = .normal∧((b||i==s)=true∨C w')∧walkR P ops C s Q l (b||i==s) a' w') (ops[i]?).toList a w
  else if k=2 then wpQuiet P ops (fun _=>True) (fun a'=>walkR P ops C s Q l b a' w) (ops[i]?).toList a
  else wpQuiet P ops C (fun a'=>walkR P ops C s Q l b a' w) (ops[i]?).toList a
theorem qOp_of_list{i:Nat}{o:Oper}{a:Act}{D:World→Prop}{K:Act→Prop}(hi:ops[i]?=some o)(h:wpQuiet P ops D K (ops[i]?).toList a):qOp P ops D i K a:=by
 rw[hi] at h;unfold qOp;simp only[hi];exact h
theorem Zhj{s:Nat}{Q:Act→World→Prop}(hsel:Region.noSelect ops=true):
  ∀ (l:List (Nat×Nat)) (listed:Array Bool) (a:Act) (w:World),RInv md ops listed→Zda C s listed w→Qau md ops s l listed=true →
   walkR P ops C s Q l (listed.getD s false) a w→Zz2 P md ops C s Q l.length listed a w
 | [],listed,a,w,_,_,hB,h=>⟨by simpa [Qau] using hB,h⟩
 | (k,i)::l,listed,a,w,inv,hs,hB,h=>by
  simp only[Qau,Bool.and_eq_true] at hB;obtain⟨GK,hB2⟩:=hB
  by_cases hk:k=0
  ·subst hk;simp only[if_true,decide_eq_true_eq] at GK;have hr:i∈Region.ready md ops listed:=by rw[GK];exact List.mem_singleton.2 rfl
   have dT:(listed.setIfInBounds i true).getD s false=(listed.getD s false||i==s):=by
    by_cases his:i=s
    ·subst his;obtain⟨FR,o,ho,_⟩:=mem_ready.1 hr;have H9:i<listed.size:=by rw[inv.size];exact(Array.getElem?_eq_some_iff.1 ho).1
     simp[H9]
    ·rw[getD_set_ne false his];simp[his]
   refine⟨by rw[GK];simp,fun j hj=>?_⟩
   rw[GK] at hj;obtain rfl:=List.mem_singleton.1 hj;obtain⟨FR,o,ho,_⟩:=mem_ready.1 hr;simp only[walkR,if_true,ho,Option.toList] at h;have h2:wpOp P ops (fun e a' w'=>e = .normal∧((listed.getD s false||j==s)=true∨C w')∧walkR P ops C s Q l (listed.getD s false||j==s) a' w') j (fun a' w'=>((listed.getD s false||j==s)=true∨C w')∧walkR P ops C s Q l (listed.getD s false||j==s) a' w') a w:=by
    unfold wpOp;simp only[ho];simp only[wpList,true_and] at h;exact h
   have h3:=wpOp_strong (fun e a' w' hq=>hq.1) h2
   refine wpOp_mono (fun a' w' h4=>?_) h3
   have fg:Zda C s (listed.setIfInBounds j true) w':=by unfold Zda;rw[dT];exact h4.1
   exact⟨fg,Zhj hsel l _ a' w' (inv.set hr) fg hB2 (by rw[dT];exact h4.2)⟩
  ·rw[if_neg hk] at GK;simp only[Bool.and_eq_true,decide_eq_true_eq,Bool.or_eq_true,beq_iff_eq] at GK;obtain⟨⟨⟨⟨hr,hf⟩,gq⟩,his⟩,hw⟩:=GK;have eH:i∈Region.ready md ops listed:=by simpa using hr
   obtain⟨_,o,ho,_⟩:=mem_ready.1 eH;have DV:Zbm o.op=true:=by rw[ho] at gq;exact gq
   have dT:(listed.setIfInBounds i true).getD s false=listed.getD s false:=getD_set_ne false his;have fg:Zda C s (listed.setIfInBounds i true) w:=by unfold Zda;rw[dT];exact hs
   simp only[walkR,if_neg hk] at h;have Em:∃ v,Zak P ops md C s i o v a∧walkR P ops C s Q l (listed.getD s false) (a.put o.dst v) w:=by
    by_cases h2:k=2
    ·rw[if_pos h2] at h;obtain⟨v,hy,hK⟩:=yieldsIn_of_qOp ho (qOp_of_list ho h);exact⟨v,.inr hy,hK⟩
    ·rw[if_neg h2] at h;obtain⟨v,hy,hK⟩:=yieldsIn_of_qOp ho (qOp_of_list ho h);exact⟨v,.inl ⟨hw.resolve_left h2,hy⟩,hK⟩
   obtain⟨v,hy,hK⟩:=Em;exact Zit ho his DV (Region.noSelect_spec hsel) l.length listed a w inv (Region.free_spec ho hf) eH hy hs
    (Zhj hsel l _ _ w (inv.set eH) fg hB2 (by rw[dT];exact hK))
theorem pick_one:∀ (l:List Oper) (i:Nat),(l.toArray[i]?).toList=(l.drop i).take 1
 | [],i=>by simp
 | o::l,0=>by simp
 | o::l,i+1=>by
  have:=pick_one l i
  simpa using this
theorem walkR_read{s i:Nat}{Q:Act→World→Prop}{l:List (Nat×Nat)}{b:Bool}{a:Act}{w:World}{lo:List Oper}(h:wpQuiet P lo.toArray C (fun a'=>walkR P lo.toArray C s Q l b a' w) ((lo.drop i).take 1) a):walkR P lo.toArray C s Q ((1,i)::l) b a w:=by
 simp only[walkR,pick_one];exact h
theorem walkR_any{s i:Nat}{Q:Act→World→Prop}{l:List (Nat×Nat)}{b:Bool}{a:Act}{w:World}{lo:List Oper}(h:wpQuiet P lo.toArray (fun _=>True) (fun a'=>walkR P lo.toArray C s Q l b a' w) ((lo.drop i).take 1) a):walkR P lo.toArray C s Q ((2,i)::l) b a w:=by
 simp only[walkR,pick_one];exact h
theorem walkR_move{s i:Nat}{Q:Act→World→Prop}{l:List (Nat×Nat)}{b:Bool}{a:Act}{w:World}{lo:List Oper}
  (h:wpList P lo.toArray (fun e a' w'=>e = .normal∧((b||i==s)=true∨C w')∧walkR P lo.toArray C s Q l (b||i==s) a' w') ((lo.drop i).take 1) a w):walkR P lo.toArray C s Q ((0,i)::l) b a w:=by
 simp only[walkR,pick_one];exact h
theorem wp_region_readers{id:Nat}{Q:Exit→Act→World→Prop}{a:Act}{w:World}{l:List Oper}(s:Nat)(ord:List (Nat×Nat))(C:World→Prop)(hm:P.follows .mixedOrders=true)
  (hB:(Region.noSelect l.toArray&&decide (ord.length=l.length)&&Qau .any l.toArray s ord (Array.replicate l.length false))=true)
  (hC:C { w with drawn:=w.drawn+1 }) (h:walkR P l.toArray C s (fun a' w'=>Q .normal a' w') ord false a { w with drawn:=w.drawn+1 }):(Code.region id l.toArray true).wp P Q a w:=by
 simp only[Bool.and_eq_true,decide_eq_true_eq] at hB;obtain⟨⟨hsel,gh⟩,hord⟩:=hB;refine wp_region_any hm ?_;have DL:RInv .any l.toArray (Array.replicate l.length false):=⟨by simp,fun j oj _ hl=>(by rw[getD_replicate_false] at hl;cases hl)⟩
 have H:=Zhj (md := .any) hsel ord _ a _ DL (.inr hC) hord (by rw[getD_replicate_false];exact h)
 have:=Zka (Q':=Q) (fun a w h=>h) _ _ _ _ H
 rw[gh] at this
 simpa using this
end
section
variable {P:Program} {ops:Array Oper} {md:Region.Mode} {C:World→Prop}
inductive Zck where
 | nil:Zck
 | rd:Nat→Nat→Zck→Zck
 | mv:Nat→Zck→Zck
 | two:Nat→Nat→Zck→Zck→Zck
def Zck.len:Zck→Nat
 | .nil=>0
 | .rd _ _ t=>t.len+1
 | .mv _ t=>t.len+1
 | .two _ _ t _=>t.len+1
def Zu8 (md:Region.Mode) (ops:Array Oper) (s:Nat):Zck→Array Bool→Bool
 | .nil,listed=>(Region.ready md ops listed).isEmpty
 | .rd k i t,listed =>
  ((Region.ready md ops listed).contains i&&Region.free md ops listed i&&(match ops[i]? with | some o=>Zbm o.op | none=>false)&&decide (i≠s)&&(k==2||reachB md ops 4 s i)) &&
  Zu8 md ops s t (listed.setIfInBounds i true)
 | .mv i t,listed=>decide (Region.ready md ops listed=[i])&&Zu8 md ops s t (listed.setIfInBounds i true)
 | .two i j t u,listed=>(decide (Region.ready md ops listed=[i,j])&&decide (t.len=u.len))&&(Zu8 md ops s t (listed.setIfInBounds i true)&&Zu8 md ops s u (listed.setIfInBounds j true))
def walkT (P:Program) (ops:Array Oper) (C:World→Prop) (s:Nat) (Q:Act→World→Prop):Zck→Bool→Act→World→Prop
 | .nil,_,a,w=>Q a w
 | .rd k i t,b,a,w=>if k=2 then wpQuiet P ops (fun _=>True) (fun a'=>walkT P ops C s Q t b a' w) (ops[i]?).toList a else wpQuiet P ops C (fun a'=>walkT P ops C s Q t b a' w) (ops[i]?).toList a
 | .mv i t,b,a,w=>wpList P ops (fun e a' w'=>e = .normal∧((b||i==s)=true∨C w')∧walkT P ops C s Q t (b||i==s) a' w') (ops[i]?).toList a w
 | .two i j t u,b,a,w =>
  wpList P ops (fun e a' w'=>e = .normal∧((b||i==s)=true∨C w')∧walkT P ops C s Q t (b||i==s) a' w') (ops[i]?).toList a w ∧
  wpList P ops (fun e a' w'=>e = .normal∧((b||j==s)=true∨C w')∧walkT P ops C s Q u (b||j==s) a' w') (ops[j]?).toList a w
theorem Zfv{s i:Nat}{listed:Array Bool}(inv:RInv md ops listed)(hr:i∈Region.ready md ops listed):(listed.setIfInBounds i true).getD s false=(listed.getD s false||i==s):=by
 by_cases his:i=s
 ·subst his;obtain⟨FR,o,ho,_⟩:=mem_ready.1 hr;have H9:i<listed.size:=by rw[inv.size];exact(Array.getElem?_eq_some_iff.1 ho).1
  simp[H9]
 ·rw[getD_set_ne false his];simp[his]
theorem Zmq{s j:Nat}{K:Act→World→Prop}{listed:Array Bool}{a:Act}{w:World}(inv:RInv md ops listed)(hr:j∈Region.ready md ops listed)
  (h:wpList P ops (fun e a' w'=>e = .normal∧((listed.getD s false||j==s)=true∨C w')∧K a' w') (ops[j]?).toList a w) :
  wpOp P ops (fun _ _ _=>False) j (fun a' w'=>Zda C s (listed.setIfInBounds j true) w'∧K a' w') a w:=by
 obtain⟨FR,o,ho,_⟩:=mem_ready.1 hr;simp only[ho,Option.toList] at h;have h2:wpOp P ops (fun e a' w'=>e = .normal∧((listed.getD s false||j==s)=true∨C w')∧K a' w') j (fun a' w'=>((listed.getD s false||j==s)=true∨C w')∧K a' w') a w:=by
  unfold wpOp;simp only[ho];simp only[wpList,true_and] at h;exact h
 have h3:=wpOp_strong (fun e a' w' hq=>hq.1) h2
 refine wpOp_mono (fun a' w' h4=>⟨?_,h4.2⟩) h3
 unfold Zda;rw[Zfv inv hr];exact h4.1
theorem Zcw{s:Nat}{Q:Act→World→Prop}(hsel:Region.noSelect ops=true):
  ∀ (l:Zck) (listed:Array Bool) (a:Act) (w:World),RInv md ops listed→Zda C s listed w→Zu8 md ops s l listed=true →
   walkT P ops C s Q l (listed.getD s false) a w→Zz2 P md ops C s Q l.len listed a w
 | .nil,listed,a,w,_,_,hB,h=>⟨by simpa [Zu8] using hB,h⟩
 | .mv i t,listed,a,w,inv,hs,hB,h=>by
  simp only[Zu8,Bool.and_eq_true,decide_eq_true_eq] at hB;obtain⟨GK,hB2⟩:=hB;have hr:i∈Region.ready md ops listed:=by rw[GK];exact List.mem_singleton.2 rfl
  refine⟨by rw[GK];simp,fun j hj=>?_⟩
  rw[GK] at hj;obtain rfl:=List.mem_singleton.1 hj;refine wpOp_mono (fun a' w' h4=>⟨h4.1,Zcw hsel t _ a' w' (inv.set hr) h4.1 hB2 ?_⟩) (Zmq inv hr h)
  rw[Zfv inv hr];exact h4.2
 | .two i k t u,listed,a,w,inv,hs,hB,h=>by
  simp only[Zu8,Bool.and_eq_true,decide_eq_true_eq] at hB;obtain⟨⟨GK,gh⟩,hB2,Ma⟩:=hB;have hr:i∈Region.ready md ops listed:=by rw[GK];simp
  have En:k∈Region.ready md ops listed:=by rw[GK];simp
  refine⟨by rw[GK];simp,fun j hj=>?_⟩
  rw[GK] at hj;simp only[List.mem_cons,List.not_mem_nil,or_false] at hj
  by_cases G7:j=i
  ·subst G7;refine wpOp_mono (fun a' w' h4=>⟨h4.1,Zcw hsel t _ a' w' (inv.set hr) h4.1 hB2 ?_⟩) (Zmq inv hr h.1)
   rw[Zfv inv hr];exact h4.2
  ·have Dq:j=k:=hj.resolve_left G7;subst Dq;have:=wpOp_mono (fun a' w' (h4:Zda C s (listed.setIfInBounds j true) w'∧walkT P ops C s Q u (listed.getD s false||j==s) a' w')=>(⟨h4.1,Zcw hsel u _ a' w' (inv.set En) h4.1 Ma (by rw[Zfv inv En];exact h4.2)⟩:Zda C s (listed.setIfInBounds j true) w'∧Zz2 P md ops C s Q u.len (listed.setIfInBounds j true) a' w')) (Zmq inv En h.2)
   rw[← gh] at this;exact this
 | .rd k i t,listed,a,w,inv,hs,hB,h=>by
  simp only[Zu8,Bool.and_eq_true] at hB;obtain⟨GK,hB2⟩:=hB;simp only[decide_eq_true_eq,Bool.or_eq_true,beq_iff_eq] at GK;obtain⟨⟨⟨⟨hr,hf⟩,gq⟩,his⟩,hw⟩:=GK;have eH:i∈Region.ready md ops listed:=by simpa using hr
  obtain⟨_,o,ho,_⟩:=mem_ready.1 eH;have DV:Zbm o.op=true:=by rw[ho] at gq;exact gq
  have dT:(listed.setIfInBounds i true).getD s false=listed.getD s false:=getD_set_ne false his;have fg:Zda C s (listed.setIfInBounds i true) w:=by unfold Zda;rw[dT];exact hs
  simp only[walkT] at h;have Em:∃ v,Zak P ops md C s i o v a∧walkT P ops C s Q t (listed.getD s false) (a.put o.dst v) w:=by
   by_cases h2:k=2
   ·rw[if_pos h2] at h;obtain⟨v,hy,hK⟩:=yieldsIn_of_qOp ho (qOp_of_list ho h);exact⟨v,.inr hy,hK⟩
   ·rw[if_neg h2] at h;obtain⟨v,hy,hK⟩:=yieldsIn_of_qOp ho (qOp_of_list ho h);exact⟨v,.inl ⟨hw.resolve_left h2,hy⟩,hK⟩
  obtain⟨v,hy,hK⟩:=Em;exact Zit ho his DV (Region.noSelect_spec hsel) t.len listed a w inv (Region.free_spec ho hf) eH hy hs
   (Zcw hsel t _ _ w (inv.set eH) fg hB2 (by rw[dT];exact hK))
theorem walkT_read{s i:Nat}{Q:Act→World→Prop}{l:Zck}{b:Bool}{a:Act}{w:World}{lo:List Oper}(h:wpQuiet P lo.toArray C (fun a'=>walkT P lo.toArray C s Q l b a' w) ((lo.drop i).take 1) a):walkT P lo.toArray C s Q (.rd 1 i l) b a w:=by
 simp only[walkT,pick_one];exact h
theorem walkT_any{s i:Nat}{Q:Act→World→Prop}{l:Zck}{b:Bool}{a:Act}{w:World}{lo:List Oper}(h:wpQuiet P lo.toArray (fun _=>True) (fun a'=>walkT P lo.toArray C s Q l b a' w) ((lo.drop i).take 1) a):walkT P lo.toArray C s Q (.rd 2 i l) b a w:=by
 simp only[walkT,pick_one];exact h
theorem walkT_move{s i:Nat}{Q:Act→World→Prop}{l:Zck}{b:Bool}{a:Act}{w:World}{lo:List Oper}
  (h:wpList P lo.toArray (fun e a' w'=>e = .normal∧((b||i==s)=true∨C w')∧walkT P lo.toArray C s Q l (b||i==s) a' w') ((lo.drop i).take 1) a w):walkT P lo.toArray C s Q (.mv i l) b a w:=by
 simp only[walkT,pick_one];exact h
theorem walkT_two{s i j:Nat}{Q:Act→World→Prop}{l m:Zck}{b:Bool}{a:Act}{w:World}{lo:List Oper}
  (h1:wpList P lo.toArray (fun e a' w'=>e = .normal∧((b||i==s)=true∨C w')∧walkT P lo.toArray C s Q l (b||i==s) a' w') ((lo.drop i).take 1) a w)
  (h2:wpList P lo.toArray (fun e a' w'=>e = .normal∧((b||j==s)=true∨C w')∧walkT P lo.toArray C s Q m (b||j==s) a' w') ((lo.drop j).take 1) a w):walkT P lo.toArray C s Q (.two i j l m) b a w:=by
 simp only[walkT,pick_one];exact⟨h1,h2⟩
theorem wp_region_tree{id:Nat}{Q:Exit→Act→World→Prop}{a:Act}{w:World}{l:List Oper}(s:Nat)(ord:Zck)(C:World→Prop)(hm:P.follows .mixedOrders=true)
  (hB:(Region.noSelect l.toArray&&decide (ord.len=l.length)&&Zu8 .any l.toArray s ord (Array.replicate l.length false))=true)
  (hC:C { w with drawn:=w.drawn+1 }) (h:walkT P l.toArray C s (fun a' w'=>Q .normal a' w') ord false a { w with drawn:=w.drawn+1 }):(Code.region id l.toArray true).wp P Q a w:=by
 simp only[Bool.and_eq_true,decide_eq_true_eq] at hB;obtain⟨⟨hsel,gh⟩,hord⟩:=hB;refine wp_region_any hm ?_;have DL:RInv .any l.toArray (Array.replicate l.length false):=⟨by simp,fun j oj _ hl=>(by rw[getD_replicate_false] at hl;cases hl)⟩
 have H:=Zcw (md := .any) hsel ord _ a _ DL (.inr hC) hord (by rw[getD_replicate_false];exact h)
 have:=Zka (Q':=Q) (fun a w h=>h) _ _ _ _ H
 rw[gh] at this
 simpa using this
end
end Go.Proofs.YtnjedhgcfeoemaaGreatDoor.RP

namespace Go.Proofs.YtnjedhgcfeoemaaGreatDoor
open Go.RowKit
def Qc (l:List Rat):Nat:=l.foldl (fun d q=>Nat.lcm d q.den) 1
def Qs (D:Nat) (ps:List Int) (l:List Rat):List (Int×Int) :=
 (ps.zip l).filterMap fun x=>if x.2.num=0 then none else some (x.1,x.2.num*((D/x.2.den:Nat):Int))
theorem Zge(l:List Rat)(k:Nat)(h:k<l.length):Qc (l.take (k+1))=Nat.lcm (Qc (l.take k)) l[k].den:=by
 unfold Qc;rw[List.take_add_one,List.getElem?_eq_getElem h,List.foldl_append];rfl
theorem Zi0(l:List Rat):∀ k,k≤l.length→0<Qc (l.take k)
 | 0,_=>Nat.one_pos
 | k+1,h=>by
  rw[Zge l k (by omega)]
  exact Nat.lcm_pos (Zi0 l k (by omega)) l[k].den_pos
theorem Zi1(l:List Rat)(D:Nat)(hs:∀ q∈l,Sm D q):∀ k,k≤l.length→Qc (l.take k)<10^(1+k*D)
 | 0,_=>by show 1<10^(1+0*D);rw[Nat.zero_mul];decide
 | k+1,h=>by
  rw[Zge l k (by omega)]
  have h1:=Zi1 l D hs k (by omega)
  have h2:=(hs _ (List.getElem_mem (show k<l.length by omega))).2
  have h3:=Qe h1 h2;have h4:Nat.lcm (Qc (l.take k)) l[k].den≤Qc (l.take k)*l[k].den:=Nat.le_of_dvd (Nat.mul_pos (Zi0 l k (by omega)) l[k].den_pos) (Nat.lcm_dvd_mul _ _)
  rw[show 1+(k+1)*D=1+k*D+D by rw[Nat.add_mul];omega]
  omega
theorem Zp3(D:Nat)(ps:List Int)(l:List Rat)(k:Nat)(h1:k<ps.length)(h2:k<l.length):
  Qs D (ps.take (k+1)) (l.take (k+1))=Qs D (ps.take k) (l.take k)++(if l[k].num=0 then [] else [(ps[k],l[k].num*((D/l[k].den:Nat):Int))]):=by
 unfold Qs;have e:∀ n,(ps.take n).zip (l.take n)=(ps.zip l).take n:=fun n=>(List.take_zipWith ..).symm
 rw[e,e,List.take_add_one,List.getElem?_eq_getElem (by rw[List.length_zip];omega),List.filterMap_append]
 congr 1;rw[List.getElem_zip]
 by_cases h:l[k].num=0
 ·rw[if_pos h]
  show List.filterMap _ [(ps[k],l[k])]=[]
  rw[List.filterMap_cons];rw[if_pos h];rfl
 ·rw[if_neg h]
  show List.filterMap _ [(ps[k],l[k])]=_
  rw[List.filterMap_cons];rw[if_neg h];rfl
theorem Zfd(D:Nat)(ps:List Int)(l:List Rat):(Qs D ps l).length≤l.length:=by
 unfold Qs;refine Nat.le_trans (List.length_filterMap_le _ _) ?_;rw[List.length_zip];omega
def Zdq (l:List ByteArray):List Value:=l.map Value.string
theorem Zb(l:List ByteArray):(Zdq l).length=l.length:=by simp[Zdq]
theorem Zmp(l m:List ByteArray):Zdq (l++m)=Zdq l++Zdq m:=by simp[Zdq]
def Zr6 (v1 v2:Value) (d:Nat):Value := .agg #[v1,v2,.string (dec d)]
def Zom (v1 v2:Value) (s:ByteArray):Obj := .cells #[v1,v2,.string s] 163
theorem Qbi:(Tryz.prog.info? 3).map (fun i=>(i.zero,i.size,i.bytes))=some (some (.int .i64 0),1,8):=by kernel_rfl
theorem Qbg:(Tryz.prog.info? 25).map (fun i=>(i.zero,i.size,i.bytes))=some (some (.string ⟨#[]⟩),1,16):=by kernel_rfl
theorem Kp{w:World}{g:Nat}{a b c:Value}{t:TypeId}(h:w.heap[g]?=some (.cells #[a,b,c] t (0,0))):
  w.cell? ⟨g,0,none⟩=some a∧w.cell? ⟨g,1,none⟩=some b∧w.cell? ⟨g,2,none⟩=some c∧(∀ j,w.frozen? ⟨g,j,none⟩=false):=by
 refine⟨by rw[cell_of_row w g 0 _ t (0,0) h];rfl,by rw[cell_of_row w g 1 _ t (0,0) h];rfl,by rw[cell_of_row w g 2 _ t (0,0) h];rfl,fun j=>?_⟩
 simp[World.frozen?,h]
theorem Zs3{w:World}{base n c:Nat}{e:TypeId}{a:Option Addr}{xs:List Value}(h:w.ownsRow base e 1 (.slice a n c) n xs):Rd w a xs:=by
 have gh:=h.1
 by_cases hn:0<n
 ·obtain⟨g,cap,hv,h1,h2,h3,h4,h5⟩:=Vy h hn;simp only[Value.slice.injEq] at hv;obtain⟨rfl,-,rfl⟩:=hv;refine .inr ⟨g,0,rfl,h2,fun i v hi=>?_⟩
  rw[Nat.zero_add,h4 i (by have:=(List.getElem?_eq_some_iff.1 hi).1;omega)]
  exact hi
 ·exact .inl (List.eq_nil_of_length_eq_zero (by omega))
def Zxr (w:World) (tl:List (Int×Int)) (D:Nat) (e:Ending) (w':World):Prop :=
 ∃ b1 d1 b2 d2,e = .returned (Zr6 (.slice b1 tl.length d1) (.slice b2 tl.length d2) D)∧Rd w' b1 (Qt (tl.map Prod.fst))∧Rd w' b2 (Zdq (tl.map fun x=>itx x.2))∧Below w.heap.size w w'
theorem Zcr{w:World}{g:Nat}{cs:Array Value}{t:TypeId}(h:w.heap[g]?=some (.cells cs t (0,0)))(j:Nat)(x:Value):
  (w.setCell ⟨g,j,none⟩ x).heap[g]?=some (.cells (cs.setIfInBounds j x) t (0,0)):=by
 simp[World.setCell,Array.getElem?_modify,h]
theorem Zq{w:World}{g k:Nat}(h:g≠k)(j:Nat)(x:Value):(w.setCell ⟨g,j,none⟩ x).heap[k]?=w.heap[k]?:=by
 simp[World.setCell,Array.getElem?_modify,h]
structure TW (b5 g9:Nat) (v1 v2 v3 x0 x1:Value) (p:Addr) (vp:Value) where
 w:World
 h5:w.heap[b5]?=some (.cells #[v1,v2,v3] 163 (0,0))
 h9:w.heap[g9]?=some (.cells #[x0,x1] 42 (0,0))
 hp:w.cell? p=some vp
section
variable {b5 g9:Nat} {v1 v2 v3 x0 x1:Value} {p:Addr} {vp:Value}
theorem TW.q0(t:TW b5 g9 v1 v2 v3 x0 x1 p vp):t.w.cell? ⟨b5,0,none⟩=some v1:=(Kp t.h5).1
theorem TW.q1(t:TW b5 g9 v1 v2 v3 x0 x1 p vp):t.w.cell? ⟨b5,1,none⟩=some v2:=(Kp t.h5).2.1
theorem TW.q2(t:TW b5 g9 v1 v2 v3 x0 x1 p vp):t.w.cell? ⟨g9,0,none⟩=some x0:=(Ka t.h9).1
end
structure TT (w:World) (s1 s2:Value) (D:Nat) (V1:Value) (n1:Nat) (L1:List Value) (V2:Value) (n2:Nat) (L2:List Value) (wr:World):Prop where
 h4:wr.heap[w.heap.size]?=some (Zom (.slice none 0 0) (.slice none 0 0) ⟨#[]⟩)
 h5:wr.heap[w.heap.size+1]?=some (Zom s1 s2 (dec D))
 o1:wr.ownsRow (w.heap.size+2) 3 1 V1 n1 L1
 o2:wr.ownsRow (w.heap.size+2) 25 1 V2 n2 L2
 ap:∀ k,V1.ownBlock=some k→V2.ownBlock≠some k
 bel:Below w.heap.size w wr
 siz:w.heap.size+2≤wr.heap.size
section
variable {w:World} {s1 s2:Value} {D:Nat} {V1:Value} {n1:Nat} {L1:List Value} {V2:Value} {n2:Nat} {L2:List Value} {wr:World}
theorem TT.next{w':World}(h:TT w s1 s2 D V1 n1 L1 V2 n2 L2 wr)(hb:Below wr.heap.size wr w'):TT w s1 s2 D V1 n1 L1 V2 n2 L2 w' :=
 ⟨(hb.block _ (Array.getElem?_eq_some_iff.1 h.h4).1).trans h.h4,(hb.block _ (Array.getElem?_eq_some_iff.1 h.h5).1).trans h.h5,Vw h.o1 hb nr_,Vw h.o2 hb nr_,h.ap,h.bel.trans (hb.mono h.bel.size),Nat.le_trans h.siz hb.size⟩
theorem TT.grow1{w':World}(h:TT w s1 s2 D V1 n1 L1 V2 n2 L2 wr){V':Value}{n':Nat}{L':List Value}(own:w'.ownsRow (w.heap.size+2) 3 1 V' n' L')(hg:wr.grownBy w' V1.ownBlock)
  (EZ:V'.ownBlock=V1.ownBlock∨V'.ownBlock=some wr.heap.size):TT w s1 s2 D V' n' L' V2 n2 L2 w':=by
 have gJ:∀ k,k<w.heap.size+2→w'.heap[k]?=wr.heap[k]?:=fun k hk=>hg.block k (by have:=h.siz;omega) (fun e=>by have:=(World.ownsRow.lt h.o1 k e.symm).1;omega)
 refine⟨(gJ _ (by omega)).trans h.h4,(gJ _ (by omega)).trans h.h5,own,?_,?_,?_,Nat.le_trans h.siz hg.size⟩
 ·refine World.ownsRow.kept h.o2 hg ?_;cases hv:V1.ownBlock with
  | none=>cases hv2:V2.ownBlock<;>simp
  | some k=>exact .inr (h.ap k hv)
 ·intro k hk;rcases EZ with e|e
  ·exact h.ap k (by rw[← e];exact hk)
  ·intro h2;have h3:=(World.ownsRow.lt h.o2 k h2).2;rw[e] at hk;injection hk with hk
   omega
 ·exact h.bel.grown hg (by have:=h.siz;omega) (fun k hk=>by have:=(World.ownsRow.lt h.o1 k hk).1;omega)
theorem TT.grow2{w':World}(h:TT w s1 s2 D V1 n1 L1 V2 n2 L2 wr){V':Value}{n':Nat}{L':List Value}(own:w'.ownsRow (w.heap.size+2) 25 1 V' n' L')(hg:wr.grownBy w' V2.ownBlock)
  (EZ:V'.ownBlock=V2.ownBlock∨V'.ownBlock=some wr.heap.size):TT w s1 s2 D V1 n1 L1 V' n' L' w':=by
 have gJ:∀ k,k<w.heap.size+2→w'.heap[k]?=wr.heap[k]?:=fun k hk=>hg.block k (by have:=h.siz;omega) (fun e=>by have:=(World.ownsRow.lt h.o2 k e.symm).1;omega)
 refine⟨(gJ _ (by omega)).trans h.h4,(gJ _ (by omega)).trans h.h5,?_,own,?_,?_,Nat.le_trans h.siz hg.size⟩
 ·refine World.ownsRow.kept h.o1 hg ?_;cases hv:V2.ownBlock with
  | none=>cases hv2:V1.ownBlock<;>simp
  | some k=>exact .inr (fun h1=>h.ap k h1 hv)
 ·intro k hk;rcases EZ with e|e
  ·rw[e];exact h.ap k hk
  ·rw[e];intro h2;have h3:=(World.ownsRow.lt h.o1 k hk).2;injection h2 with h2
   omega
 ·exact h.bel.grown hg (by have:=h.siz;omega) (fun k hk=>by have:=(World.ownsRow.lt h.o2 k hk).1;omega)
theorem TT.store1(h:TT w s1 s2 D V1 n1 L1 V2 n2 L2 wr)(x:Value):TT w x s2 D V1 n1 L1 V2 n2 L2 (wr.setCell ⟨w.heap.size+1,0,none⟩ x):=by
 refine⟨(Zq (by omega) _ _).trans h.h4,(Zcr h.h5 0 x).trans rfl,?_,?_,h.ap,h.bel.setCell (p:=⟨w.heap.size+1,0,none⟩) (by simp) _,by simpa using h.siz⟩
 ·exact ownsRow_setCell_below h.o1 (by show w.heap.size+1<w.heap.size+2;omega) _
 ·exact ownsRow_setCell_below h.o2 (by show w.heap.size+1<w.heap.size+2;omega) _
theorem TT.store2(h:TT w s1 s2 D V1 n1 L1 V2 n2 L2 wr)(x:Value):TT w s1 x D V1 n1 L1 V2 n2 L2 (wr.setCell ⟨w.heap.size+1,1,none⟩ x):=by
 refine⟨(Zq (by omega) _ _).trans h.h4,(Zcr h.h5 1 x).trans rfl,?_,?_,h.ap,h.bel.setCell (p:=⟨w.heap.size+1,1,none⟩) (by simp) _,by simpa using h.siz⟩
 ·exact ownsRow_setCell_below h.o1 (by show w.heap.size+1<w.heap.size+2;omega) _
 ·exact ownsRow_setCell_below h.o2 (by show w.heap.size+1<w.heap.size+2;omega) _
end
abbrev TS (w:World) (tl:List (Int×Int)) (D:Nat) (b1:Option Addr) (d1:Nat) (b2:Option Addr) (d2:Nat) (wr:World):Prop :=
 TT w (.slice b1 tl.length d1) (.slice b2 tl.length d2) D (.slice b1 tl.length d1) tl.length (Qt (tl.map Prod.fst)) (.slice b2 tl.length d2) tl.length (Zdq (tl.map fun x=>itx x.2)) wr
theorem Zmo(w:World)(a1 a2:Option Addr)(c1 c2:Nat)(ps:List Int)(l:List Rat)(D:Nat)(hp:Rd w a1 (Qt ps))(hr:Rd w a2 (Kt l))(EM:ps.length=l.length)
  (hs:∀ q∈l,Sm D q) (hl:l.length≤1000) (hD:3+(l.length+2)*D≤900000) (L:Qd w) :
  Calls Tryz.prog 100 #[.slice a1 ps.length c1,.slice a2 l.length c2] w (Zxr w (Qs (Qc l) ps l) (Qc l)):=by
 have HL:=hd_ L;have Hs:=hd_ hs;have Hr:=hd_ hr;have Hp:=hd_ hp;have HD:=hd_ hD;have ME:=hd_ EM;rw[EM];clear hs hr hp L hD EM;generalize hn:l.length=n at *
 have Hn:=hd_ hn;clear hn;go_enter Tryz.func100,Tryz.ntmps100
 go_wp2_with fail
 go_loopw [16] (fun i wr=>∃ k:Nat,k≤n∧i = .int .i64 k∧Hid (wr.heap[w.heap.size]?=some (Zom (.slice none 0 0) (.slice none 0 0) ⟨#[]⟩))∧Hid (wr.heap[w.heap.size+1]?=some (Zom (.slice none 0 0) (.slice none 0 0) (dec (Qc (l.take k)))))∧Hid (Below w.heap.size w wr)) (fun i _=>n-(intOf i).toNat)
 case atStart =>
  refine⟨0,Nat.zero_le _,rfl,?_,?_,?_⟩
  ·show _=_
   rw[Go.heap_alloc_old _ _ (by simp)]
   exact Go.heap_alloc_new _ _
  ·show _=_
   have:=Go.heap_alloc_new (w.alloc (Obj.cells #[Value.slice none 0 0,Value.slice none 0 0,Value.string { data := #[] }] 163)) (Obj.cells #[Value.slice none 0 0,Value.slice none 0 0,Value.string { data := #[49] }] 163)
   rw[World.size_alloc] at this;rw[this,show Qc (l.take 0)=1 from rfl,Vg];rfl
  ·exact((Below.refl w.heap.size w).alloc nr_ _).alloc (by simp) _
 case round =>
  obtain⟨k,hk,rfl,H4,H5,Hb⟩:=hrel
  by_cases H9:k<n
  ·have gm:(k:Int)<n:=by omega
   have gO:k<l.length:=by rw[Hn.out];exact H9
   obtain⟨b,off,rfl,hb,hcells⟩:=Hr.out.open (by rw[Kz];omega)
   obtain⟨c0,c1⟩:=Qm hcells k (by rw[List.length_map];exact gO)
   rw[← Hb.out.cell (p:=⟨b,off+k*2,none⟩) hb,Qw _ k gO] at c0;rw[← Hb.out.cell (p:=⟨b,off+k*2+1,none⟩) hb,Qw _ k gO] at c1;have eA:Hid (Qc (l.take (k+1))=Nat.lcm (Qc (l.take k)) l[k].den):=Zge l k gO;have Gz:=Hs.out _ (List.getElem_mem gO);have CQ:=Zi1 l D Hs.out k (by omega)
   have JT:k*D≤(n+2)*D:=Nat.mul_le_mul_right _ (by omega)
   have iR:=HD.out;have ez:=Gz.pos;have iS:1*D≤(n+2)*D:=Nat.mul_le_mul_right _ (by omega)
   have eB:Hid (∀ W,Below w.heap.size w W→Kc Tryz.prog 170 #[.string (dec (Qc (l.take k))),.string (dec l[k].den)] W (.string (dec (Nat.lcm (Qc (l.take k)) l[k].den)))):=fun W hW=>by
    have:=Zwl W (Qc (l.take k):Int) (l[k].den:Int) (Kw CQ (by omega) (by omega)) (Kw Gz.2 ez (by omega)) (HL.out.below hW)
    rw[Kj,Kj,Int.lcm_natCast_natCast] at this;exact this
   clear hcells Gz CQ JT iR ez iS;generalize l[k]=q at *
   generalize Qc (l.take k)=d at *
   generalize Nat.lcm d q.den=d2 at *
   simp only[qs] at c0 c1;have gj:=hd_ (Hb.out.alloc Hb.out.size (.cells #[.string (itx q.num),.string (dec q.den)] 42));have E4:=hd_ ((Below.refl wr.heap.size wr).alloc nr_ (.cells #[.string (itx q.num),.string (dec q.den)] 42));have gi:Hid ((wr.alloc (.cells #[.string (itx q.num),.string (dec q.den)] 42)).heap[wr.heap.size]?=some (.cells #[.string (itx q.num),.string (dec q.den)] 42 (0,0))):=heap_alloc_new wr _;have Ji:=hd_ ((E4.out.block _ (Array.getElem?_eq_some_iff.1 H5.out).1).trans H5.out);have LV:=hd_ ((E4.out.block _ (Array.getElem?_eq_some_iff.1 H4.out).1).trans H4.out);obtain⟨k0,k1,-,-⟩:=Ka gi.out;obtain⟨m0,m1,m2,m3⟩:=Kp Ji.out;clear m3
   go_wp2_with fail
   generalize wr.alloc (.cells #[.string (itx q.num),.string (dec q.den)] 42)=W0 at *
   clear c0 c1 k0 k1 m0 m1 m2 gi H4 H5 E4;refine cm_ (eB.out _ gj.out) ?_;rintro e w1 ⟨rfl,hZ⟩;have nN:=hd_ ((hZ.block _ (Array.getElem?_eq_some_iff.1 Ji.out).1).trans Ji.out);have On:=hd_ ((hZ.block _ (Array.getElem?_eq_some_iff.1 LV.out).1).trans LV.out);have HQ:=hd_ (gj.out.trans (hZ.mono gj.out.size));clear hZ eB gj Ji LV;obtain⟨m0,m1,m2,m3⟩:=Kp nN.out;have f2:=m3 2;clear m3;go_wp2
   go_roundw
   case rel =>
    refine⟨k+1,by omega,by go_num,?_,?_,?_⟩
    ·show _=_
     rw[Zq (by omega)];exact On.out
    ·show _=_
     rw[Zcr nN.out,eA.out];rfl
    ·exact HQ.out.setCell (p:=⟨w.heap.size+1,2,none⟩) (by simp) _
   case measure=>simp[intOf];omega
  ·have gm:¬ (k:Int)<n:=by omega
   have bV:k=n:=by omega
   subst bV;rw[show l.take k=l by rw[← Hn.out,List.take_length]] at H5
   have aG:Hid (TS w (Qs (Qc l) (ps.take 0) (l.take 0)) (Qc l) none 0 none 0 wr) :=
    ⟨H4.out,H5.out,World.ownsRow_nil ..,World.ownsRow_nil ..,fun k hk=>by simp[Value.ownBlock] at hk,Hb.out,(Array.getElem?_eq_some_iff.1 H5.out).1⟩
   have Mw:=hd_ (fun j hj=>Zi1 l D Hs.out j hj)
   clear H4 H5 Hb
   go_wp2_with fail
   have lw:=Zi0 l l.length nr_;rw[List.take_length] at lw;have Oc:=hd_ lw;have MW:Hid (Qc l<10^(1+k*D)):=by
    show _<_
    have:=Mw.out l.length nr_
    rw[List.take_length,Hn.out] at this;exact this
   clear lw Mw;have oL:=hd_ aG.out.bel
   go_loopw [29] (fun i wr=>∃ (j:Nat) (b1:Option Addr) (d1:Nat) (b2:Option Addr) (d2:Nat),j≤k∧i = .int .i64 j∧Hid (TS w (Qs (Qc l) (ps.take j) (l.take j)) (Qc l) b1 d1 b2 d2 wr)) (fun i _=>k-(intOf i).toNat)
   case atStart=>exact⟨0,none,0,none,0,Nat.zero_le _,rfl,aG⟩
   case round =>
    obtain⟨j,b1,d1,b2,d2,hj,rfl,Fg⟩:=hrel
    by_cases Gb:j<k
    ·have FE:(j:Int)<k:=by omega
     have dw:j<l.length:=by rw[Hn.out];exact Gb
     have mI:j<ps.length:=by rw[ME.out];exact Gb
     obtain⟨b,off,rfl,hb,hcells⟩:=Hr.out.open (by rw[Kz];omega)
     obtain⟨c0,c1⟩:=Qm hcells j (by rw[List.length_map];exact dw)
     rw[← Fg.out.bel.cell (p:=⟨b,off+j*2,none⟩) hb,Qw _ j dw] at c0;rw[← Fg.out.bel.cell (p:=⟨b,off+j*2+1,none⟩) hb,Qw _ j dw] at c1;have eA:=hd_ (Zp3 (Qc l) ps l j mI dw);have Gz:=Hs.out _ (List.getElem_mem dw);have hq:=Zg0 l[j].num;obtain⟨bp,op,rfl,cw,iE⟩:=Hp.out.open (by rw[Qf];omega)
     have Fb:Hid (w.cell? ⟨bp,op+j,none⟩=some (.int .i64 ps[j])):=iE j _ (Ym ps j mI);clear hcells iE;generalize l[j]=q at *
     simp only[qs] at c0 c1;have E4:=hd_ ((Below.refl wr.heap.size wr).alloc nr_ (.cells #[.string (itx q.num),.string (dec q.den)] 42));have gi:Hid ((wr.alloc (.cells #[.string (itx q.num),.string (dec q.den)] 42)).heap[wr.heap.size]?=some (.cells #[.string (itx q.num),.string (dec q.den)] 42 (0,0))):=heap_alloc_new wr _;have c8:=hd_ (Fg.out.next E4.out);have l6:=hd_ (fun k hk=>(World.ownsRow.lt Fg.out.o1 k hk).2)
     have l5:=hd_ (fun k hk=>(World.ownsRow.lt Fg.out.o2 k hk).2)
     have f':=hd_ (Zfd (Qc l) (ps.take j) (l.take j));obtain⟨k0,k1,-,-⟩:=Ka gi.out
     by_cases hz:q.num=0
     ·rw[if_pos hz,List.append_nil] at eA;rw[decide_eq_true hz] at hq;clear hz gi E4 Fg Gz;go_wp2
      go_roundw
      case rel=>exact⟨j+1,b1,d1,b2,d2,by omega,by go_num,by rw[eA.out];exact c8⟩
      case measure=>simp[intOf];omega
     ·rw[if_neg hz] at eA;rw[decide_eq_false hz] at hq;clear hz;obtain⟨m0,m1,m2,m3⟩:=Kp c8.out.h5;clear m3;have iR:=HD.out;have ez:=Gz.pos;have JT:(k+2)*D=k*D+2*D:=by rw[Nat.add_mul]
      have iV:10^(1+k*D)<10^(1+k*D+1):=Nat.pow_lt_pow_right (by decide) (by omega)
      have Dt:=MW.out;have fR:Hid (∀ W,Below w.heap.size w W→Kc Tryz.prog 163 #[.string (dec (Qc l)),.string (dec q.den)] W (.tuple #[.string (dec (Qc l/q.den)),.string (itx ((Qc l:Int)%(q.den:Int))),.int .i64 0])):=fun W hW=>by
       have:=Yg W (Qc l:Int) q.den (Kw Dt (by omega) (by omega)) (Kw Gz.2 ez (by omega)) q.den_pos (Kw (D:=1+k*D+1) (show (Qc l+1)<10^(1+k*D+1) by omega) (by omega) (by omega)) (HL.out.below hW)
       rw[Kj,← Int.natCast_ediv,Kj] at this;exact this
      have bv:Qc l/q.den≤Qc l:=Nat.div_le_self _ _;have A9:(q.num*((Qc l/q.den:Nat):Int)).natAbs<10^(D+(1+k*D)):=by
       rw[Int.natAbs_mul];exact Qe Gz.1 (Nat.lt_of_le_of_lt bv Dt)
      have Dc:Hid (∀ W,Below w.heap.size w W→Kc Tryz.prog 115 #[.string (itx q.num),.string (dec (Qc l/q.den))] W (.string (itx (q.num*((Qc l/q.den:Nat):Int))))):=fun W hW=>by
       have:=Yx W q.num ((Qc l/q.den:Nat):Int) (Kw Gz.1 ez (by omega)) (Kw (Nat.lt_of_le_of_lt bv Dt) (by omega) (by omega)) (Kw A9 (by omega) (by omega)) (HL.out.below hW)
       rw[Kj] at this;exact this
      clear iR ez JT iV Dt bv A9 Gz;generalize hfq:q.num*((Qc l/q.den:Nat):Int)=fq at *
      have Le:=hd_ hfq;clear hfq;generalize dec (Qc l/q.den)=sq at *
      go_wp2_with fail
      generalize wr.alloc (.cells #[.string (itx q.num),.string (dec q.den)] 42)=W0 at *
      clear c0 c1 k0 k1 m0 m1 m2;refine cm_ (fR.out _ c8.out.bel) ?_;rintro e w1 ⟨rfl,hZ⟩;have EI:=hd_ (Kk gi.out hZ);have cZ:=hd_ (c8.out.next hZ);clear hZ fR c8 gi E4 Fg;obtain⟨k0,k1,-,-⟩:=Ka EI.out;obtain⟨m0,m1,m2,m3⟩:=Kp cZ.out.h5;have f0:=m3 0;have f1:=m3 1;clear m3
      go_wp2_with fail
      have j':Hid (w1.cell? ⟨bp,op+j,none⟩=some (.int .i64 ps[j])):=(cZ.out.bel.cell (p:=⟨bp,op+j,none⟩) cw).trans Fb.out;generalize ps[j]=pj at *
      refine RP.wp_region_readers 17 [(1,0),(1,1),(1,2),(1,3),(1,4),(1,5),(1,8),(1,9),(1,10),(1,11),(2,12),(0,6),(0,7),(2,16),(0,13),(0,14),(0,15),(0,17),(2,18),(0,19)]
       (fun w'=>∃ p:TW (w.heap.size+1) wr.heap.size (.slice b1 (Qs (Qc l) (ps.take j) (l.take j)).length d1) (.slice b2 (Qs (Qc l) (ps.take j) (l.take j)).length d2) (.string (dec (Qc l))) (.string (itx q.num)) (.string (dec q.den)) ⟨bp,op+j,none⟩ (.int .i64 pj),w'=p.w)
       (by kernel_rfl) (by kernel_rfl) ?_ ?_
      ·exact⟨⟨{ w1 with drawn:=w1.drawn+1 },cZ.out.h5,EI.out,j'.out⟩,rfl⟩
      have q0:=@TW.q0;have q1:=@TW.q1;have q2:=@TW.q2;have q3:=@TW.hp;have gq:Nonempty (TW (w.heap.size+1) wr.heap.size (.slice b1 (Qs (Qc l) (ps.take j) (l.take j)).length d1) (.slice b2 (Qs (Qc l) (ps.take j) (l.take j)).length d2) (.string (dec (Qc l))) (.string (itx q.num)) (.string (dec q.den)) ⟨bp,op+j,none⟩ (.int .i64 pj)):=⟨⟨w1,cZ.out.h5,EI.out,j'.out⟩⟩
      iterate 10 (refine RP.walkR_read ?_;simp only[Kh,dz_,Kg,tz_];go_big_quiet_step (fail);refine wpQuiet_nil ?_)
      refine RP.walkR_any ?_;simp only[Kh,dz_,Kg,tz_]
      go_big_quiet_step (fail)
      refine wpQuiet_nil ?_;clear q0 q1 q2 q3 gq;refine RP.walkR_move ?_;simp only[Kh,dz_,Kg,tz_]
      go_wp2_with fail
      have bC:=hd_ (cZ.out.next (w':=(w1.alloc (Obj.cells #[Value.int IntKind.i64 pj] 3)).drew) ((Below.refl w1.heap.size w1).alloc nr_ _).drew);have bK:=hd_ ((((Below.refl w1.heap.size w1).alloc nr_ (Obj.cells #[Value.int IntKind.i64 pj] 3)).drew));have Co:=hd_ (Kk EI.out bK.out);have F4:Hid (∀ jj u,[Value.int IntKind.i64 pj][jj]?=some u→((w1.alloc (Obj.cells #[Value.int IntKind.i64 pj] 3)).drew).cell? ((⟨w1.heap.size,0,none⟩:Addr).add jj)=some u):=fun jj u hj=>cell_one_new w1 _ _ jj u hj
      have fy:wr.heap.size<w1.heap.size:=(Array.getElem?_eq_some_iff.1 EI.out).1;have MA:Hid (w1.heap.size<((w1.alloc (Obj.cells #[Value.int IntKind.i64 pj] 3)).drew).heap.size):=by show _<_;show w1.heap.size<(w1.alloc _).heap.size;simp
      have Lo:Hid (((w1.alloc (Obj.cells #[Value.int IntKind.i64 pj] 3)).drew).cell? ⟨bp,op+j,none⟩=some (.int .i64 pj)):=(bK.out.cell (p:=⟨bp,op+j,none⟩) (block_lt_of_cell j'.out)).trans j'.out;generalize (w1.alloc (Obj.cells #[Value.int IntKind.i64 pj] 3)).drew=w3 at *
      refine⟨⟨⟨w3,bC.out.h5,Co.out,Lo.out⟩,rfl⟩,?_⟩;refine RP.walkR_move ?_;simp only[Kh,dz_,Kg,tz_];obtain⟨iP,hi,e9,ej,Fs⟩:=info_parts Qbi;refine wpList_append_own_at w3 rfl (.tmp 47) (.tmp 52) 36 rfl (w.heap.size+2) 3 iP (.int .i64 0) 1 8 Tryz.underlying36 hi e9 ej Fs rfl (by decide) _ _ _ rfl bC.out.o1 ⟨w1.heap.size,0,none⟩ 1 1 [.int .i64 pj] rfl rfl F4.out (by simp[Value.oneCell']) (by have:=f'.out;rw[List.length_take] at this;unfold maxLen;omega) (by have:=f'.out;rw[List.length_take] at this;omega) bC.out.siz ?_
      intro v' w4 own4 hg4 hnil4 hat4;have bB:=hd_ (bC.out.grow1 own4 hg4 hat4);obtain⟨e1,f1c,rfl⟩:=Qk own4;have Bt:Hid (w4.heap[wr.heap.size]?=some (.cells #[.string (itx q.num),.string (dec q.den)] 42 (0,0))):=by
       show _=_
       rw[hg4.block _ (Array.getElem?_eq_some_iff.1 Co.out).1 (fun e=>by have:=l6.out _ e.symm;omega)]
       exact Co.out
      have Ln:Hid (w4.cell? ⟨bp,op+j,none⟩=some (.int .i64 pj)):=(bB.out.bel.cell (p:=⟨bp,op+j,none⟩) cw).trans Fb.out;clear own4 hg4 hnil4 hat4
      go_wp2_with fail
      refine⟨⟨⟨w4,bB.out.h5,Bt.out,Ln.out⟩,rfl⟩,?_⟩;refine RP.walkR_any ?_;simp only[Kh,dz_,Kg,tz_]
      go_big_quiet_step (fail)
      refine wpQuiet_nil ?_
      -- the factor
      refine RP.walkR_move ?_;simp only[Kh,dz_,Kg,tz_]
      go_wp2_with fail
      refine cm_ (Dc.out _ bB.out.bel) ?_;rintro e w5 ⟨rfl,hb5⟩;have aF:=hd_ (bB.out.next hb5);have Bs:=hd_ (Kk Bt.out hb5);have Lm:Hid (w5.cell? ⟨bp,op+j,none⟩=some (.int .i64 pj)):=(aF.out.bel.cell (p:=⟨bp,op+j,none⟩) cw).trans Fb.out;clear hb5 Dc
      go_wp2_with fail
      refine⟨⟨⟨w5,aF.out.h5,Bs.out,Lm.out⟩,rfl⟩,?_⟩;refine RP.walkR_move ?_;simp only[Kh,dz_,Kg,tz_]
      go_wp2_with fail
      have ja:=hd_ ((Below.refl w5.heap.size w5).alloc nr_ (Obj.cells #[Value.string (itx fq)] 25));have cY:=hd_ (aF.out.next ja.out);have Cn:=hd_ (Kk Bs.out ja.out);have Iw:Hid (∀ jj u,[Value.string (itx fq)][jj]?=some u→(w5.alloc (Obj.cells #[Value.string (itx fq)] 25)).cell? ((⟨w5.heap.size,0,none⟩:Addr).add jj)=some u):=fun jj u hj=>cell_one_new w5 _ _ jj u hj
      have Ll:Hid ((w5.alloc (Obj.cells #[Value.string (itx fq)] 25)).cell? ⟨bp,op+j,none⟩=some (.int .i64 pj)):=(cY.out.bel.cell (p:=⟨bp,op+j,none⟩) cw).trans Fb.out;generalize w5.alloc (Obj.cells #[Value.string (itx fq)] 25)=w6 at *
      refine⟨⟨⟨w6,cY.out.h5,Cn.out,Ll.out⟩,rfl⟩,?_⟩;refine RP.walkR_move ?_;simp only[Kh,dz_,Kg,tz_];obtain⟨iZ,hiZ,hzZ0,hzZ1,hzZ2⟩:=info_parts Qbg;refine wpList_append_own_at w6 rfl (.tmp 55) (.tmp 60) 132 rfl (w.heap.size+2) 25 iZ (.string ⟨#[]⟩) 1 16 Tryz.underlying132 hiZ hzZ0 hzZ1 hzZ2 rfl (by decide) _ _ _ rfl cY.out.o2 ⟨w5.heap.size,0,none⟩ 1 1 [.string (itx fq)] rfl rfl Iw.out (by simp[Value.oneCell']) (by have:=f'.out;rw[List.length_take] at this;unfold maxLen;omega) (by have:=f'.out;rw[List.length_take] at this;omega) cY.out.siz ?_
      intro v' w7 own7 hg7 hnil7 hat7;have bA:=hd_ (cY.out.grow2 own7 hg7 hat7);obtain⟨e2,f2c,rfl⟩:=Qk own7;have IC:Hid (w7.heap[wr.heap.size]?=some (.cells #[.string (itx q.num),.string (dec q.den)] 42 (0,0))):=by
       show _=_
       rw[hg7.block _ (Array.getElem?_eq_some_iff.1 Cn.out).1 (fun e=>by have:=l5.out _ e.symm;omega)]
       exact Cn.out
      have Lk:Hid (w7.cell? ⟨bp,op+j,none⟩=some (.int .i64 pj)):=(bA.out.bel.cell (p:=⟨bp,op+j,none⟩) cw).trans Fb.out;clear own7 hg7 hnil7 hat7
      go_wp2_with fail
      refine⟨⟨⟨w7,bA.out.h5,IC.out,Lk.out⟩,rfl⟩,?_⟩
      -- the stores
      obtain⟨m0,m1,m2,m3⟩:=Kp bA.out.h5;have f0:=m3 0;have f1:=m3 1;clear m3;refine RP.walkR_move ?_;simp only[Kh,dz_,Kg,tz_]
      go_wp2_with fail
      have Im:=hd_ (bA.out.store1 (Value.slice e1 ((Qs (Qc l) (List.take j ps) (List.take j l)).length+1) f1c));clear m0 m1 m2 f0 f1;generalize w7.setCell { block:=w.heap.size+1,off:=0 } (Value.slice e1 ((Qs (Qc l) (List.take j ps) (List.take j l)).length+1) f1c)=w8 at *
      refine RP.walkR_any ?_;simp only[Kh,dz_,Kg,tz_]
      go_big_quiet_step (fail)
      refine wpQuiet_nil ?_;obtain⟨m0,m1,m2,m3⟩:=Kp Im.out.h5;have f0:=m3 0;have f1:=m3 1;clear m3;refine RP.walkR_move ?_;simp only[Kh,dz_,Kg,tz_]
      go_wp2_with fail
      have lM:=hd_ (Im.out.store2 (Value.slice e2 ((Qs (Qc l) (List.take j ps) (List.take j l)).length+1) f2c));clear m0 m1 m2 f0 f1;generalize w8.setCell { block:=w.heap.size+1,off:=1 } (Value.slice e2 ((Qs (Qc l) (List.take j ps) (List.take j l)).length+1) f2c)=w9 at *
      simp only[RP.walkR];go_wp2
      go_roundw
      case rel =>
       refine⟨j+1,e1,f1c,e2,f2c,by omega,by go_num,?_⟩
       show TS _ _ _ _ _ _ _ _
       rw[eA.out];unfold TS;simp only[List.map_append,List.length_append,List.length_cons,List.length_nil,Zf,Zmp,List.map_cons,List.map_nil];exact lM.out
      case measure=>simp[intOf];omega
    ·have FE:¬ (j:Int)<k:=by omega
     have Dq:j=k:=by omega
     subst Dq;have b9:Qs (Qc l) (ps.take j) (l.take j)=Qs (Qc l) ps l:=by
      rw[show ps.take j=ps by rw[← ME.out,List.take_length],show l.take j=l by rw[← Hn.out,List.take_length]]
     rw[b9] at Fg;clear b9 aG Oc MW oL;obtain⟨m0,m1,m2,m3⟩:=Kp Fg.out.h5;clear m3;obtain⟨r0,r1,r2,r3⟩:=Kp Fg.out.h4;have f0:=r3 0;have f1:=r3 1;have f2:=r3 2;clear r3
     go_wp2_with fail
     have iV:=Zcr (Zcr (Zcr Fg.out.h4 0 (Value.slice b1 (Qs (Qc l) ps l).length d1)) 1 (Value.slice b2 (Qs (Qc l) ps l).length d2)) 2 (.string (dec (Qc l)));have o1:=Zs3 (ownsRow_setCell_below (ownsRow_setCell_below (ownsRow_setCell_below Fg.out.o1 (a:=⟨w.heap.size,0,none⟩) (by show w.heap.size<w.heap.size+2;omega) (Value.slice b1 (Qs (Qc l) ps l).length d1)) (a:=⟨w.heap.size,1,none⟩) (by show w.heap.size<w.heap.size+2;omega) (Value.slice b2 (Qs (Qc l) ps l).length d2)) (a:=⟨w.heap.size,2,none⟩) (by show w.heap.size<w.heap.size+2;omega) (.string (dec (Qc l))))
     have o2:=Zs3 (ownsRow_setCell_below (ownsRow_setCell_below (ownsRow_setCell_below Fg.out.o2 (a:=⟨w.heap.size,0,none⟩) (by show w.heap.size<w.heap.size+2;omega) (Value.slice b1 (Qs (Qc l) ps l).length d1)) (a:=⟨w.heap.size,1,none⟩) (by show w.heap.size<w.heap.size+2;omega) (Value.slice b2 (Qs (Qc l) ps l).length d2)) (a:=⟨w.heap.size,2,none⟩) (by show w.heap.size<w.heap.size+2;omega) (.string (dec (Qc l))))
     have Fu:=((Fg.out.bel.setCell (p:=⟨w.heap.size,0,none⟩) nr_ (Value.slice b1 (Qs (Qc l) ps l).length d1)).setCell (p:=⟨w.heap.size,1,none⟩) nr_ (Value.slice b2 (Qs (Qc l) ps l).length d2)).setCell (p:=⟨w.heap.size,2,none⟩) nr_ (.string (dec (Qc l)));generalize ((wr.setCell { block:=w.heap.size,off:=0 } (Value.slice b1 (Qs (Qc l) ps l).length d1)).setCell { block:=w.heap.size,off:=1 } (Value.slice b2 (Qs (Qc l) ps l).length d2)).setCell { block:=w.heap.size,off:=2 } (Value.string (dec (Qc l)))=w10 at *
     obtain⟨t0,t1,t2,-⟩:=Kp (a:=Value.slice b1 (Qs (Qc l) ps l).length d1) (b:=Value.slice b2 (Qs (Qc l) ps l).length d2) (c := .string (dec (Qc l))) iV;exact bodyPost_ret (v:=Zr6 (Value.slice b1 (Qs (Qc l) ps l).length d1) (Value.slice b2 (Qs (Qc l) ps l).length d2) (Qc l)) (by simp[Zr6,results,Tryz.results100,go_sem,t0,t1,t2]) rfl ⟨b1,d1,b2,d2,rfl,o1,o2,Fu⟩
end Go.Proofs.YtnjedhgcfeoemaaGreatDoor

namespace Go.Proofs.YtnjedhgcfeoemaaGreatDoor
open Go.RowKit Go.Shelf
attribute [local go_sem] Oper.semAt_some
abbrev Kr (b1:Option Addr) (d1:Nat) (b2:Option Addr) (d2 m D:Nat):Array Value := #[.slice b1 m d1,.slice b2 m d2,.string (dec D)]
theorem Zu1(w:World)(b1 b2:Option Addr)(d1 d2 m D:Nat):
  Calls Tryz.prog 211 #[.agg (Kr b1 d1 b2 d2 m D)] w fun e w' =>
   e = .returned (.func (.func 241) #[] #[.pointer (some ⟨w.heap.size,0,none⟩)])∧w'=w.alloc (.cells (Kr b1 d1 b2 d2 m D) 163):=by
 go_enter Tryz.func211,Tryz.ntmps211;go_wp2;go_ret;exact⟨rfl,rfl⟩
abbrev Qc6 (tl:List (Int×Int)) (x:{x // x∈tl}):Array Value := #[.int .i64 x.1.1,.string (itx x.1.2)]
def KT (n₀ Bn:Nat) (W W':World):Prop:=Below n₀ W W'∧W'.heap[Bn]?=W.heap[Bn]?
theorem Qc2{n₀ Bn:Nat}{A B C:World}(h:KT n₀ Bn A B)(k:KT n₀ Bn B C):KT n₀ Bn A C:=⟨h.1.trans k.1,k.2.trans h.2⟩
theorem Qc3{n₀ Bn:Nat}{w:World}(hn:n₀≤w.heap.size)(hB:Bn<w.heap.size)(W:World)(l:Nat)(o o':Obj)(hl:w.heap.size≤l)(h:W.heap[l]?=some o)(h1:o.isCells=false)(h2:o.isWalk=false):KT n₀ Bn W (W.putObj l o') :=
 ⟨belowK_b hn W l o o' hl h h1 h2,World.putObj_heap_other (by omega)⟩
theorem Zmc(n:Nat)(hn:1≤n)(w00 w:World)(h00:Below w00.heap.size w00 w)(Bn:Nat)(b1 b2:Option Addr)(d1 d2 D:Nat)(tl:List (Int×Int))(hl:tl.length≤1000)
  (hB:w.heap[Bn]?=some (.cells (Kr b1 d1 b2 d2 tl.length D) 163 (0,0))) (dN:Rd w00 b1 (Qt (tl.map Prod.fst))) (En:Rd w00 b2 (Zdq (tl.map fun x=>itx x.2))) :
  SeqStopsK Fence.wide n Tryz.prog 241 #[.pointer (some ⟨Bn,0,none⟩)] (Qc6 tl) (KT w00.heap.size Bn) (fun xs=>xs=tl.attach) (fun pre=>pre <+: tl.attach) tl.length w:=fun l J Jx W hW hJ hJx hY h0=>by
 have HB:=hd_ ((hW.block _ (Array.getElem?_eq_some_iff.1 hB).1).trans hB);have lT:=hd_ dN;have lS:=hd_ En;have HW:=hd_ (h00.trans (hW.mono h00.size));clear dN En hB hW h00;refine callsIn_of_wp Tryz.func241 rfl trivial ?_ rfl;simp only[Tryz.ntmps241,List.size_toArray,List.length_cons,List.length_nil,Nat.reduceAdd,Nat.reduceSub,Array.replicate_succ,Array.replicate_zero,List.push_toArray,List.append_toArray,List.nil_append,List.cons_append];obtain⟨m0,m1,m2,m3⟩:=Kp HB.out;clear m3
 gi_wp2
 gi_loopw [8] (fun p wr=>∃ k:Nat,k≤tl.length∧p = .int .i64 k∧J (tl.attach.take k) wr∧Hid (Below w00.heap.size w00 wr)∧Hid (wr.heap[Bn]?=some (.cells (Kr b1 d1 b2 d2 tl.length D) 163 (0,0))))
  (fun p wr=>tl.length-(intOf p).toNat)
 case atStart=>exact⟨0,Nat.zero_le _,rfl,h0,HW,HB⟩
 case round =>
  obtain⟨k,hk,rfl,hJk,Hb,AM⟩:=hrel
  by_cases H9:k<tl.length
  ·have gm:(k:Int)<tl.length:=by omega
   have DZ:(0:Int)≤k:=by omega
   obtain⟨g1,o1,rfl,fP,gK⟩:=lT.out.open (by rw[Qf,List.length_map];omega)
   obtain⟨g2,o2,rfl,fO,Gk⟩:=lS.out.open (by rw[Zb,List.length_map];omega)
   have x1:wr.cell? ⟨g1,o1+k,none⟩=some (.int .i64 (tl[k]).1):=by
    rw[Hb.out.cell (p:=⟨g1,o1+k,none⟩) fP];refine gK k _ ?_;rw[Ym _ k (by rw[List.length_map];exact H9),List.getElem_map]
   have x2:wr.cell? ⟨g2,o2+k,none⟩=some (.string (itx (tl[k]).2)):=by
    rw[Hb.out.cell (p:=⟨g2,o2+k,none⟩) fO];refine Gk k _ ?_;simp[Zdq,H9]
   obtain⟨m0,m1,m2,m3⟩:=Kp AM.out;clear m3 gK Gk;obtain⟨fn,tmps,assign,body,hy,hR⟩:=hY (tl.attach.take k) ⟨tl[k],List.getElem_mem H9⟩ wr hJk (by rw[List.length_take,List.length_attach];omega)
   dsimp only[Qc6] at hy
   have fm:Hid (tl.attach.take k++[⟨tl[k],List.getElem_mem H9⟩]=tl.attach.take (k+1)):=by
    show _=_
    rw[List.take_add_one,List.getElem?_eq_getElem (by rw[List.length_attach];exact H9),List.getElem_attach];rfl
   have du:(tl.length:Int)≤1000:=by omega
   gi_wp2_with fail
   refine hR.mono ?_;rintro e W3 (⟨rfl,hJ3,hk3⟩|⟨rfl,hJx3⟩)
   ·rw[fm.out] at hJ3;have gd:=hd_ (Hb.out.trans hk3.1);have GC:=hd_ (hk3.2.trans AM.out);clear hk3 x1 x2 m0 m1 m2 hR hy
    gi_wp2
    go_roundw
    case rel=>exact⟨k+1,by omega,by go_num,hJ3,gd,GC⟩
    case measure=>simp[intOf];omega
   ·rw[fm.out] at hJx3
    gi_wp2
    refine bodyPost_ret (results_none rfl _ _ _) rfl ?_;exact⟨⟨_,rfl⟩,.inr ⟨tl.attach.take (k+1),List.take_prefix _ _,hJx3⟩⟩
  ·have gm:¬ (k:Int)<tl.length:=by omega
   have GA:tl.attach.take k=tl.attach:=List.take_of_length_le (by rw[List.length_attach];omega)
   rw[GA] at hJk
   gi_wp2
   go_end0
   exact⟨⟨_,rfl⟩,.inl hJk⟩
end Go.Proofs.YtnjedhgcfeoemaaGreatDoor

namespace Go.Proofs.YtnjedhgcfeoemaaGreatDoor
open Go.RowKit
def Zz8 (p N a:Nat):Prop:=2^a≤p^N∧p^N<2^(a+1)
def Vb (unit:Nat) (s:Nat×Nat×Nat):Option (Nat×Nat×Nat) :=
 let low:=s.1*s.1/unit
 let high:=s.2.1*s.2.1/unit+1
 if 2*unit≤low then some (low/2,high/2+1,2*s.2.2+1)
 else if 2*unit≤high then none
 else some (low,high,2*s.2.2)
def Vn (p more:Nat):Nat→Option (Nat×Nat×Nat)
 | 0=>some (p*2^(more-p.log2),p*2^(more-p.log2),p.log2)
 | n+1=>(Vn p more n).bind (Vb (2^more))
structure Zu7 (p unit N:Nat) (s:Nat×Nat×Nat):Prop where
 lg:Zz8 p N s.2.2
 lo:s.1*2^s.2.2≤unit*p^N
 hi:unit*p^N≤s.2.1*2^s.2.2
theorem Zn3{p unit N:Nat}{s t:Nat×Nat×Nat}(h0:0<unit)(h:Zu7 p unit N s)(hs:Vb unit s=some t):Zu7 p unit (2*N) t:=by
 obtain⟨l,h',o⟩:=s;obtain⟨⟨g1,g2⟩,lo,hi⟩:=h;simp only at g1 g2 lo hi;simp only[Vb] at hs;have hP:p^(2*N)=p^N*p^N:=by rw[Nat.two_mul,Nat.pow_add]
 have hO:2^(2*o)=2^o*2^o:=by rw[Nat.two_mul,Nat.pow_add]
 have iM:2^(2*o+1)=2*(2^o*2^o):=by rw[Nat.pow_succ,hO,Nat.mul_comm]
 have N8:2^(2*o+1+1)=4*(2^o*2^o):=by rw[Nat.pow_succ,iM];omega
 have hq:=Nat.div_mul_le_self (l*l) unit;have hr:=Nat.lt_div_mul_add (a:=h'*h') h0;generalize hA:l*l/unit=A at *
 generalize hB:h'*h'/unit=B at *
 rw[Nat.pow_succ] at g2;generalize 2^o=T at *
 generalize p^N=P at *
 -- A * (T * T) ≤ unit * (P * P)
 have e1:A*(T*T)≤unit*(P*P):=by
  have h1:A*unit*(T*T)≤(l*l)*(T*T):=Nat.mul_le_mul_right _ hq;have h2:(l*T)*(l*T)≤(unit*P)*(unit*P):=Nat.mul_le_mul lo lo;have h3:unit*(A*(T*T))≤unit*(unit*(P*P)):=by
   calc unit*(A*(T*T))=A*unit*(T*T):=by ac_rfl
    _≤(l*l)*(T*T):=h1
    _=(l*T)*(l*T):=by ac_rfl
    _≤_:=h2
    _=unit*(unit*(P*P)):=by ac_rfl
  exact Nat.le_of_mul_le_mul_left h3 h0
 have e2:unit*(P*P)≤(B+1)*(T*T):=by
  have h1:h'*h'*(T*T)≤((B+1)*unit)*(T*T):=Nat.mul_le_mul_right _ (by rw[Nat.add_mul,Nat.one_mul];omega)
  have h2:(unit*P)*(unit*P)≤(h'*T)*(h'*T):=Nat.mul_le_mul hi hi;have h3:unit*(unit*(P*P))≤unit*((B+1)*(T*T)):=by
   calc unit*(unit*(P*P))=(unit*P)*(unit*P):=by ac_rfl
    _≤_:=h2
    _=h'*h'*(T*T):=by ac_rfl
    _≤_:=h1
    _=unit*((B+1)*(T*T)):=by ac_rfl
  exact Nat.le_of_mul_le_mul_left h3 h0
 have e3:T*T≤P*P:=Nat.mul_le_mul g1 g1;have e4:P*P<4*(T*T):=by
  have:=Nat.mul_lt_mul'' g2 g2
  have h4:T*2*(T*2)=4*(T*T):=by
   calc T*2*(T*2)=(2*2)*(T*T):=by ac_rfl
    _=_:=rfl
  omega
 by_cases hl:2*unit≤A
 ·rw[if_pos hl] at hs;cases hs
  have e5:unit*(2*(T*T))≤unit*(P*P):=by
   calc unit*(2*(T*T))=2*unit*(T*T):=by ac_rfl
    _≤A*(T*T):=Nat.mul_le_mul_right _ hl
    _≤_:=e1
  have e6:2*(T*T)≤P*P:=Nat.le_of_mul_le_mul_left e5 h0;refine⟨⟨?_,?_⟩,?_,?_⟩
  ·simp only;rw[iM,hP];exact e6
  ·simp only;rw[N8,hP];exact e4
  ·simp only;rw[iM,hP];have h5:A/2*2*(T*T)≤A*(T*T):=Nat.mul_le_mul_right _ (by omega)
   rw[Nat.mul_assoc] at h5;exact Nat.le_trans h5 e1
  ·simp only;rw[iM,hP];have h5:(B+1)*(T*T)≤((B+1)/2+1)*2*(T*T):=Nat.mul_le_mul_right _ (by omega)
   rw[Nat.mul_assoc] at h5;exact Nat.le_trans e2 h5
 ·rw[if_neg hl] at hs
  by_cases hh:2*unit≤B+1
  ·rw[if_pos hh] at hs;cases hs
  ·rw[if_neg hh] at hs;cases hs
   have e7:unit*(P*P)<unit*(2*(T*T)):=by
    have hT:0<T*T:=by
     rcases Nat.eq_zero_or_pos (T*T) with h|h
     ·omega
     ·exact h
    calc unit*(P*P)≤(B+1)*(T*T):=e2
     _<2*unit*(T*T):=Nat.mul_lt_mul_of_pos_right (by omega) hT
     _=unit*(2*(T*T)):=by ac_rfl
   have e8:P*P<2*(T*T):=Nat.lt_of_mul_lt_mul_left e7;refine⟨⟨?_,?_⟩,?_,?_⟩
   ·simp only;rw[hO,hP];exact e3
   ·simp only;rw[iM,hP];exact e8
   ·simp only;rw[hO,hP];exact e1
   ·simp only;rw[hO,hP];exact e2
theorem Zd3(p more:Nat)(hp:0<p)(hm:p.log2≤more):∀ n s,Vn p more n=some s→Zu7 p (2^more) (2^n) s
 | 0,s,h=>by
  simp only[Vn,Option.some.injEq] at h;subst h;refine⟨⟨?_,?_⟩,?_,?_⟩
  ·simp only[Nat.pow_zero,Nat.pow_one];exact Nat.log2_self_le (by omega)
  ·simp only[Nat.pow_zero,Nat.pow_one];exact Nat.lt_log2_self
  all_goals
   simp only[Nat.pow_zero,Nat.pow_one];rw[Nat.mul_assoc,← Nat.pow_add,Nat.sub_add_cancel hm,Nat.mul_comm];exact Nat.le_refl _
 | n+1,s,h=>by
  simp only[Vn] at h;obtain⟨t,ht,hs⟩:=Option.bind_eq_some_iff.1 h;have:=Zn3 (Nat.two_pow_pos more) (Zd3 p more hp hm n t ht) hs
  rw[Nat.pow_succ,Nat.mul_comm];exact this
theorem Zvy(H b:Nat)(hb:b<4):(H*4) ||| b=H*4+b:=by
 have:=Nat.shiftLeft_add_eq_or_of_lt (b:=b) (i:=2) hb H
 rw[Nat.shiftLeft_eq] at this;exact this.symm
theorem Zpr(H L:Nat)(hH:H<4611686018427387904)(hL:L<18446744073709551616):bits .or .u64 ((H:Int)*4) ((L:Int)/4611686018427387904)=((H*4+L/4611686018427387904:Nat):Int):=by
 have h:=(bits_nat .u64 64 (by decide) (fun n h0 h1=>by rw[IntKind.wrap_u64];omega) (H*4) (L/4611686018427387904) (by omega) (by omega)).2
 rw[Zvy H _ (by omega)] at h
 simpa using h
theorem Ze5(p:Nat)(hp:0<p)(Gn:p≤97):Lib.bitLen p=p.log2+1:=by
 have Gm:∀ q,q<98→0<q→Lib.bitLen q=q.log2+1:=by decide +kernel
 exact Gm p (by omega) hp
structure Qb3 (j:Nat) (s:Nat×Nat×Nat):Prop where
 lo:s.1<9223372036854775808
 hi:s.2.1<9223372036854775808
 out:s.2.2+1≤7*2^j
theorem Zd4(p:Nat)(hp:2≤p)(Gn:p≤97):∀ j s,Vn p 62 j=some s→Qb3 j s
 | 0,s,h=>by
  simp only[Vn,Option.some.injEq] at h;subst h;have h1:p<2^(p.log2+1):=Nat.lt_log2_self;have h2:p.log2≤6:=by
   have:=(Nat.log2_lt (n:=p) (k:=7) (by omega)).2 (by omega)
   omega
  have h3:p*2^(62-p.log2)<2^(p.log2+1)*2^(62-p.log2):=Nat.mul_lt_mul_of_pos_right h1 (Nat.two_pow_pos _);rw[← Nat.pow_add,show p.log2+1+(62-p.log2)=63 by omega] at h3
  exact⟨h3,h3,by simp;omega⟩
 | j+1,s,h=>by
  simp only[Vn] at h;obtain⟨t,ht,hs⟩:=Option.bind_eq_some_iff.1 h;obtain⟨f1,f2,f3⟩:=Zd4 p hp Gn j t ht;obtain⟨l,g,o⟩:=t;simp only at f1 f2 f3;simp only[Vb] at hs;have q1:l*l≤9223372036854775807*9223372036854775807:=Nat.mul_le_mul (by omega) (by omega)
  have q2:g*g≤9223372036854775807*9223372036854775807:=Nat.mul_le_mul (by omega) (by omega)
  have e:2^(j+1)=2*2^j:=by rw[Nat.pow_succ];omega
  rw[show (2:Nat)^62=4611686018427387904 from rfl] at hs
  by_cases h1:2*4611686018427387904≤l*l/4611686018427387904
  ·rw[if_pos h1] at hs;cases hs
   exact⟨by simp only;omega,by simp only;omega,by simp only;omega⟩
  ·rw[if_neg h1] at hs
   by_cases h2:2*4611686018427387904≤g*g/4611686018427387904+1
   ·rw[if_pos h2] at hs;cases hs
   ·rw[if_neg h2] at hs;cases hs
    exact⟨by simp only;omega,by simp only;omega,by simp only;omega⟩
def Zg2 (p:Nat):Value:=match Vn p 62 26 with
 | some s => .tuple #[.int .i64 s.2.2,.bool true]
 | none => .tuple #[.int .i64 0,.bool false]
theorem Zw0(w:World)(p:Nat)(hp:2≤p)(Gn:p≤97):Kc Tryz.prog 240 #[.int .i64 p] w (Zg2 p):=by
 unfold Kc;have FZ:=hd_ (Tryz.bits_Len p w (by omega) (by omega))
 rw[show ((p:Nat):Int).toNat=p from rfl,Ze5 p (by omega) Gn] at FZ
 have hk:p.log2≤6:=by
  have:=(Nat.log2_lt (n:=p) (k:=7) (by omega)).2 (by omega)
  omega
 have fM:IntKind.i64.wrap (((p.log2+1:Nat):Int)-1)=(p.log2:Int):=by rw[show ((p.log2+1:Nat):Int)-1=(p.log2:Int) by omega];exact iw_ _ (by omega)
 have fL:IntKind.u64.wrap (p:Int)=p:=IntWalk.u64_in _ (by omega)
 have DN:IntKind.i64.wrap (62-(p.log2:Int))=((62-p.log2:Nat):Int):=by rw[show 62-(p.log2:Int)=((62-p.log2:Nat):Int) by omega];exact iw_ _ (by omega)
 go_enter Tryz.func240,Tryz.ntmps240
 go_wp2_with fail
 refine cm_ FZ.out ?_;rintro e w1 ⟨rfl,rfl⟩;have Ea:IntKind.u64.wrap ((p:Int)*2^(62-p.log2))=((p*2^(62-p.log2):Nat):Int):=by
  have h0:=(Zd4 p hp Gn 0 _ rfl).lo;simp only at h0;rw[show ((p*2^(62-p.log2):Nat):Int)=(p:Int)*2^(62-p.log2) by simp]
  rw[← show ((p*2^(62-p.log2):Nat):Int)=(p:Int)*2^(62-p.log2) by simp]
  exact IntWalk.u64_in _ (by omega)
 have H0:Hid (Vn p 62 0=some (p*2^(62-p.log2),p*2^(62-p.log2),p.log2)):=rfl;have Lg:=hd_ (Zd4 p hp Gn);have Cq:=hd_ (fun x hx=>Tryz.bits_Mul64 x x hx hx w1)
 clear FZ
 go_wp2_with fail
 go_loopw [5,6,7,21] (fun a b c i wr=>∃ (j lo hi o:Nat),j≤26∧Hid (Vn p 62 j=some (lo,hi,o))∧a = .int .u64 lo∧b = .int .u64 hi∧c = .int .i64 o∧i = .int .i64 j∧wr=w1) (fun _ _ _ i _=>26-(intOf i).toNat)
 case atStart=>exact⟨0,_,_,_,by omega,H0,rfl,rfl,rfl,rfl,rfl⟩
 case round =>
  obtain⟨j,lo,hi,o,hj,Hd,rfl,rfl,rfl,rfl,rfl⟩:=hrel
  by_cases H9:j<26
  ·have gm:(j:Int)<26:=by omega
   obtain⟨f1,f2,f3⟩:=Lg.out j _ Hd.out;simp only at f1 f2 f3;have mu:2^j≤2^26:=Nat.pow_le_pow_right (by decide) (by omega)
   rw[show (2:Nat)^26=67108864 from rfl] at mu
   have ho:o≤469762048:=by omega
   have q1:lo*lo≤9223372036854775807*9223372036854775807:=Nat.mul_le_mul (by omega) (by omega)
   have q2:hi*hi≤9223372036854775807*9223372036854775807:=Nat.mul_le_mul (by omega) (by omega)
   have Fl:=Cq.out lo (by omega)
   have EP:=Cq.out hi (by omega)
   have ED:Hid (Vn p 62 (j+1)=Vb (2^62) (lo,hi,o)):=by
    show _=_
    simp only[Vn,Hd.out,Option.bind_some]
   have iu:lo*lo/18446744073709551616<4611686018427387904:=by omega
   have Fm:lo*lo%18446744073709551616<18446744073709551616:=Nat.mod_lt _ (by decide)
   have dJ:lo*lo/18446744073709551616*4+lo*lo%18446744073709551616/4611686018427387904=lo*lo/4611686018427387904:=by omega
   have mL:hi*hi/18446744073709551616<4611686018427387904:=by omega
   have F0:hi*hi%18446744073709551616<18446744073709551616:=Nat.mod_lt _ (by decide)
   have Ft:hi*hi/18446744073709551616*4+hi*hi%18446744073709551616/4611686018427387904=hi*hi/4611686018427387904:=by omega
   have hZ:=Zpr _ _ iu Fm;have HU:=Zpr _ _ mL F0;rw[dJ] at hZ;rw[Ft] at HU;have NY:lo*lo/4611686018427387904≤18446744073709551612:=by omega
   have iL:hi*hi/4611686018427387904≤18446744073709551612:=by omega
   simp only[Vb] at ED;rw[show (2:Nat)^62=4611686018427387904 from rfl] at ED
   clear f3 mu dJ Ft q1 q2;generalize lo*lo/18446744073709551616=H1 at *
   generalize lo*lo%18446744073709551616=L1 at *
   generalize hi*hi/18446744073709551616=H2 at *
   generalize hi*hi%18446744073709551616=L2 at *
   generalize lo*lo/4611686018427387904=X1 at *
   generalize hi*hi/4611686018427387904=X2 at *
   clear f1 f2;obtain⟨x1,dJ⟩:∃ x1:Int,(X1:Int)=x1:=⟨_,rfl⟩;obtain⟨x2,Ft⟩:∃ x2:Int,(X2:Int)+1=x2:=⟨_,rfl⟩;have Jv:IntKind.u64.wrap ((X2:Int)+1)=(X2:Int)+1:=IntWalk.u64_in _ (by omega)
   have AW:(X2:Int)=x2-1:=by omega
   rw[dJ] at hZ;rw[AW] at HU Jv;have Nb:IntKind.u64.wrap (x2-1+1)=x2:=by rw[Jv];omega
   have CX:=hd_ dJ;have Bl:=hd_ Ft;have n7:0≤x1∧x1≤18446744073709551612:=by omega
   have nZ:1≤x2∧x2≤18446744073709551613:=by omega
   clear Jv dJ Ft AW;have Nd:IntKind.u64.wrap ((H1:Int)*4)=(H1:Int)*4:=IntWalk.u64_in _ (by omega)
   have Nc:IntKind.u64.wrap ((H2:Int)*4)=(H2:Int)*4:=IntWalk.u64_in _ (by omega)
   clear NY iL iu mL Fm F0
   go_wp2_with fail
   refine cm_ Fl ?_;rintro e w2 ⟨rfl,rfl⟩;clear Fl
   go_wp2_with fail
   refine cm_ EP ?_;rintro e w2 ⟨rfl,rfl⟩;clear EP
   go_wp2_with fail
   ·rename_i gK
    have Gu:Hid (Vn p 62 (j+1)=some (X1/2,(X2+1)/2+1,2*o+1)):=by
     show _=_
     rw[ED.out,if_pos (by have:=CX.out;omega)]
    go_roundw
    case rel=>exact⟨j+1,X1/2,(X2+1)/2+1,2*o+1,by omega,Gu,by rw[← CX.out];go_num,by rw[← Bl.out];go_num,by go_num,by go_num,trivial⟩
    case measure=>simp[intOf];omega
   ·rename_i gK Gk
    have Gu:Hid (Vn p 62 (j+1)=none):=by
     show _=_
     rw[ED.out,if_neg (by have:=CX.out;omega),if_pos (by have:=Bl.out;omega)]
    have Ck:Hid (Zg2 p = .tuple #[.int .i64 0,.bool false]):=by
     have Gm:∀ m,Vn p 62 (j+1+m)=none:=fun m=>by
      induction m with
      | zero=>exact Gu.out
      | succ m ih=>rw[← Nat.add_assoc];show (Vn p 62 (j+1+m)).bind _=none;rw[ih];rfl
     show _=_
     unfold Zg2;have:=Gm (25-j)
     rw[show j+1+(25-j)=26 by omega] at this
     rw[this]
    go_ret2
    exact⟨by rw[Ck.out];rfl,Below.refl _ _⟩
   ·rename_i gK Gk
    have Gu:Hid (Vn p 62 (j+1)=some (X1,X2+1,2*o)):=by
     show _=_
     rw[ED.out,if_neg (by have:=CX.out;omega),if_neg (by have:=Bl.out;omega)]
    go_roundw
    case rel=>exact⟨j+1,X1,X2+1,2*o,by omega,Gu,by rw[← CX.out],by rw[← Bl.out];go_num,by go_num,by go_num,trivial⟩
    case measure=>simp[intOf];omega
  ·have gm:¬ (j:Int)<26:=by omega
   have JU:j=26:=by omega
   subst JU;have Iq:Hid (Zg2 p = .tuple #[.int .i64 o,.bool true]):=by
    show _=_
    unfold Zg2;rw[Hd.out]
   go_wp2
   go_ret2
   exact⟨by rw[Iq.out];rfl,Below.refl _ _⟩
end Go.Proofs.YtnjedhgcfeoemaaGreatDoor

namespace Go.Proofs.YtnjedhgcfeoemaaGreatDoor
open Go Go.Sort
section
variable {P:Program} {ops:Array Oper} {md:Region.Mode} {cs:List (Nat×(World→Prop))}
def Zbb:Op→Bool
 | .move _ | .assign _ | .load _ _ | .fieldAddr _ _ _ | .indexAddr _ _ _ | .binOp _ _ _ _ _=>true
 | .call c=>match c.callee with
  | .builtin .min | .builtin .max | .builtin .len=>true
  | _=>false
 | _=>false
theorem Zs9{o:Oper}{a:Act}{w w':World}{f:FuncId}{args:Array Value}(ho:Zbb o.op=true)(h:(execOp a.eval o).run P w = .ok (.enter f args) w'):False:=by
 have E2:(∃ x,o.op = .move x)∨(∃ x,o.op = .assign x)∨(∃ t x,o.op = .load t x)∨(∃ t x k,o.op = .fieldAddr t x k)∨(∃ t x y,o.op = .indexAddr t x y)∨(∃ b t x y r,o.op = .binOp b t x y r)∨(∃ c,o.op = .call c):=by
  cases hop:o.op<;>rw[hop] at ho<;>first | (simp[Zbb] at ho;done) | simp
 rcases E2 with⟨x,hop⟩|⟨x,hop⟩|⟨t,x,hop⟩|⟨t,x,k,hop⟩|⟨t,x,y,hop⟩|⟨b,t,x,y,r,hop⟩|⟨c,hop⟩
 ·rw[BigFrame.run_move x hop] at h;cases h
 ·rw[BigFrame.run_assign x hop] at h;cases h
 ·unfold execOp at h;rw[hop] at h;exact RP.value_no_enter h
 ·unfold execOp at h;rw[hop] at h;exact RP.value_no_enter h
 ·unfold execOp at h;rw[hop] at h;exact RP.value_no_enter h
 ·unfold execOp at h;rw[hop] at h;exact RP.value_no_enter h
 ·rw[hop] at ho;unfold execOp at h;rw[hop] at h;unfold Zbb at ho;simp only at ho h;unfold resolve at h;cases hc:c.callee with
  | value x=>rw[hc] at ho;cases ho
  | invoke x y=>rw[hc] at ho;cases ho
  | builtin b =>
   rw[hc] at ho h;simp only[Sem.run_bind,Sem.run_pure,Result.andThen_ok,invoke] at h;cases b<;>first | (simp at ho;done) | (unfold builtin at h;exact RP.value_no_enter h)
theorem Zgi{D:World→Prop}{o:Oper}{a:Act}{w:World}{v:Value}(ho:Zbb o.op=true)(h:o.quietAt P a D w v){K:Act→World→Prop}(hk:K (a.put o.dst v) w):o.wp P a w K (fun _ _ _=>False):=by
 unfold Oper.quietAt at h;unfold Oper.wp;have gq:=@Zs9 P o a w;generalize (execOp a.eval o).run P w=r at *
 cases r with
 | ok n w' =>
  cases n<;>simp only[Oper.quietUpon] at h<;>simp only[Oper.upon]
  case value u=>obtain⟨rfl,rfl⟩:=h;exact hk
  case skip=>obtain⟨rfl,rfl⟩:=h;exact hk
  case enter f args=>exact(gq ho rfl).elim
 | halt x w'=>simp only[Oper.quietUpon] at h
def Yv:List (Nat×(World→Prop))→(Nat→Bool)→World→Prop
 | [],_,_=>True
 | c::cs,b,w=>(b c.1=true∨c.2 w)∧Yv cs b w
theorem Yv.get:∀ {cs:List (Nat×(World→Prop))} {b:Nat→Bool} {w:World},Yv cs b w→∀ c∈cs,b c.1=true∨c.2 w
 | [],_,_,_,c,hc=>by cases hc
 | d::cs,b,w,h,c,hc=>by
  rcases List.mem_cons.1 hc with rfl|hc
  ·exact h.1
  ·exact Yv.get h.2 c hc
theorem Yv.mono:∀ {cs:List (Nat×(World→Prop))} {b b':Nat→Bool} {w:World},(∀ s,b s=true→b' s=true)→Yv cs b w→Yv cs b' w
 | [],_,_,_,_,_=>trivial
 | _::_,_,_,_,hb,h=>⟨h.1.imp (hb _) id,Yv.mono hb h.2⟩
theorem Yv.congr{cs:List (Nat×(World→Prop))}{b b':Nat→Bool}{w:World}(hb:∀ s,b s=b' s)(h:Yv cs b w):Yv cs b' w:=h.mono (fun s hs=>by rw[← hb s];exact hs)
def upB (listed:Array Bool) (s:Nat):Bool:=listed.getD s false
def Zrp (P:Program) (md:Region.Mode) (ops:Array Oper) (cs:List (Nat×(World→Prop))) (Q:Act→World→Prop):Nat→Array Bool→Act→World→Prop
 | 0,listed,a,w=>Region.ready md ops listed=[]∧Q a w
 | f+1,listed,a,w=>Region.ready md ops listed≠[]∧∀ i∈Region.ready md ops listed,
   wpOp P ops (fun _ _ _=>False) i (fun a' w'=>Yv cs (upB (listed.setIfInBounds i true)) w'∧Zrp P md ops cs Q f (listed.setIfInBounds i true) a' w') a w
def Zt (P:Program) (ops:Array Oper) (md:Region.Mode) (cs:List (Nat×(World→Prop))) (i:Nat) (o:Oper) (v:Value) (a:Act):Prop :=
 (∃ c∈cs,RP.reachB md ops 4 c.1 i=true∧YieldsIn P ops c.2 o v a)∨YieldsIn P ops (fun _=>True) o v a
theorem Zt.of_same{i:Nat}{o:Oper}{v:Value}{a a':Act}(hy:Zt P ops md cs i o v a)(he:execOp a'.eval o=execOp a.eval o)
  (hw:Region.wanted o (yielded ops a'.tmps)=Region.wanted o (yielded ops a.tmps)):Zt P ops md cs i o v a' :=
 hy.imp (fun ⟨c,hc,h1,h2⟩=>⟨c,hc,h1,h2.of_same he hw⟩) (fun h=>h.of_same he hw)
theorem Zky{i:Nat}{o:Oper}{v:Value}{a:Act}{w:World}{listed:Array Bool}(hi:ops[i]?=some o)(gq:Zbb o.op=true)(inv:RP.RInv md ops listed)(hr:i∈Region.ready md ops listed)(hs:Yv cs (upB listed) w)
  (hy:Zt P ops md cs i o v a) {K:Act→World→Prop} (hk:K (a.put o.dst v) w):wpOp P ops (fun _ _ _=>False) i K a w:=by
 have Gm:∀ D:World→Prop,D w→YieldsIn P ops D o v a→wpOp P ops (fun _ _ _=>False) i K a w:=fun D hD h=>by
  unfold wpOp;simp only[hi];rcases h with⟨h1,h2⟩|⟨h1,rfl⟩
  ·simp only[h1,if_true];exact .inl (Zgi gq (h2 w hD) hk)
  ·simp only[h1,Bool.false_eq_true,if_false];exact hk
 rcases hy with⟨c,hc,hw,h⟩|h
 ·refine Gm c.2 ?_ h;rcases hs.get c hc with hs|hs
  ·have:=RP.reach_listed inv 4 c.1 i hw hs
   rw[getD_both (mem_ready.1 hr).1] at this;cases this
  ·exact hs
 ·exact Gm _ trivial h
theorem Zrv{j:Nat}{oi oj:Oper}{v:Value}(hj:ops[j]?=some oj)(cD:oi.apart ops oj=true)
  (hsi:∀ cs b,oi.op ≠ .select cs b) (hsj:∀ cs b,oj.op ≠ .select cs b) {i:Nat} {K:Act→World→Prop} {a:Act} {w:World}
  (hy:Zt P ops md cs i oi v a) (h:wpOp P ops (fun _ _ _=>False) j K (a.put oi.dst v) w) :
  wpOp P ops (fun _ _ _=>False) j (fun a' w'=>Zt P ops md cs i oi v a'∧K (a'.put oi.dst v) w') a w:=by
 obtain⟨h1,h2,h3⟩:=Oper.apart_spec cD;have GF:∀ (a:Act),Zt P ops md cs i oi v a→∀ u,Zt P ops md cs i oi v (a.put oj.dst u):=fun a hy u =>
  hy.of_same (execOp_put oi hsi a oj.dst u h3) (wanted_put oi a oj.dst u h3)
 have DK:∀ d,Zt P ops md cs i oi v ({ a with defers:=d::a.defers }:Act):=fun d=>hy.of_same rfl rfl
 unfold wpOp at *
 simp only[hj] at *
 rw[wanted_put oj a oi.dst v h1] at h;split
 ·rename_i hw
  simp only[hw,if_true] at h;left;rcases h with h|⟨_,_,_,hf⟩
  ·unfold Oper.wp at *
   rw[execOp_put oj hsj a oi.dst v h1] at h;generalize (execOp a.eval oj).run P w=r at *
   cases r with
   | ok n w' =>
    cases n<;>simp only[Oper.upon] at h ⊢
    case value u=>exact⟨GF a hy u,by rw[← Act.put_comm a v u h2];exact h⟩
    case skip=>exact⟨GF a hy undef,by rw[← Act.put_comm a v undef h2];exact h⟩
    case defer d =>
     refine⟨GF _ (DK d) undef,?_⟩;rw[Act.put_defers] at h;rw[← Act.put_comm _ v undef h2];exact h
    case enter f args =>
     exact cm_ h (fun e w'' he=>by
      cases e
      case returned u=>exact⟨GF a hy u,by rw[← Act.put_comm a v u h2];exact he⟩
      case panicked c=>exact he
      case outgrown=>obtain⟨_,_,hf⟩:=he;exact hf.elim)
    case row row args=>exact Rows.mono h (fun u w'' he=>⟨GF a hy u,by rw[← Act.put_comm a v u h2];exact he⟩)
    all_goals exact h
   | halt x w'=>cases x<;>simp only[Oper.upon] at h<;>exact h.elim
  ·exact hf.elim
 ·rename_i hw
  simp only[hw] at h;exact⟨GF a hy _,by rw[← Act.put_comm a v undef h2];exact h⟩
theorem Zof{i:Nat}{oi:Oper}{v:Value}{Q:Act→World→Prop}(hi:ops[i]?=some oi)(his:∀ c∈cs,i≠c.1)(gq:Zbb oi.op=true)(hsel:∀ (j:Nat) (o:Oper) cs b,ops[j]?=some o→o.op ≠ .select cs b):
  ∀ (f:Nat) (listed:Array Bool) (a:Act) (w:World),RP.RInv md ops listed →
   (∀ j oj,ops[j]?=some oj→j≠i→listed.getD j true=false→(∀ e∈oj.after,Region.binds md e=true→e.on≠i)→oi.apart ops oj=true) →
   i∈Region.ready md ops listed→Zt P ops md cs i oi v a→Yv cs (upB listed) w →
   Zrp P md ops cs Q f (listed.setIfInBounds i true) (a.put oi.dst v) w→Zrp P md ops cs Q (f+1) listed a w:=by
 have gE:∀ (listed:Array Bool) (w:World),Yv cs (upB listed) w→Yv cs (upB (listed.setIfInBounds i true)) w:=fun listed w h=>h.mono (fun s hs=>getD_set_true hs)
 have iK:∀ (cs':List (Nat×(World→Prop))),(∀ c∈cs',i≠c.1)→∀ (listed:Array Bool) (w:World),Yv cs' (upB (listed.setIfInBounds i true)) w→Yv cs' (upB listed) w:=by
  intro cs'
  induction cs' with
  | nil=>intro _ _ _ _;trivial
  | cons c cs' ih =>
   intro D5 listed w h;refine⟨h.1.imp (fun hb=>?_) id,ih (fun d hd=>D5 d (List.mem_cons_of_mem _ hd)) listed w h.2⟩
   unfold upB at hb ⊢;rw[getD_set_ne false (D5 c (List.mem_cons_self ..))] at hb;exact hb
 intro f
 induction f with
 | zero =>
  intro listed a w inv _ hr hy hs H;refine⟨fun h=>(by rw[h] at hr;cases hr),fun j hj=>?_⟩
  by_cases G7:j=i
  ·subst G7;exact Zky hi gq inv hr hs hy ⟨gE _ _ hs,H⟩
  ·have:=ready_mono hj G7
   rw[H.1] at this;cases this
 | succ f ih =>
  intro listed a w inv hfree hr hy hs H;have FR:=(mem_ready.1 hr).1;refine⟨fun h=>(by rw[h] at hr;cases hr),fun j hj=>?_⟩
  by_cases G7:j=i
  ·subst G7;exact Zky hi gq inv hr hs hy ⟨gE _ _ hs,H⟩
  ·have h1:=H.2 j (ready_mono hj G7);obtain⟨hjun,oj,hoj,GA⟩:=mem_ready.1 hj;have EW:∀ e∈oj.after,Region.binds md e=true→e.on≠i:=fun e he hb heq=>by
    have h1:=GA e he hb;rw[heq,getD_both FR] at h1;cases h1
   have h2:=Zrv hoj (hfree j oj hoj G7 hjun EW) (fun cs b=>hsel i oi cs b hi) (fun cs b=>hsel j oj cs b hoj) hy h1
   have FG:∀ k ok,ops[k]?=some ok→k≠i→(listed.setIfInBounds j true).getD k true=false →
     (∀ e∈ok.after,Region.binds md e=true→e.on≠i)→oi.apart ops ok=true:=fun k ok hk DX FR Eb=>by
    refine hfree k ok hk DX ?_ Eb
    by_cases Dq:j=k
    ·subst Dq;exact hjun
    ·rw[getD_set_ne true Dq] at FR;exact FR
   have eH:=ready_mono hr (Ne.symm G7);refine wpOp_mono (fun a' w' h3=>?_) h2
   obtain⟨hy',en,H'⟩:=h3;have fg:Yv cs (upB (listed.setIfInBounds j true)) w':=by
    rw[Array.setIfInBounds_comm _ _ (Ne.symm G7)] at en;exact iK cs his _ _ en
   refine⟨fg,ih (listed.setIfInBounds j true) a' w' (inv.set hj) FG eH hy' fg ?_⟩;rw[Array.setIfInBounds_comm _ _ G7];exact H'
def Zql (md:Region.Mode) (ops:Array Oper) (ss:List Nat):List (Nat×Nat)→Array Bool→Bool
 | [],listed=>(Region.ready md ops listed).isEmpty
 | (k,i)::l,listed =>
  (if k=0 then decide (Region.ready md ops listed=[i])
  else (Region.ready md ops listed).contains i&&Region.free md ops listed i&&(match ops[i]? with | some o=>Zbb o.op | none=>false)&&(ss.all fun s=>decide (i≠s))&&(k==1||RP.reachB md ops 4 (k-2) i)) &&
  Zql md ops ss l (listed.setIfInBounds i true)
def Vs (P:Program) (ops:Array Oper) (cs:List (Nat×(World→Prop))) (Q:Act→World→Prop):List (Nat×Nat)→(Nat→Bool)→Act→World→Prop
 | [],_,a,w=>Q a w
 | (k,i)::l,b,a,w =>
  if k=0 then wpList P ops (fun e a' w'=>e = .normal∧Yv cs (fun s=>b s||i==s) w'∧Vs P ops cs Q l (fun s=>b s||i==s) a' w') (ops[i]?).toList a w
  else if k=1 then wpQuiet P ops (fun _=>True) (fun a'=>Vs P ops cs Q l b a' w) (ops[i]?).toList a
  else ∃ c∈cs,c.1=k-2∧wpQuiet P ops c.2 (fun a'=>Vs P ops cs Q l b a' w) (ops[i]?).toList a
theorem Yv.congr_on:∀ {cs:List (Nat×(World→Prop))} {b b':Nat→Bool} {w:World},(∀ c∈cs,b c.1=b' c.1)→Yv cs b w→Yv cs b' w
 | [],_,_,_,_,_=>trivial
 | c::cs,b,b',w,hb,h=>⟨h.1.imp (fun h1=>by rw[← hb c (List.mem_cons_self ..)];exact h1) id,Yv.congr_on (fun d hd=>hb d (List.mem_cons_of_mem _ hd)) h.2⟩
theorem Ze6{Q:Act→World→Prop}(hsel:Region.noSelect ops=true):
  ∀ (l:List (Nat×Nat)) (b:Nat→Bool) (listed:Array Bool) (a:Act) (w:World),(∀ c∈cs,b c.1=upB listed c.1)→RP.RInv md ops listed→Yv cs (upB listed) w→Zql md ops (cs.map Prod.fst) l listed=true →
   Vs P ops cs Q l b a w→Zrp P md ops cs Q l.length listed a w
 | [],b,listed,a,w,_,_,_,hB,h=>⟨by simpa [Zql] using hB,h⟩
 | (k,i)::l,b,listed,a,w,hb,inv,hs,hB,h=>by
  simp only[Zql,Bool.and_eq_true] at hB;obtain⟨GK,hB2⟩:=hB
  by_cases hk:k=0
  ·subst hk;simp only[if_true,decide_eq_true_eq] at GK;have hr:i∈Region.ready md ops listed:=by rw[GK];exact List.mem_singleton.2 rfl
   obtain⟨FR,o,ho,_⟩:=mem_ready.1 hr;have H9:i<listed.size:=by rw[inv.size];exact(Array.getElem?_eq_some_iff.1 ho).1
   have dT:∀ c∈cs,(b c.1||i==c.1)=upB (listed.setIfInBounds i true) c.1:=fun c hc=>by
    rw[hb c hc];unfold upB
    by_cases his:i=c.1
    ·rw[his] at H9 ⊢;simp[H9]
    ·rw[getD_set_ne false his];simp[his]
   refine⟨by rw[GK];simp,fun j hj=>?_⟩
   rw[GK] at hj;obtain rfl:=List.mem_singleton.1 hj;simp only[Vs,if_true,ho,Option.toList] at h;have h2:wpOp P ops (fun e a' w'=>e = .normal∧Yv cs (fun s=>b s||j==s) w'∧Vs P ops cs Q l (fun s=>b s||j==s) a' w') j (fun a' w'=>Yv cs (fun s=>b s||j==s) w'∧Vs P ops cs Q l (fun s=>b s||j==s) a' w') a w:=by
    unfold wpOp;simp only[ho];simp only[wpList,true_and] at h;exact h
   have h3:=RP.wpOp_strong (fun e a' w' hq=>hq.1) h2
   refine wpOp_mono (fun a' w' h4=>?_) h3
   have fg:Yv cs (upB (listed.setIfInBounds j true)) w':=h4.1.congr_on dT;exact⟨fg,Ze6 hsel l _ _ a' w' dT (inv.set hr) fg hB2 h4.2⟩
  ·rw[if_neg hk] at GK;simp only[Bool.and_eq_true,Bool.or_eq_true,beq_iff_eq,List.all_eq_true,decide_eq_true_eq] at GK;obtain⟨⟨⟨⟨hr,hf⟩,gq⟩,his⟩,hw⟩:=GK;have eH:i∈Region.ready md ops listed:=by simpa using hr
   obtain⟨_,o,ho,_⟩:=mem_ready.1 eH;have DV:Zbb o.op=true:=by rw[ho] at gq;exact gq
   have io:∀ c∈cs,i≠c.1:=fun c hc=>his c.1 (List.mem_map.2 ⟨c,hc,rfl⟩)
   have fg:Yv cs (upB (listed.setIfInBounds i true)) w:=hs.mono (fun s hs=>getD_set_true hs)
   simp only[Vs,if_neg hk] at h;have Em:∃ v,Zt P ops md cs i o v a∧Vs P ops cs Q l b (a.put o.dst v) w:=by
    by_cases h2:k=1
    ·rw[if_pos h2] at h;obtain⟨v,hy,hK⟩:=yieldsIn_of_qOp ho (RP.qOp_of_list ho h);exact⟨v,.inr hy,hK⟩
    ·rw[if_neg h2] at h;obtain⟨c,hc,hck,h⟩:=h;obtain⟨v,hy,hK⟩:=yieldsIn_of_qOp ho (RP.qOp_of_list ho h);exact⟨v,.inl ⟨c,hc,by rw[hck];exact hw.resolve_left h2,hy⟩,hK⟩
   obtain⟨v,hy,hK⟩:=Em;have HU:∀ c∈cs,b c.1=upB (listed.setIfInBounds i true) c.1:=fun c hc=>by
    rw[hb c hc];unfold upB;rw[getD_set_ne false (io c hc)]
   exact Zof ho io DV (Region.noSelect_spec hsel) l.length listed a w inv (Region.free_spec ho hf) eH hy hs
    (Ze6 hsel l b _ _ w HU (inv.set eH) fg hB2 hK)
theorem Qan{ord:List (Nat×Nat)}{l:List Oper}{a:Act}{w:World}{Q:Act→World→Prop}(hsel:Region.noSelect l.toArray=true)(hord:Zql .any l.toArray (cs.map Prod.fst) ord (Array.replicate l.length false)=true)
  (hC:Yv cs (fun _=>false) w) (h:Vs P l.toArray cs Q ord (fun _=>false) a w):Zrp P .any l.toArray cs Q ord.length (Array.replicate l.length false) a w:=by
 have hf:∀ s,upB (Array.replicate l.length false) s=false:=fun s=>getD_replicate_false _ _
 refine Ze6 hsel ord _ _ a w (fun c _=>(hf c.1).symm) ⟨by simp,fun j oj _ hl=>(by rw[getD_replicate_false] at hl;cases hl)⟩ (hC.congr_on (fun c _=>(hf c.1).symm)) hord h
theorem Zho{i l0 n:Nat}{a:Act}{w:World}{K K':Act→World→Prop}{Q':Exit→Act→World→Prop}(bU:∀ o c,ops[i]?=some o→o.op ≠ .defer c)(_hnr:∀ o c,ops[i]?=some o→o.op ≠ .go c)(hk:∀ a w,K a w→K' a w)
  (h:wpOp P ops (fun _ _ _=>False) i K a w):wpOpIn (Fence.wide.inRound l0) n P ops Q' i K' a w:=by
 unfold wpOp at h;unfold wpOpIn;split
 ·rename_i ho;simp only[ho] at h;exact hk _ _ h
 ·rename_i o ho
  simp only[ho] at h;split
  ·rename_i hw
   simp only[hw,if_true] at h;rcases h with h|⟨_,_,_,hf⟩
   ·refine⟨fun _ _=>trivial,?_⟩
    unfold Oper.wp at h;rw[show (Fence.wide.inRound l0).round=some l0 from rfl,Oper.semAt_some l0 _ _ (fun c=>bU o c ho)]
    generalize (execOp a.eval o).run P w=r at *
    cases r with
    | ok x w' =>
     cases x<;>simp only[Oper.upon,Oper.uponIn] at h ⊢
     case value=>exact hk _ _ h
     case skip=>exact hk _ _ h
     case defer=>exact hk _ _ h
     case enter f args =>
      refine⟨fun hd=>(by cases hd),?_⟩
      have h2:=Calls.mono h (R':=fun e w''=>match e,w'' with
       | .returned v,w''=>K' (a.put o.dst v) w''
       | .panicked chain,w''=>Q' (.panic chain) a w''
       | .outgrown,_=>LetsOut Q') (fun e w'' he=>by cases e<;>first | exact hk _ _ he | exact he.elim | (obtain⟨_,_,hf⟩:=he;exact hf.elim))
      exact CallsIn.inRound l0 (callsIn_wide.2 h2)
     case row row args=>exact⟨fun hd=>(by cases hd),fun c cs _=>let ⟨v,w',r,s⟩:=h c cs;⟨v,w',hk _ _ r,stepsIn_wide.2 s⟩⟩
    | halt x w'=>cases x<;>simp only[Oper.upon] at h<;>exact h.elim
   ·exact hf.elim
  ·rename_i hw;simp only[hw] at h;exact⟨fun _ _=>trivial,hk _ _ h⟩
def Zje (ops:Array Oper):Bool:=ops.all fun o=>match o.op with | .defer _ | .go _=>false | _=>true
theorem Zdw{ops:Array Oper}(h:Zje ops=true){i:Nat}{o:Oper}(hi:ops[i]?=some o):(∀ c,o.op ≠ .defer c)∧(∀ c,o.op ≠ .go c):=by
 have hm:o∈ops:=Array.mem_of_getElem? hi;have:=Array.all_eq_true'.1 h o hm
 refine⟨fun c hc=>?_,fun c hc=>?_⟩<;>rw[hc] at this<;>cases this
theorem Zhk{l0 n:Nat}{Q:Act→World→Prop}{Q':Exit→Act→World→Prop}(EM:Zje ops=true)(hQ:∀ a w,Q a w→Q' .normal a w):
  ∀ (f:Nat) (listed:Array Bool) (a:Act) (w:World),Zrp P md ops cs Q f listed a w→wpAnyIn (Fence.wide.inRound l0) n P md ops Q' f listed a w
 | 0,_,_,_,h=>⟨h.1,hQ _ _ h.2⟩
 | f+1,_,_,_,h=>⟨fun h0=>absurd h0 h.1,fun i hi=>Zho (fun _ c ho=>(Zdw EM ho).1 c) (fun _ c ho=>(Zdw EM ho).2 c) (fun a' w' h'=>Zhk EM hQ f _ a' w' h'.2) (h.2 i hi)⟩
theorem Qo{id l0 n:Nat}{Q:Exit→Act→World→Prop}{a:Act}{w:World}{l:List Oper}(ord:List (Nat×Nat))(cs:List (Nat×(World→Prop)))(hm:P.follows .mixedOrders=true)
  (hB:(Region.noSelect l.toArray&&decide (ord.length=l.length)&&Zje l.toArray&&Zql .any l.toArray (cs.map Prod.fst) ord (Array.replicate l.length false))=true)
  (hC:Yv cs (fun _=>false) { w with drawn:=w.drawn+1 }) (h:Vs P l.toArray cs (fun a' w'=>Q .normal a' w') ord (fun _=>false) a { w with drawn:=w.drawn+1 }):(Code.region id l.toArray true).wpIn (Fence.wide.inRound l0) n P Q a w:=by
 simp only[Bool.and_eq_true,decide_eq_true_eq] at hB;obtain⟨⟨⟨hsel,gh⟩,EM⟩,hord⟩:=hB;refine wpIn_region_any hm ?_;have:=Zhk (l0:=l0) (n:=n) (Q':=Q) EM (fun a w h=>h) _ _ _ _ (Qan hsel hord hC h)
 rw[gh] at this
 simpa using this
theorem Qz{s i:Nat}{Q:Act→World→Prop}{l:List (Nat×Nat)}{b:Nat→Bool}{a:Act}{w:World}{lo:List Oper}(c:Nat×(World→Prop))(hc:c∈cs)(hs:c.1=s)(h:wpQuiet P lo.toArray c.2 (fun a'=>Vs P lo.toArray cs Q l b a' w) ((lo.drop i).take 1) a):Vs P lo.toArray cs Q ((s+2,i)::l) b a w:=by
 simp only[Vs,RP.pick_one];rw[if_neg (by omega),if_neg (by omega)]
 exact⟨c,hc,by omega,h⟩
theorem Vi{i:Nat}{Q:Act→World→Prop}{l:List (Nat×Nat)}{b:Nat→Bool}{a:Act}{w:World}{lo:List Oper}(h:wpQuiet P lo.toArray (fun _=>True) (fun a'=>Vs P lo.toArray cs Q l b a' w) ((lo.drop i).take 1) a):Vs P lo.toArray cs Q ((1,i)::l) b a w:=by
 simp only[Vs,RP.pick_one];exact h
theorem Qa{i:Nat}{Q:Act→World→Prop}{l:List (Nat×Nat)}{b:Nat→Bool}{a:Act}{w:World}{lo:List Oper}
  (h:wpList P lo.toArray (fun e a' w'=>e = .normal∧Yv cs (fun s=>b s||i==s) w'∧Vs P lo.toArray cs Q l (fun s=>b s||i==s) a' w') ((lo.drop i).take 1) a w):Vs P lo.toArray cs Q ((0,i)::l) b a w:=by
 simp only[Vs,RP.pick_one];exact h
end
end Go.Proofs.YtnjedhgcfeoemaaGreatDoor
