/- Lemmas for the laws of this seat, part 2. -/
import Derived.StillTail
import Derived.Lib.QuietBelow
import Derived.Test.YtnjedhgcfeoemaaGreatDoorRows
import Derived.Stop.LaidErr
import Derived.Lib.LaidTab
import Derived.ProofKit
import Derived.LaidMore
import Derived.OpenShut
import Derived.Stop.Joined
import Derived.MakeChecks
import Derived.BigQuiet
import Derived.Maps.AppendAt
import Derived.RangeFuncNested
import Derived.RangeFuncBound
import Derived.RangeFuncCalls
import Derived.RangeFuncLeaves
import Derived.Shelf.Abstract
import Derived.Shelf.RegionOpen
import Derived.OwnWalkIn
import Derived.TacticsInMore
import Derived.LoopNIn
import Derived.LoopIn
import Derived.Laws.BitsLemmas
import Derived.Laws.Bits64
import Derived.OrdersIn
import Derived.Test.YtnjedhgcfeoemaaGreatDoorWj1
set_option maxRecDepth 100000
set_option maxHeartbeats 16000000
namespace Go.Proofs.YtnjedhgcfeoemaaGreatDoor
open Go.RowKit
def Zd1 (a b:Int):Int:=if a<b then -1 else if a=b then 0 else 1
theorem Zx4(a b:Int)(ha:a<0)(hb:b<0):Zaz b.natAbs a.natAbs=Zd1 a b:=by
 unfold Zaz Zd1
 by_cases h1:a<b
 ·rw[if_pos h1,if_pos (by omega)]
 ·rw[if_neg h1,if_neg (by omega)]
  by_cases h2:a=b
  ·rw[if_pos h2,if_pos (by omega)]
  ·rw[if_neg h2,if_neg (by omega)]
theorem Zx3(a b:Int)(ha:0≤a)(hb:0≤b):Zaz a.natAbs b.natAbs=Zd1 a b:=by
 unfold Zaz Zd1
 by_cases h1:a<b
 ·rw[if_pos h1,if_pos (by omega)]
 ·rw[if_neg h1,if_neg (by omega)]
  by_cases h2:a=b
  ·rw[if_pos h2,if_pos (by omega)]
  ·rw[if_neg h2,if_neg (by omega)]
theorem Zf(a:Int):(a<0∧a.sign = -1)∨(a=0∧a.sign=0)∨(0<a∧a.sign=1):=by
 rcases Int.lt_trichotomy a 0 with h|h|h
 ·exact .inl ⟨h,Int.sign_eq_neg_one_of_neg h⟩
 ·subst h;exact .inr (.inl ⟨rfl,rfl⟩)
 ·exact .inr (.inr ⟨h,Int.sign_eq_one_of_pos h⟩)
theorem Zj1(a b:Int)(h:a.sign<b.sign):a<b:=by
 rcases Zf a with⟨h1,e1⟩|⟨h1,e1⟩|⟨h1,e1⟩<;>rcases Zf b with⟨h2,e2⟩|⟨h2,e2⟩|⟨h2,e2⟩<;>omega
theorem Zq3(a b:Int)(h:a.sign=b.sign):(a<0∧b<0)∨(0≤a∧0≤b):=by
 rcases Zf a with⟨h1,e1⟩|⟨h1,e1⟩|⟨h1,e1⟩<;>rcases Zf b with⟨h2,e2⟩|⟨h2,e2⟩|⟨h2,e2⟩<;>omega
theorem Zco(w:World)(a b:Int)(ha:Za7 a)(hb:Za7 b):
  Kc Tryz.prog 114 #[.string (itx a),.string (itx b)] w (.int .i64 (Zd1 a b)):=by
 unfold Kc;have Hg1:=hd_ (fun W=>Zo W a)
 have Hg2:=hd_ (fun W=>Zo W b)
 have Hsa:=hd_ (fun W=>Vt W a)
 have Hsb:=hd_ (fun W=>Vt W b)
 have ha':(dec a.natAbs).size≤10000000:=Nat.le_trans ha (by decide)
 have hb':(dec b.natAbs).size≤10000000:=Nat.le_trans hb (by decide)
 rcases Int.lt_trichotomy a.sign b.sign with hs|hs|hs
 ·have Hv:Hid (Zd1 a b = -1):=by
   show _=_
   unfold Zd1;rw[if_pos (Zj1 a b hs)]
  have hne:(a.sign != b.sign)=true:=by rw[bne_iff_ne];omega
  rw[Hv.out];clear Hsa Hsb;generalize a.sign=x at *
  generalize b.sign=y at *
  generalize itx a=s at *
  generalize itx b=t at *
  go_enter Tryz.func114,Tryz.ntmps114
  go_wp2_with fail
  refine cm_ (Hg1.out w) ?_;rintro e w1 ⟨rfl,hb1⟩;have Hb1:=hd_ hb1;clear hb1
  go_wp2_with fail
  refine cm_ (Hg2.out w1) ?_;rintro e w2 ⟨rfl,hb2⟩;have Hb2:=hd_ (Hb1.out.trans (hb2.mono Hb1.out.size));clear hb2 Hb1;go_wp2;go_ret;exact⟨rfl,Hb2.out⟩
 ·rcases Zq3 a b hs with⟨h1,h2⟩ | ⟨h1,h2⟩
  ·have Hcm:=hd_ (fun W=>Za6 W b.natAbs a.natAbs hb' ha')
   rw[Zx4 a b h1 h2] at Hcm;rw[decide_eq_true h1] at Hsa;have hne:(b.sign != b.sign)=false:=by simp
   rw[hs] at Hg1;clear hs h1 h2 ha' hb';generalize Zd1 a b=c at *
   generalize b.sign=y at *
   generalize itx a=s at *
   generalize itx b=t at *
   generalize dec a.natAbs=sm at *
   generalize dec b.natAbs=tm at *
   go_enter Tryz.func114,Tryz.ntmps114
   go_wp2_with fail
   refine cm_ (Hg1.out w) ?_;rintro e w1 ⟨rfl,hb1⟩;have Hb1:=hd_ hb1;clear hb1
   go_wp2_with fail
   refine cm_ (Hg2.out w1) ?_;rintro e w2 ⟨rfl,hb2⟩;have Hb2:=hd_ (Hb1.out.trans (hb2.mono Hb1.out.size));clear hb2 Hb1
   go_wp2_with fail
   refine cm_ (Hsa.out w2) ?_;rintro e w3 ⟨rfl,hb3⟩;have Hb3:=hd_ (Hb2.out.trans (hb3.mono Hb2.out.size));clear hb3 Hb2
   go_wp2_with fail
   refine cm_ (Hsb.out w3) ?_;rintro e w4 ⟨rfl,hb4⟩;have Hb4:=hd_ (Hb3.out.trans (hb4.mono Hb3.out.size));clear hb4 Hb3
   go_wp2_with fail
   refine cm_ (Hcm.out w4) ?_;rintro e w5 ⟨rfl,hb5⟩;have Hb5:=hd_ (Hb4.out.trans (hb5.mono Hb4.out.size));clear hb5 Hb4;go_wp2;go_ret;exact⟨rfl,Hb5.out⟩
  ·have Hcm:=hd_ (fun W=>Za6 W a.natAbs b.natAbs ha' hb')
   rw[Zx3 a b h1 h2] at Hcm;rw[decide_eq_false (show ¬ a<0 by omega)] at Hsa
   have hne:(b.sign != b.sign)=false:=by simp
   rw[hs] at Hg1;clear hs h1 h2 ha' hb';generalize Zd1 a b=c at *
   generalize b.sign=y at *
   generalize itx a=s at *
   generalize itx b=t at *
   generalize dec a.natAbs=sm at *
   generalize dec b.natAbs=tm at *
   go_enter Tryz.func114,Tryz.ntmps114
   go_wp2_with fail
   refine cm_ (Hg1.out w) ?_;rintro e w1 ⟨rfl,hb1⟩;have Hb1:=hd_ hb1;clear hb1
   go_wp2_with fail
   refine cm_ (Hg2.out w1) ?_;rintro e w2 ⟨rfl,hb2⟩;have Hb2:=hd_ (Hb1.out.trans (hb2.mono Hb1.out.size));clear hb2 Hb1
   go_wp2_with fail
   refine cm_ (Hsa.out w2) ?_;rintro e w3 ⟨rfl,hb3⟩;have Hb3:=hd_ (Hb2.out.trans (hb3.mono Hb2.out.size));clear hb3 Hb2
   go_wp2_with fail
   refine cm_ (Hsb.out w3) ?_;rintro e w4 ⟨rfl,hb4⟩;have Hb4:=hd_ (Hb3.out.trans (hb4.mono Hb3.out.size));clear hb4 Hb3
   go_wp2_with fail
   refine cm_ (Hcm.out w4) ?_;rintro e w5 ⟨rfl,hb5⟩;have Hb5:=hd_ (Hb4.out.trans (hb5.mono Hb4.out.size));clear hb5 Hb4;go_wp2;go_ret;exact⟨rfl,Hb5.out⟩
 ·have Hv:Hid (Zd1 a b=1):=by
   show _=_
   have:=Zj1 b a hs
   unfold Zd1;rw[if_neg (by omega),if_neg (by omega)]
  have hne:(a.sign != b.sign)=true:=by rw[bne_iff_ne];omega
  rw[Hv.out];clear Hsa Hsb;generalize a.sign=x at *
  generalize b.sign=y at *
  generalize itx a=s at *
  generalize itx b=t at *
  go_enter Tryz.func114,Tryz.ntmps114
  go_wp2_with fail
  refine cm_ (Hg1.out w) ?_;rintro e w1 ⟨rfl,hb1⟩;have Hb1:=hd_ hb1;clear hb1
  go_wp2_with fail
  refine cm_ (Hg2.out w1) ?_;rintro e w2 ⟨rfl,hb2⟩;have Hb2:=hd_ (Hb1.out.trans (hb2.mono Hb1.out.size));clear hb2 Hb1;go_wp2;go_ret;exact⟨rfl,Hb2.out⟩
theorem Zjb(n b:Nat):(n:Int)/(b:Int)=((n/b:Nat):Int)∧(n:Int)%(b:Int)=((n%b:Nat):Int):=⟨rfl,rfl⟩
theorem Zbd(n b:Nat)(hb:0<b)(h:n%b=0): -(n:Int)/(b:Int) = -((n/b:Nat):Int) ∧ -(n:Int)%(b:Int)=0:=by
 rw[Int.ediv_emod_unique (by omega)]
 have h1:=Nat.div_add_mod n b;rw[h] at h1;have h2:((b*(n/b)+0:Nat):Int)=(n:Int):=congrArg Nat.cast h1;rw[Nat.add_zero,Int.natCast_mul] at h2;refine⟨?_,by omega,by omega⟩
 rw[Int.mul_neg,h2];omega
theorem Zb3(n b:Nat)(hb:0<b)(h:n%b≠0): -(n:Int)/(b:Int) = -((n/b:Nat):Int)-1 ∧ -(n:Int)%(b:Int)=(b:Int)-((n%b:Nat):Int):=by
 rw[Int.ediv_emod_unique (by omega)]
 have h1:=Nat.div_add_mod n b;have h3:=Nat.mod_lt n hb;have h2:((b*(n/b)+n%b:Nat):Int)=(n:Int):=congrArg Nat.cast h1;rw[Int.natCast_add,Int.natCast_mul] at h2;refine⟨?_,by omega,by omega⟩
 rw[Int.mul_sub,Int.mul_neg,Int.mul_one];omega
theorem Yc(w:World)(a:Int)(b:Nat)(ha:Za7 a)(hb:Num b)(hb0:0<b)(hab:Num (a.natAbs+1))(L:Qb w):
  Kc Tryz.prog 163 #[.string (itx a),.string (dec b)] w (.tuple #[.string (itx (a/(b:Int))),.string (itx (a%(b:Int))),.int .i64 0]):=by
 unfold Kc;have hz:=Zb b;rw[decide_eq_false (show ¬ b=0 by omega)] at hz
 have Hl1:=hd_ (fun W=>Zw W a ha 18 (by decide))
 have Hl2:=hd_ (fun W=>Zdd W b hb 18 (by decide))
 have HL:=hd_ L;have Hsa:=hd_ (fun W=>Vt W a)
 have Hsb:Hid (∀ W,Kc Tryz.prog 68 #[.string (dec b)] W (.tuple #[.bool false,.string (dec b)])):=fun W=>by
  have:=Vt W (b:Int)
  rw[Kj,decide_eq_false (show ¬ (b:Int)<0 by omega)] at this
  exact this
 have Hdm:Hid (∀ W,Below w.heap.size w W→Kc Tryz.prog 208 #[.string (dec a.natAbs),.string (dec b)] W (.tuple #[.string (dec (a.natAbs/b)),.string (dec (a.natAbs%b)),.int .i64 0])):=fun W hW=>by
  have:=Zei W a.natAbs b ha hb (HL.out.below hW)
  rw[if_neg (show ¬ b=0 by omega)] at this
  exact this
 have big:∀ (P:Prop),((∀ W,Kc Tryz.prog 72 #[.string (itx a),.int .i64 18] W (.tuple #[.int .i64 0,.bool false]))→P)→(((itx a).size≤18∧¬ (dec b).size≤18)→P)→(((itx a).size≤18∧(dec b).size≤18)→P)→P:=fun P h1 h2 h3=>by
  by_cases q1:(itx a).size≤18
  ·by_cases q2:(dec b).size≤18
   ·exact h3 ⟨q1,q2⟩
   ·exact h2 ⟨q1,q2⟩
  ·rw[if_neg q1] at Hl1;exact h1 Hl1.out
 clear L;refine big _ (fun hl1=>?_) (fun hl=>?_) (fun hl=>?_)
 ·have Hl:=hd_ hl1;clear hl1 Hl1 Hl2 big
  by_cases hn:a<0
  ·rw[decide_eq_true hn] at Hsa;obtain⟨n,rfl⟩:∃ n:Nat,a = -(n:Int):=⟨a.natAbs,by omega⟩
   have hN:Num n:=by
    have h:Num (-(n:Int)).natAbs:=ha;rw[show (-(n:Int)).natAbs=n by omega] at h
    exact h
   rw[show (-(n:Int)).natAbs=n by omega] at *
   by_cases hr:n%b=0
   ·obtain⟨e1,e2⟩:=Zbd n b hb0 hr;rw[e1,e2];have hzr:=Zb (n%b);rw[decide_eq_true hr] at hzr;have Hj1:=hd_ (fun W=>Vg W true (n/b) (Num.le hN (Nat.div_le_self _ _)))
    have Hj2:=hd_ (fun W=>Vg W false (n%b) (Num.le hN (Nat.mod_le _ _)))
    rw[show jz true (n/b) = -((n/b:Nat):Int) from rfl] at Hj1
    rw[show jz false (n%b)=((n%b:Nat):Int) from rfl,hr,show ((0:Nat):Int)=0 from rfl] at Hj2
    rw[hr] at hzr Hdm;clear e1 e2 hr hn;generalize itx (-((n/b:Nat):Int))=r1 at *
    generalize itx 0=r2 at *
    generalize itx (-(n:Int))=s at *
    generalize dec (n/b)=qd at *
    generalize dec 0=rd at *
    generalize dec n=sm at *
    generalize dec b=tm at *
    go_enter Tryz.func163,Tryz.ntmps163
    go_wp2_with fail
    refine cm_ (Hl.out w) ?_;rintro e w1 ⟨rfl,hb1⟩;have Hb1:=hd_ hb1;clear hb1 Hl
    go_wp2_with fail
    refine cm_ (Hsa.out w1) ?_;rintro e w2 ⟨rfl,hb2⟩;have Hb2:=hd_ (Hb1.out.trans (hb2.mono Hb1.out.size));clear hb2 Hb1 Hsa
    go_wp2_with fail
    refine cm_ (Hsb.out w2) ?_;rintro e w3 ⟨rfl,hb3⟩;have Hb3:=hd_ (Hb2.out.trans (hb3.mono Hb2.out.size));clear hb3 Hb2 Hsb
    go_wp2_with fail
    refine cm_ (Hdm.out w3 Hb3.out) ?_;rintro e w4 ⟨rfl,hb4⟩;have Hb4:=hd_ (Hb3.out.trans (hb4.mono Hb3.out.size));clear hb4 Hb3 Hdm
    go_wp2_with fail
    refine cm_ (Hj1.out w4) ?_;rintro e w5 ⟨rfl,hb5⟩;have Hb5:=hd_ (Hb4.out.trans (hb5.mono Hb4.out.size));clear hb5 Hb4 Hj1
    go_wp2_with fail
    refine cm_ (Hj2.out w5) ?_;rintro e w6 ⟨rfl,hb6⟩;have Hb6:=hd_ (Hb5.out.trans (hb6.mono Hb5.out.size));clear hb6 Hb5 Hj2;go_wp2
    go_ret3
    exact⟨rfl,Hb6.out⟩
   ·obtain⟨e1,e2⟩:=Zb3 n b hb0 hr;have hml:=Nat.mod_lt n hb0;have e3 : -((n/b:Nat):Int)-1 = -((n/b+1:Nat):Int):=by omega
    have e4:(b:Int)-((n%b:Nat):Int)=((b-n%b:Nat):Int):=by omega
    rw[e1,e2,e3,e4];have hzr:=Zb (n%b);rw[decide_eq_false hr] at hzr;have hn1:Num (n/b+1):=Num.le hab (Nat.succ_le_succ (Nat.div_le_self _ _));have Had:Hid (∀ W,Below w.heap.size w W→Kc Tryz.prog 74 #[.string (dec (n/b)),.string ⟨#[49]⟩] W (.string (dec (n/b+1)))):=fun W hW=>by
     have:=Zne W (n/b) 1 (Num.le hN (Nat.div_le_self _ _)) (Num.le hab (by omega)) (HL.out.below hW)
     rw[Vf] at this;exact this
    have Hsu:Hid (∀ W,Below w.heap.size w W→Kc Tryz.prog 76 #[.string (dec b),.string (dec (n%b))] W (.tuple #[.string (dec (b-n%b)),.int .i64 0])):=fun W hW=>by
     have:=Zih W b (n%b) hb (Num.le hN (Nat.mod_le _ _)) (HL.out.below hW)
     rw[if_neg (by omega)] at this
     exact this
    have Hj1:=hd_ (fun W=>Vg W true (n/b+1) hn1)
    have Hj2:=hd_ (fun W=>Vg W false (b-n%b) (Num.le hb (Nat.sub_le _ _)))
    rw[show jz true (n/b+1) = -((n/b+1:Nat):Int) from rfl] at Hj1
    rw[show jz false (b-n%b)=((b-n%b:Nat):Int) from rfl] at Hj2
    clear e1 e2 e3 e4 hr hn hml;generalize itx (-((n/b+1:Nat):Int))=r1 at *
    generalize itx ((b-n%b:Nat):Int)=r2 at *
    generalize itx (-(n:Int))=s at *
    generalize dec (n/b+1)=qe at *
    generalize dec (b-n%b)=re at *
    generalize dec (n/b)=qd at *
    generalize dec (n%b)=rd at *
    generalize dec n=sm at *
    generalize dec b=tm at *
    go_enter Tryz.func163,Tryz.ntmps163
    go_wp2_with fail
    refine cm_ (Hl.out w) ?_;rintro e w1 ⟨rfl,hb1⟩;have Hb1:=hd_ hb1;clear hb1 Hl
    go_wp2_with fail
    refine cm_ (Hsa.out w1) ?_;rintro e w2 ⟨rfl,hb2⟩;have Hb2:=hd_ (Hb1.out.trans (hb2.mono Hb1.out.size));clear hb2 Hb1 Hsa
    go_wp2_with fail
    refine cm_ (Hsb.out w2) ?_;rintro e w3 ⟨rfl,hb3⟩;have Hb3:=hd_ (Hb2.out.trans (hb3.mono Hb2.out.size));clear hb3 Hb2 Hsb
    go_wp2_with fail
    refine cm_ (Hdm.out w3 Hb3.out) ?_;rintro e w4 ⟨rfl,hb4⟩;have Hb4:=hd_ (Hb3.out.trans (hb4.mono Hb3.out.size));clear hb4 Hb3 Hdm
    go_wp2_with fail
    refine cm_ (Had.out w4 Hb4.out) ?_;rintro e w5 ⟨rfl,hb5⟩;have Hb5:=hd_ (Hb4.out.trans (hb5.mono Hb4.out.size));clear hb5 Hb4 Had
    go_wp2_with fail
    refine cm_ (Hsu.out w5 Hb5.out) ?_;rintro e w6 ⟨rfl,hb6⟩;have Hb6:=hd_ (Hb5.out.trans (hb6.mono Hb5.out.size));clear hb6 Hb5 Hsu
    go_wp2_with fail
    refine cm_ (Hj1.out w6) ?_;rintro e w7 ⟨rfl,hb7⟩;have Hb7:=hd_ (Hb6.out.trans (hb7.mono Hb6.out.size));clear hb7 Hb6 Hj1
    go_wp2_with fail
    refine cm_ (Hj2.out w7) ?_;rintro e w8 ⟨rfl,hb8⟩;have Hb8:=hd_ (Hb7.out.trans (hb8.mono Hb7.out.size));clear hb8 Hb7 Hj2;go_wp2
    go_ret3
    exact⟨rfl,Hb8.out⟩
  ·rw[decide_eq_false hn] at Hsa;obtain⟨n,rfl⟩:∃ n:Nat,a=(n:Int):=⟨a.natAbs,by omega⟩
   have hN:Num n:=ha;rw[show ((n:Int)).natAbs=n by omega] at *
   have Hj1:=hd_ (fun W=>Vg W false (n/b) (Num.le hN (Nat.div_le_self _ _)))
   have Hj2:=hd_ (fun W=>Vg W false (n%b) (Num.le hN (Nat.mod_le _ _)))
   rw[show jz false (n/b)=(n:Int)/(b:Int) from rfl] at Hj1
   rw[show jz false (n%b)=(n:Int)%(b:Int) from rfl] at Hj2
   clear hn;generalize itx ((n:Int)/(b:Int))=r1 at *
   generalize itx ((n:Int)%(b:Int))=r2 at *
   generalize itx (n:Int)=s at *
   generalize dec (n/b)=qd at *
   generalize dec (n%b)=rd at *
   generalize dec n=sm at *
   generalize dec b=tm at *
   go_enter Tryz.func163,Tryz.ntmps163
   go_wp2_with fail
   refine cm_ (Hl.out w) ?_;rintro e w1 ⟨rfl,hb1⟩;have Hb1:=hd_ hb1;clear hb1 Hl
   go_wp2_with fail
   refine cm_ (Hsa.out w1) ?_;rintro e w2 ⟨rfl,hb2⟩;have Hb2:=hd_ (Hb1.out.trans (hb2.mono Hb1.out.size));clear hb2 Hb1 Hsa
   go_wp2_with fail
   refine cm_ (Hsb.out w2) ?_;rintro e w3 ⟨rfl,hb3⟩;have Hb3:=hd_ (Hb2.out.trans (hb3.mono Hb2.out.size));clear hb3 Hb2 Hsb
   go_wp2_with fail
   refine cm_ (Hdm.out w3 Hb3.out) ?_;rintro e w4 ⟨rfl,hb4⟩;have Hb4:=hd_ (Hb3.out.trans (hb4.mono Hb3.out.size));clear hb4 Hb3 Hdm
   go_wp2_with fail
   refine cm_ (Hj1.out w4) ?_;rintro e w5 ⟨rfl,hb5⟩;have Hb5:=hd_ (Hb4.out.trans (hb5.mono Hb4.out.size));clear hb5 Hb4 Hj1
   go_wp2_with fail
   refine cm_ (Hj2.out w5) ?_;rintro e w6 ⟨rfl,hb6⟩;have Hb6:=hd_ (Hb5.out.trans (hb6.mono Hb5.out.size));clear hb6 Hb5 Hj2;go_wp2
   go_ret3
   exact⟨rfl,Hb6.out⟩
 ·rw[if_pos hl.1] at Hl1;rw[if_neg hl.2] at Hl2;clear hl big
  by_cases hn:a<0
  ·rw[decide_eq_true hn] at Hsa;obtain⟨n,rfl⟩:∃ n:Nat,a = -(n:Int):=⟨a.natAbs,by omega⟩
   have hN:Num n:=by
    have h:Num (-(n:Int)).natAbs:=ha;rw[show (-(n:Int)).natAbs=n by omega] at h
    exact h
   rw[show (-(n:Int)).natAbs=n by omega] at *
   by_cases hr:n%b=0
   ·obtain⟨e1,e2⟩:=Zbd n b hb0 hr;rw[e1,e2];have hzr:=Zb (n%b);rw[decide_eq_true hr] at hzr;have Hj1:=hd_ (fun W=>Vg W true (n/b) (Num.le hN (Nat.div_le_self _ _)))
    have Hj2:=hd_ (fun W=>Vg W false (n%b) (Num.le hN (Nat.mod_le _ _)))
    rw[show jz true (n/b) = -((n/b:Nat):Int) from rfl] at Hj1
    rw[show jz false (n%b)=((n%b:Nat):Int) from rfl,hr,show ((0:Nat):Int)=0 from rfl] at Hj2
    rw[hr] at hzr Hdm;clear e1 e2 hr hn;generalize itx (-((n/b:Nat):Int))=r1 at *
    generalize itx 0=r2 at *
    generalize itx (-(n:Int))=s at *
    generalize dec (n/b)=qd at *
    generalize dec 0=rd at *
    generalize dec n=sm at *
    generalize dec b=tm at *
    go_enter Tryz.func163,Tryz.ntmps163
    go_wp2_with fail
    refine cm_ (Hl1.out w) ?_;rintro e w1 ⟨rfl,hb1⟩;have Hb1:=hd_ hb1;clear hb1 Hl1
    go_wp2_with fail
    refine cm_ (Hl2.out w1) ?_;rintro e w2 ⟨rfl,hb2⟩;have Hb2:=hd_ (Hb1.out.trans (hb2.mono Hb1.out.size));clear hb2 Hb1 Hl2
    go_wp2_with fail
    refine cm_ (Hsa.out w2) ?_;rintro e w3 ⟨rfl,hb3⟩;have Hb3:=hd_ (Hb2.out.trans (hb3.mono Hb2.out.size));clear hb3 Hb2 Hsa
    go_wp2_with fail
    refine cm_ (Hsb.out w3) ?_;rintro e w4 ⟨rfl,hb4⟩;have Hb4:=hd_ (Hb3.out.trans (hb4.mono Hb3.out.size));clear hb4 Hb3 Hsb
    go_wp2_with fail
    refine cm_ (Hdm.out w4 Hb4.out) ?_;rintro e w5 ⟨rfl,hb5⟩;have Hb5:=hd_ (Hb4.out.trans (hb5.mono Hb4.out.size));clear hb5 Hb4 Hdm
    go_wp2_with fail
    refine cm_ (Hj1.out w5) ?_;rintro e w6 ⟨rfl,hb6⟩;have Hb6:=hd_ (Hb5.out.trans (hb6.mono Hb5.out.size));clear hb6 Hb5 Hj1
    go_wp2_with fail
    refine cm_ (Hj2.out w6) ?_;rintro e w7 ⟨rfl,hb7⟩;have Hb7:=hd_ (Hb6.out.trans (hb7.mono Hb6.out.size));clear hb7 Hb6 Hj2;go_wp2
    go_ret3
    exact⟨rfl,Hb7.out⟩
   ·obtain⟨e1,e2⟩:=Zb3 n b hb0 hr;have hml:=Nat.mod_lt n hb0;have e3 : -((n/b:Nat):Int)-1 = -((n/b+1:Nat):Int):=by omega
    have e4:(b:Int)-((n%b:Nat):Int)=((b-n%b:Nat):Int):=by omega
    rw[e1,e2,e3,e4];have hzr:=Zb (n%b);rw[decide_eq_false hr] at hzr;have hn1:Num (n/b+1):=Num.le hab (Nat.succ_le_succ (Nat.div_le_self _ _));have Had:Hid (∀ W,Below w.heap.size w W→Kc Tryz.prog 74 #[.string (dec (n/b)),.string ⟨#[49]⟩] W (.string (dec (n/b+1)))):=fun W hW=>by
     have:=Zne W (n/b) 1 (Num.le hN (Nat.div_le_self _ _)) (Num.le hab (by omega)) (HL.out.below hW)
     rw[Vf] at this;exact this
    have Hsu:Hid (∀ W,Below w.heap.size w W→Kc Tryz.prog 76 #[.string (dec b),.string (dec (n%b))] W (.tuple #[.string (dec (b-n%b)),.int .i64 0])):=fun W hW=>by
     have:=Zih W b (n%b) hb (Num.le hN (Nat.mod_le _ _)) (HL.out.below hW)
     rw[if_neg (by omega)] at this
     exact this
    have Hj1:=hd_ (fun W=>Vg W true (n/b+1) hn1)
    have Hj2:=hd_ (fun W=>Vg W false (b-n%b) (Num.le hb (Nat.sub_le _ _)))
    rw[show jz true (n/b+1) = -((n/b+1:Nat):Int) from rfl] at Hj1
    rw[show jz false (b-n%b)=((b-n%b:Nat):Int) from rfl] at Hj2
    clear e1 e2 e3 e4 hr hn hml;generalize itx (-((n/b+1:Nat):Int))=r1 at *
    generalize itx ((b-n%b:Nat):Int)=r2 at *
    generalize itx (-(n:Int))=s at *
    generalize dec (n/b+1)=qe at *
    generalize dec (b-n%b)=re at *
    generalize dec (n/b)=qd at *
    generalize dec (n%b)=rd at *
    generalize dec n=sm at *
    generalize dec b=tm at *
    go_enter Tryz.func163,Tryz.ntmps163
    go_wp2_with fail
    refine cm_ (Hl1.out w) ?_;rintro e w1 ⟨rfl,hb1⟩;have Hb1:=hd_ hb1;clear hb1 Hl1
    go_wp2_with fail
    refine cm_ (Hl2.out w1) ?_;rintro e w2 ⟨rfl,hb2⟩;have Hb2:=hd_ (Hb1.out.trans (hb2.mono Hb1.out.size));clear hb2 Hb1 Hl2
    go_wp2_with fail
    refine cm_ (Hsa.out w2) ?_;rintro e w3 ⟨rfl,hb3⟩;have Hb3:=hd_ (Hb2.out.trans (hb3.mono Hb2.out.size));clear hb3 Hb2 Hsa
    go_wp2_with fail
    refine cm_ (Hsb.out w3) ?_;rintro e w4 ⟨rfl,hb4⟩;have Hb4:=hd_ (Hb3.out.trans (hb4.mono Hb3.out.size));clear hb4 Hb3 Hsb
    go_wp2_with fail
    refine cm_ (Hdm.out w4 Hb4.out) ?_;rintro e w5 ⟨rfl,hb5⟩;have Hb5:=hd_ (Hb4.out.trans (hb5.mono Hb4.out.size));clear hb5 Hb4 Hdm
    go_wp2_with fail
    refine cm_ (Had.out w5 Hb5.out) ?_;rintro e w6 ⟨rfl,hb6⟩;have Hb6:=hd_ (Hb5.out.trans (hb6.mono Hb5.out.size));clear hb6 Hb5 Had
    go_wp2_with fail
    refine cm_ (Hsu.out w6 Hb6.out) ?_;rintro e w7 ⟨rfl,hb7⟩;have Hb7:=hd_ (Hb6.out.trans (hb7.mono Hb6.out.size));clear hb7 Hb6 Hsu
    go_wp2_with fail
    refine cm_ (Hj1.out w7) ?_;rintro e w8 ⟨rfl,hb8⟩;have Hb8:=hd_ (Hb7.out.trans (hb8.mono Hb7.out.size));clear hb8 Hb7 Hj1
    go_wp2_with fail
    refine cm_ (Hj2.out w8) ?_;rintro e w9 ⟨rfl,hb9⟩;have Hb9:=hd_ (Hb8.out.trans (hb9.mono Hb8.out.size));clear hb9 Hb8 Hj2;go_wp2
    go_ret3
    exact⟨rfl,Hb9.out⟩
  ·rw[decide_eq_false hn] at Hsa;obtain⟨n,rfl⟩:∃ n:Nat,a=(n:Int):=⟨a.natAbs,by omega⟩
   have hN:Num n:=ha;rw[show ((n:Int)).natAbs=n by omega] at *
   have Hj1:=hd_ (fun W=>Vg W false (n/b) (Num.le hN (Nat.div_le_self _ _)))
   have Hj2:=hd_ (fun W=>Vg W false (n%b) (Num.le hN (Nat.mod_le _ _)))
   rw[show jz false (n/b)=(n:Int)/(b:Int) from rfl] at Hj1
   rw[show jz false (n%b)=(n:Int)%(b:Int) from rfl] at Hj2
   clear hn;generalize itx ((n:Int)/(b:Int))=r1 at *
   generalize itx ((n:Int)%(b:Int))=r2 at *
   generalize itx (n:Int)=s at *
   generalize dec (n/b)=qd at *
   generalize dec (n%b)=rd at *
   generalize dec n=sm at *
   generalize dec b=tm at *
   go_enter Tryz.func163,Tryz.ntmps163
   go_wp2_with fail
   refine cm_ (Hl1.out w) ?_;rintro e w1 ⟨rfl,hb1⟩;have Hb1:=hd_ hb1;clear hb1 Hl1
   go_wp2_with fail
   refine cm_ (Hl2.out w1) ?_;rintro e w2 ⟨rfl,hb2⟩;have Hb2:=hd_ (Hb1.out.trans (hb2.mono Hb1.out.size));clear hb2 Hb1 Hl2
   go_wp2_with fail
   refine cm_ (Hsa.out w2) ?_;rintro e w3 ⟨rfl,hb3⟩;have Hb3:=hd_ (Hb2.out.trans (hb3.mono Hb2.out.size));clear hb3 Hb2 Hsa
   go_wp2_with fail
   refine cm_ (Hsb.out w3) ?_;rintro e w4 ⟨rfl,hb4⟩;have Hb4:=hd_ (Hb3.out.trans (hb4.mono Hb3.out.size));clear hb4 Hb3 Hsb
   go_wp2_with fail
   refine cm_ (Hdm.out w4 Hb4.out) ?_;rintro e w5 ⟨rfl,hb5⟩;have Hb5:=hd_ (Hb4.out.trans (hb5.mono Hb4.out.size));clear hb5 Hb4 Hdm
   go_wp2_with fail
   refine cm_ (Hj1.out w5) ?_;rintro e w6 ⟨rfl,hb6⟩;have Hb6:=hd_ (Hb5.out.trans (hb6.mono Hb5.out.size));clear hb6 Hb5 Hj1
   go_wp2_with fail
   refine cm_ (Hj2.out w6) ?_;rintro e w7 ⟨rfl,hb7⟩;have Hb7:=hd_ (Hb6.out.trans (hb7.mono Hb6.out.size));clear hb7 Hb6 Hj2;go_wp2
   go_ret3
   exact⟨rfl,Hb7.out⟩
 ·rw[if_pos hl.1] at Hl1;rw[if_pos hl.2] at Hl2;have q1:=Za a 18 (by decide) hl.1
  have q2:=(Vn b).1 hl.2;clear hl big Hsa Hsb Hdm;have Hof:Hid (∀ W,Below w.heap.size w W→∀ z:Int,-9223372036854775808≤z→z≤9223372036854775807→Kc Tryz.prog 73 #[.int .i64 z] W (.string (itx z))):=fun W hW z h0 h1=>Zah W z h0 h1 (HL.out.below hW)
  have hbz:((b:Int)==0)=false:=by rw[beq_eq_false_iff_ne];omega
  have hbn:¬ (b:Int)<0:=by omega
  have hbi:¬ (b:Int)=0:=by omega
  by_cases hn:a<0
  ·obtain⟨n,rfl⟩:∃ n:Nat,a = -(n:Int):=⟨a.natAbs,by omega⟩
   have hn1:n<1000000000000000000:=by omega
   have hdl:n/b≤n:=Nat.div_le_self _ _;have hml:n%b≤n:=Nat.mod_le _ _;have htd:Int.tdiv (-(n:Int)) (b:Int) = -((n/b:Nat):Int):=by rw[Int.neg_tdiv,← Int.ofNat_tdiv]
   have htm:Int.tmod (-(n:Int)) (b:Int) = -((n%b:Nat):Int):=by rw[Int.neg_tmod,← Int.ofNat_tmod]
   by_cases hr:n%b=0
   ·obtain⟨e1,e2⟩:=Zbd n b hb0 hr;rw[e1,e2];rw[hr] at htm;rw[show -((0:Nat):Int)=0 from rfl] at htm
    clear e1 e2 hr hml;generalize n/b=q at *
    have hw1:IntKind.i64.wrap (-(q:Int)) = -(q:Int):=iw_ _ (by omega)
    have hw2:IntKind.i64.wrap 0=0:=iw_ _ (by omega)
    have hq1 : -9223372036854775808 ≤ -(q:Int):=by omega
    have hq2 : -(q:Int)≤9223372036854775807:=by omega
    have hr1:(-9223372036854775808:Int)≤0:=by omega
    have hr2:(0:Int)≤9223372036854775807:=by omega
    generalize itx (-(n:Int))=s at *
    generalize dec b=tm at *
    go_enter Tryz.func163,Tryz.ntmps163
    go_wp2_with fail
    refine cm_ (Hl1.out w) ?_;rintro e w1 ⟨rfl,hb1⟩;have Hb1:=hd_ hb1;clear hb1 Hl1
    go_wp2_with fail
    refine cm_ (Hl2.out w1) ?_;rintro e w2 ⟨rfl,hb2⟩;have Hb2:=hd_ (Hb1.out.trans (hb2.mono Hb1.out.size));clear hb2 Hb1 Hl2
    go_wp2_with fail
    go_quiet (fail)
    have Hb3:Hid (Below w.heap.size w (w2.drewN nq)):=Qg Hb2.out _;clear Hb2;generalize w2.drewN nq=w3 at *
    go_wp2_with fail
    refine cm_ (Hof.out w3 Hb3.out _ (by omega) (by omega)) ?_
    rintro e w4 ⟨rfl,hb4⟩;have Hb4:=hd_ (Hb3.out.trans (hb4.mono Hb3.out.size));clear hb4 Hb3
    go_wp2_with fail
    refine cm_ (Hof.out w4 Hb4.out _ (by omega) (by omega)) ?_
    rintro e w5 ⟨rfl,hb5⟩;have Hb5:=hd_ (Hb4.out.trans (hb5.mono Hb4.out.size));clear hb5 Hb4;go_wp2
    go_ret3
    exact⟨rfl,Hb5.out⟩
   ·obtain⟨e1,e2⟩:=Zb3 n b hb0 hr;rw[e1,e2];have hmb:=Nat.mod_lt n hb0;have hr0:0<n%b:=by omega
    clear e1 e2 hr;generalize n/b=q at *
    generalize n%b=r at *
    have hw1:IntKind.i64.wrap (-(q:Int)) = -(q:Int):=iw_ _ (by omega)
    have hw2:IntKind.i64.wrap (-(r:Int)) = -(r:Int):=iw_ _ (by omega)
    have hw3:IntKind.i64.wrap (-(q:Int)-1) = -(q:Int)-1:=iw_ _ (by omega)
    have hw4:IntKind.i64.wrap (-(r:Int)+(b:Int)) = -(r:Int)+(b:Int):=iw_ _ (by omega)
    have hq1 : -9223372036854775808 ≤ -(q:Int)-1:=by omega
    have hq2 : -(q:Int)-1≤9223372036854775807:=by omega
    have hr1:(-9223372036854775808:Int) ≤ -(r:Int)+(b:Int):=by omega
    have hr2 : -(r:Int)+(b:Int)≤9223372036854775807:=by omega
    have hrz:(-(r:Int) != 0)=true:=by rw[bne_iff_ne];omega
    have hrn : -(r:Int)<0:=by omega
    rw[show (b:Int)-(r:Int) = -(r:Int)+(b:Int) by omega]
    generalize itx (-(n:Int))=s at *
    generalize dec b=tm at *
    go_enter Tryz.func163,Tryz.ntmps163
    go_wp2_with fail
    refine cm_ (Hl1.out w) ?_;rintro e w1 ⟨rfl,hb1⟩;have Hb1:=hd_ hb1;clear hb1 Hl1
    go_wp2_with fail
    refine cm_ (Hl2.out w1) ?_;rintro e w2 ⟨rfl,hb2⟩;have Hb2:=hd_ (Hb1.out.trans (hb2.mono Hb1.out.size));clear hb2 Hb1 Hl2
    go_wp2_with fail
    go_quiet (fail)
    have Hb3:Hid (Below w.heap.size w (w2.drewN nq)):=Qg Hb2.out _;clear Hb2;generalize w2.drewN nq=w3 at *
    go_wp2_with fail
    refine cm_ (Hof.out w3 Hb3.out _ (by omega) (by omega)) ?_
    rintro e w4 ⟨rfl,hb4⟩;have Hb4:=hd_ (Hb3.out.trans (hb4.mono Hb3.out.size));clear hb4 Hb3
    go_wp2_with fail
    refine cm_ (Hof.out w4 Hb4.out _ (by omega) (by omega)) ?_
    rintro e w5 ⟨rfl,hb5⟩;have Hb5:=hd_ (Hb4.out.trans (hb5.mono Hb4.out.size));clear hb5 Hb4;go_wp2
    go_ret3
    exact⟨rfl,Hb5.out⟩
  ·obtain⟨n,rfl⟩:∃ n:Nat,a=(n:Int):=⟨a.natAbs,by omega⟩
   have hn1:n<1000000000000000000:=by omega
   have hdl:n/b≤n:=Nat.div_le_self _ _;have hml:n%b≤n:=Nat.mod_le _ _;have htd:Int.tdiv (n:Int) (b:Int)=((n/b:Nat):Int):=by rw[← Int.ofNat_tdiv]
   have htm:Int.tmod (n:Int) (b:Int)=((n%b:Nat):Int):=by rw[← Int.ofNat_tmod]
   obtain⟨e1,e2⟩:=Zjb n b;rw[e1,e2];clear e1 e2;generalize n/b=q at *
   generalize n%b=r at *
   have hw1:IntKind.i64.wrap (q:Int)=(q:Int):=iw_ _ (by omega)
   have hw2:IntKind.i64.wrap (r:Int)=(r:Int):=iw_ _ (by omega)
   have hq1 : -9223372036854775808≤(q:Int):=by omega
   have hq2:(q:Int)≤9223372036854775807:=by omega
   have hr1:(-9223372036854775808:Int)≤(r:Int):=by omega
   have hr2:(r:Int)≤9223372036854775807:=by omega
   generalize itx (n:Int)=s at *
   generalize dec b=tm at *
   rcases Nat.eq_zero_or_pos r with hr0|hr0
   ·subst hr0;have hw5:IntKind.i64.wrap 0=0:=iw_ _ (by omega)
    go_enter Tryz.func163,Tryz.ntmps163
    go_wp2_with fail
    refine cm_ (Hl1.out w) ?_;rintro e w1 ⟨rfl,hb1⟩;have Hb1:=hd_ hb1;clear hb1 Hl1
    go_wp2_with fail
    refine cm_ (Hl2.out w1) ?_;rintro e w2 ⟨rfl,hb2⟩;have Hb2:=hd_ (Hb1.out.trans (hb2.mono Hb1.out.size));clear hb2 Hb1 Hl2
    go_wp2_with fail
    go_quiet (fail)
    have Hb3:Hid (Below w.heap.size w (w2.drewN nq)):=Qg Hb2.out _;clear Hb2;generalize w2.drewN nq=w3 at *
    go_wp2_with fail
    refine cm_ (Hof.out w3 Hb3.out _ (by omega) (by omega)) ?_
    rintro e w4 ⟨rfl,hb4⟩;have Hb4:=hd_ (Hb3.out.trans (hb4.mono Hb3.out.size));clear hb4 Hb3
    go_wp2_with fail
    refine cm_ (Hof.out w4 Hb4.out _ (by omega) (by omega)) ?_
    rintro e w5 ⟨rfl,hb5⟩;have Hb5:=hd_ (Hb4.out.trans (hb5.mono Hb4.out.size));clear hb5 Hb4;go_wp2
    go_ret3
    exact⟨rfl,Hb5.out⟩
   ·have hrz:((r:Int) != 0)=true:=by rw[bne_iff_ne];omega
    have hrn:decide ((r:Int)<0)=false:=decide_eq_false (by omega)
    have hbn2:decide ((b:Int)<0)=false:=decide_eq_false (by omega)
    go_enter Tryz.func163,Tryz.ntmps163
    go_wp2_with fail
    refine cm_ (Hl1.out w) ?_;rintro e w1 ⟨rfl,hb1⟩;have Hb1:=hd_ hb1;clear hb1 Hl1
    go_wp2_with fail
    refine cm_ (Hl2.out w1) ?_;rintro e w2 ⟨rfl,hb2⟩;have Hb2:=hd_ (Hb1.out.trans (hb2.mono Hb1.out.size));clear hb2 Hb1 Hl2
    go_wp2_with fail
    go_quiet (fail)
    have Hb3:Hid (Below w.heap.size w (w2.drewN nq)):=Qg Hb2.out _;clear Hb2;generalize w2.drewN nq=w3 at *
    go_wp2_with fail
    refine cm_ (Hof.out w3 Hb3.out _ (by omega) (by omega)) ?_
    rintro e w4 ⟨rfl,hb4⟩;have Hb4:=hd_ (Hb3.out.trans (hb4.mono Hb3.out.size));clear hb4 Hb3
    go_wp2_with fail
    refine cm_ (Hof.out w4 Hb4.out _ (by omega) (by omega)) ?_
    rintro e w5 ⟨rfl,hb5⟩;have Hb5:=hd_ (Hb4.out.trans (hb5.mono Hb4.out.size));clear hb5 Hb4;go_wp2
    go_ret3
    exact⟨rfl,Hb5.out⟩
def fv (n:Int) (d:Nat):Value := .agg #[.string (itx n),.string (dec d)]
theorem Zf8(w:World)(z:Int)(hz:Za7 z):
  Kc Tryz.prog 183 #[.string (itx z)] w (if (itx z).size≤9 then .tuple #[.int .i64 z,.bool true] else .tuple #[.int .i64 0,.bool false]):=by
 unfold Kc;have hz1:(dec z.natAbs).size≤1000000:=hz;have hz2:=Zb2 z
 by_cases h:(itx z).size≤9
 ·rw[if_pos h];have hlt:=Za z 9 (by decide) (by omega)
  have Hc:=hd_ (Tryz.strconv_Atoi_ok (itx z) (by omega) z (Zor z (by omega)) w)
  have Hbb:=hd_ (fun t=>Ze w 5 t)
  have h':((itx z).size:Int)≤9:=by omega
  clear hlt hz1 hz2;generalize itx z=s at *
  go_enter Tryz.func183,Tryz.ntmps183
  go_wp2_with fail
  refine cm_ Hc.out ?_;rintro e w1 ⟨rfl,hw⟩;have Hb:Hid (Below w.heap.size w w1):=by
   show Below _ _ _
   rcases hw with rfl|⟨t,rfl⟩
   ·exact Below.refl _ _
   ·exact Hbb.out t
  clear hw
  go_wp2_with fail
  go_quiet (fail)
  go_wp2
  go_ret2
  exact⟨rfl,Qg Hb.out _⟩
 ·rw[if_neg h];have h':¬ ((itx z).size:Int)≤9:=by omega
  generalize itx z=s at *
  go_enter Tryz.func183,Tryz.ntmps183;go_wp2
  go_ret2
  exact⟨rfl,Below.refl _ _⟩
def Ztf (n:Int) (d:Nat):Value :=
 .tuple #[.int .i64 (if (itx n).size≤9 then n else 0),.int .i64 (if (dec d).size≤9 then d else 0),.bool (decide ((itx n).size≤9)&&decide ((dec d).size≤9))]
theorem Zgx(w:World)(n:Int)(d:Nat)(hn:Za7 n)(hd:Num d):
  Kc Tryz.prog 113 #[fv n d] w (Ztf n d):=by
 unfold Kc fv;have Hl1:Hid (∀ W,Kc Tryz.prog 183 #[.string (itx n)] W (.tuple #[.int .i64 (if (itx n).size≤9 then n else 0),.bool (decide ((itx n).size≤9))])):=fun W=>by
  have:=Zf8 W n hn
  by_cases h:(itx n).size≤9
  ·rw[if_pos h] at this;rw[if_pos h,decide_eq_true h];exact this
  ·rw[if_neg h] at this;rw[if_neg h,decide_eq_false h];exact this
 have Hl2:Hid (∀ W,Kc Tryz.prog 183 #[.string (dec d)] W (.tuple #[.int .i64 (if (dec d).size≤9 then (d:Int) else 0),.bool (decide ((dec d).size≤9))])):=fun W=>by
  have:=Zf8 W (d:Int) (show Num _ from hd)
  rw[Kj] at this
  by_cases h:(dec d).size≤9
  ·rw[if_pos h] at this;rw[if_pos h,decide_eq_true h];exact this
  ·rw[if_neg h] at this;rw[if_neg h,decide_eq_false h];exact this
 have Hv:Hid (Ztf n d = .tuple #[.int .i64 (if (itx n).size≤9 then n else 0),.int .i64 (if (dec d).size≤9 then (d:Int) else 0),.bool (decide ((itx n).size≤9)&&decide ((dec d).size≤9))]):=rfl
 rw[Hv.out];clear Hv;generalize (if (itx n).size≤9 then n else 0)=x at *
 generalize (if (dec d).size≤9 then (d:Int) else 0)=y at *
 generalize decide ((itx n).size≤9)=p at *
 generalize decide ((dec d).size≤9)=q at *
 generalize itx n=s at *
 generalize dec d=t at *
 have Hc1:Hid ((w.alloc (.cells #[.string s,.string t] 42)).cell? ⟨w.heap.size,1,none⟩=some (.string t)):=by
  show _=_
  rw[World.cell?_alloc_new];rfl
 have Hb0:=hd_ ((Below.refl w.heap.size w).alloc nr_ (.cells #[.string s,.string t] 42));have hsz0:w.heap.size<(w.alloc (.cells #[.string s,.string t] 42)).heap.size:=by simp
 have Hsz0:=hd_ hsz0;clear hsz0;go_enter Tryz.func113,Tryz.ntmps113
 go_wp2_with fail
 refine cm_ (Hl1.out _) ?_;rintro e w1 ⟨rfl,hb1⟩;have cx:=Hc1.out;rw[← hb1.cell (p:=⟨w.heap.size,1,none⟩) Hsz0.out] at cx;have Hb1:=hd_ (Hb0.out.trans (hb1.mono (Nat.le_of_lt Hsz0.out)));clear hb1 Hb0 Hc1 Hsz0
 go_wp2_with fail
 refine cm_ (Hl2.out _) ?_;rintro e w2 ⟨rfl,hb2⟩;have Hb2:=hd_ (Hb1.out.trans (hb2.mono Hb1.out.size));clear hb2 Hb1 cx;cases p<;>cases q
 all_goals
  go_wp2
  go_ret3
  exact⟨rfl,Hb2.out⟩
end Go.Proofs.YtnjedhgcfeoemaaGreatDoor

namespace Go.Proofs.YtnjedhgcfeoemaaGreatDoor
open Go Go.Sort
section
variable {P:Program} {ops:Array Oper} {md:Region.Mode} {C:World→Prop}
def Zg4 (P:Program) (md:Region.Mode) (ops:Array Oper) (C:World→Prop) (n:Nat) (L:Array Bool→Act→Prop):Nat→Array Bool→Act→Prop
 | 0,listed,a=>L listed a
 | f+1,listed,a=>Region.ready md ops listed≠[]∧∀ i∈Region.ready md ops listed,i<n∧qOp P ops C i (Zg4 P md ops C n L f (listed.setIfInBounds i true)) a
theorem Zg3{n g:Nat}{L:Array Bool→Act→Prop}{Q':Exit→Act→World→Prop}(hL:∀ listed a w,C w→L listed a→wpAny P md ops Q' g listed a w):
  ∀ (f:Nat) (listed:Array Bool) (a:Act) (w:World),C w→Zg4 P md ops C n L f listed a→wpAny P md ops Q' (f+g) listed a w
 | 0,listed,a,w,hw,h=>by rw[Nat.zero_add];exact hL _ _ _ hw h
 | f+1,listed,a,w,hw,h=>by
  rw[show f+1+g=(f+g)+1 by omega]
  exact⟨fun h0=>absurd h0 h.1,fun i hi=>wpOp_of_qOp hw (fun a' w' hw' h'=>Zg3 hL f _ a' w' hw' h') (h.2 i hi).2⟩
theorem Zjl{n i:Nat}{oi:Oper}{v:Value}{L:Array Bool→Act→Prop}(hi:ops[i]?=some oi)(hsel:∀ (j:Nat) (o:Oper) cs b,ops[j]?=some o→o.op ≠ .select cs b)
  (hs:Region.sinkB md ops n=true) (hc:Region.chainB md ops n=true) (hn:n<ops.size) (hin:i<n)
  (hdone:∀ listed a,L listed a→∀ j∈Region.ready md ops listed,n≤j) :
  ∀ (f:Nat) (listed:Array Bool) (a:Act),HeadInv md ops n listed →
   (∀ j oj,ops[j]?=some oj→j≠i→listed.getD j true=false→(∀ e∈oj.after,Region.binds md e=true→e.on≠i)→oi.apart ops oj=true) →
   i∈Region.ready md ops listed→YieldsIn P ops C oi v a →
   Zg4 P md ops C n L f (listed.setIfInBounds i true) (a.put oi.dst v)→Zg4 P md ops C n L (f+1) listed a:=by
 intro f
 induction f with
 | zero =>
  intro listed a inv _ hr hy H;have hun:=(mem_ready.1 hr).1;refine⟨fun h=>(by rw[h] at hr;cases hr),fun j hj=>?_⟩
  have hjn:j<n:=by
   rcases Nat.lt_or_ge j n with h|h
   ·exact h
   ·exact absurd hj (tail_waits hs hc hn inv _ i rfl hin hun j h)
  refine⟨hjn,?_⟩
  by_cases hji:j=i
  ·subst hji;exact hy.qOp hi H
  ·have:=hdone _ _ H j (ready_mono hj hji)
   omega
 | succ f ih =>
  intro listed a inv hfree hr hy H;have hun:=(mem_ready.1 hr).1;refine⟨fun h=>(by rw[h] at hr;cases hr),fun j hj=>?_⟩
  have hjn:j<n:=by
   rcases Nat.lt_or_ge j n with h|h
   ·exact h
   ·exact absurd hj (tail_waits hs hc hn inv _ i rfl hin hun j h)
  refine⟨hjn,?_⟩
  by_cases hji:j=i
  ·subst hji;exact hy.qOp hi H
  ·have h1:=(H.2 j (ready_mono hj hji)).2;obtain⟨hjun,oj,hoj,hall⟩:=mem_ready.1 hj;have hnot:∀ e∈oj.after,Region.binds md e=true→e.on≠i:=fun e he hb heq=>by
    have h1:=hall e he hb;rw[heq,getD_both hun] at h1;cases h1
   have h2:=qOp_put hoj (hfree j oj hoj hji hjun hnot) (fun cs b=>hsel i oi cs b hi) (fun cs b=>hsel j oj cs b hoj) hy h1
   have hfree':∀ k ok,ops[k]?=some ok→k≠i→(listed.setIfInBounds j true).getD k true=false →
     (∀ e∈ok.after,Region.binds md e=true→e.on≠i)→oi.apart ops ok=true:=fun k ok hk hki hun hno=>by
    refine hfree k ok hk hki ?_ hno
    by_cases hjk:j=k
    ·subst hjk;exact hjun
    ·rw[getD_set_ne true hjk] at hun;exact hun
   refine qOp_mono (fun a' h3=>ih (listed.setIfInBounds j true) a' (inv.set hj hjn) hfree' (ready_mono hr (Ne.symm hji)) h3.1 ?_) h2
   rw[Array.setIfInBounds_comm _ _ hji];exact h3.2
theorem Zg2{n g:Nat}{Lq:Act→Prop}(hsel:Region.noSelect ops=true)(hs:Region.sinkB md ops n=true)(hc:Region.chainB md ops n=true)(hn:n<ops.size):
  ∀ (l:List Oper) (k:Nat) (listed:Array Bool) (a:Act),(∀ j,j<l.length→l[j]?=ops[k+j]?)→k+l.length=n→HeadInv md ops n listed →
  Region.lexHead md ops g l.length k listed=true→wpQuiet P ops C Lq l a →
  Zg4 P md ops C n (fun listed' a'=>Region.seqB md ops g n listed'=true∧Lq a') l.length listed a
 | [],k,listed,a,_,hk,_,hB,h=>by
  have:k=n:=by simpa using hk
  subst this;exact⟨by simpa [Region.lexHead] using hB,h⟩
 | o::l,k,listed,a,hl,hk,inv,hB,h=>by
  have h0:ops[k]?=some o:=by simpa using (hl 0 (by simp)).symm
  simp only[List.length_cons,Region.lexHead,Bool.and_eq_true] at hB;obtain⟨⟨hr,hf⟩,hB'⟩:=hB;have hkn:k<n:=by simp only[List.length_cons] at hk;omega
  have hr':k∈Region.ready md ops listed:=by simpa using hr
  have hst:qOp P ops C k (wpQuiet P ops C Lq l) a:=by unfold qOp;simp only[h0];exact h
  obtain⟨v,hy,hK⟩:=yieldsIn_of_qOp h0 hst;exact Zjl h0 (Region.noSelect_spec hsel) hs hc hn hkn (fun listed' a' hL=>seqB_ready hL.1) l.length listed a inv (Region.free_spec h0 hf) hr' hy
   (Zg2 hsel hs hc hn l (k+1) _ _ (fun j hj=>by have:=hl (j+1) (by simp;omega);simpa [Nat.add_assoc,Nat.add_comm 1 j] using this) (by simp only[List.length_cons] at hk;omega) (inv.set hr' hkn) hB' hK)
theorem Zc5{id:Nat}{Q:Exit→Act→World→Prop}{a:Act}{w:World}{l:List Oper}(n:Nat)(hm:P.follows .mixedOrders=true)(hB:Region.lexTailB .any l.toArray n=true)
  (hC:C { w with drawn:=w.drawn+1 }) (h:wpQuiet P l.toArray C (fun a'=>∀ w',C w'→wpList P l.toArray Q (l.drop n) a' w') (l.take n) a):(Code.region id l.toArray true).wp P Q a w:=by
 simp only[Region.lexTailB,Bool.and_eq_true,decide_eq_true_eq] at hB;obtain⟨⟨⟨⟨hsel,hn⟩,hs⟩,hc⟩,hlex⟩:=hB;have hn':n<l.length:=by simpa using hn
 have htl:(l.take n).length=n:=by simp;omega
 have hdl:(l.drop n).length=l.toArray.size-n:=by simp
 have inv0:HeadInv .any l.toArray n (Array.replicate l.toArray.size false) :=
  ⟨by simp,fun j oj _ hl=>(by rw[getD_replicate_false] at hl;cases hl),fun t _ ht=>getD_in (by simpa using ht) (getD_replicate_false _ _)⟩
 have H:=Zg2 (md := .any) (g:=l.toArray.size-n) hsel hs hc hn (l.take n) 0 _ a (fun j hj=>by
  have hj':j<n:=by rw[htl] at hj;exact hj
  simp[hj']) (by simpa using htl) inv0 (by rw[htl];exact hlex) h
 refine wp_region_any hm ?_;have:=Zg3 (Q':=Q) (g:=l.toArray.size-n) (fun listed a' w' hw' hL=>by
  have:=wpAny_of_seq (md := .any) (Q':=Q) (l.drop n) n listed a' w' (fun j=>by simp[List.getElem?_drop]) (by rw[hdl];exact hL.1) (hL.2 w' hw')
  rwa [hdl] at this) _ _ _ _ hC H
 rw[htl,show n+(l.toArray.size-n)=l.toArray.size by omega] at this
 exact this
theorem Kv{id:Nat}{Q:Exit→Act→World→Prop}{a:Act}{w:World}{l:List Oper}(n:Nat)(hm:P.follows .mixedOrders=true)(hB:Region.lexTailB .any l.toArray n=true)
  (h:wpQuiet P l.toArray (fun w'=>∃ p:Regrown,w'=grow (redrawn w p.d) p.os) (fun a'=>∀ w',(∃ p:Regrown,w'=grow (redrawn w p.d) p.os)→wpList P l.toArray Q (l.drop n) a' w') (l.take n) a):(Code.region id l.toArray true).wp P Q a w :=
 Zc5 n hm hB ⟨⟨w.drawn+1,#[]⟩,by rw[grow_empty];rfl⟩ h
end
end Go.Proofs.YtnjedhgcfeoemaaGreatDoor

namespace Go.Proofs.YtnjedhgcfeoemaaGreatDoor
open Go.RowKit
theorem Zey(w:World)(z:Int)(h0 : -9223372036854775808≤z)(h1:z≤9223372036854775807)(L:Qb w):
  ∀ d os,Calls Tryz.prog 144 #[.int .i64 z] (Go.Sort.grow (redrawn w d) os) fun e w''=>e = .returned (.string (itx z))∧∃ p:Regrown,w''=Go.Sort.grow (redrawn w p.d) p.os:=fun d os=>by
 have hb:=below_regrown w d os;have:=Tryz.strconv_Itoa z h0 h1 (Go.Sort.grow (redrawn w d) os) (L.below hb).tab
 exact Calls.regrown_of (this.mono fun e w'' ⟨h1,h2⟩=>⟨h1,Zb7 h2⟩)
theorem Ka{w:World}{g:Nat}{a b:Value}{t:TypeId}(h:w.heap[g]?=some (.cells #[a,b] t (0,0))):
  w.cell? ⟨g,0,none⟩=some a∧w.cell? ⟨g,1,none⟩=some b∧w.frozen? ⟨g,0,none⟩=false∧w.frozen? ⟨g,1,none⟩=false:=by
 refine⟨by rw[cell_of_row w g 0 _ t (0,0) h];rfl,by rw[cell_of_row w g 1 _ t (0,0) h];rfl,?_,?_⟩
 ·simp[World.frozen?,h]
 ·simp[World.frozen?,h]
theorem Kq{w0 w:World}{B g:Nat}{a b:Value}(x y:Value)(k0:w.cell? ⟨g,0,none⟩=some a)(k1:w.cell? ⟨g,1,none⟩=some b)(hB:B≤g)(hb:Below B w0 w):
  ((w.setCell ⟨g,0,none⟩ x).setCell ⟨g,1,none⟩ y).cell? ⟨g,0,none⟩=some x∧((w.setCell ⟨g,0,none⟩ x).setCell ⟨g,1,none⟩ y).cell? ⟨g,1,none⟩=some y ∧
  Below B w0 ((w.setCell ⟨g,0,none⟩ x).setCell ⟨g,1,none⟩ y):=by
 refine⟨?_,?_,?_⟩
 ·rw[World.cell?_setCell_other _ _ _ _ (by simp),World.cell?_setCell_same _ _ _ k0]
 ·rw[World.cell?_setCell_same _ _ _ (by rw[World.cell?_setCell_other _ _ _ _ (by simp)];exact k1)]
 ·exact(hb.setCell (p:=⟨g,0,none⟩) hB x).setCell (p:=⟨g,1,none⟩) hB y
theorem Zl9(w:World)(n:Int)(d g:Nat)(hn:n.natAbs<9223372036854775808)(hd:d<9223372036854775808)(hd0:0<d)(hg:Nat.gcd n.natAbs d=g)(L:Qb w):
  Kc Tryz.prog 124 #[.int .i64 n,.int .i64 d] w (fv (n/(g:Int)) (d/g)):=by
 unfold Kc fv;have hg0:0<g:=by rw[← hg];exact Nat.gcd_pos_of_pos_right _ hd0
 have hgd:g ∣ d:=by rw[← hg];exact Nat.gcd_dvd_right _ _
 have hgn:(g:Int) ∣ n:=by rw[← hg];exact Int.gcd_dvd_left n (d:Int)
 have Hg:=hd_ hg;have HL:=hd_ L;clear hg L;have Hb0:=hd_ ((Below.refl w.heap.size w).alloc nr_ (.cells #[.string ⟨#[]⟩,.string ⟨#[]⟩] 42));go_enter Tryz.func124,Tryz.ntmps124
 go_wp2_with fail
 go_loopw [5,6] (fun p q wr=>∃ x y:Int,x.natAbs<9223372036854775808∧y.natAbs<9223372036854775808∧p = .int .i64 x∧q = .int .i64 y∧Hid (Nat.gcd x.natAbs y.natAbs=g)∧Hid (∃ k,wr=(w.alloc (.cells #[.string ⟨#[]⟩,.string ⟨#[]⟩] 42)).drewN k)) (fun _ q _=>(intOf q).natAbs)
 case atStart=>exact⟨n,d,hn,by omega,rfl,rfl,Hg.out,⟨0,rfl⟩⟩
 case round =>
  obtain⟨x,y,hx,hy,rfl,rfl,Hxy,Hw⟩:=hrel
  by_cases h0:y=0
  ·subst h0;have hxg:x.natAbs=g:=by
    have:=Hxy.out
    rw[show (0:Int).natAbs=0 from rfl,Nat.gcd_zero_right] at this
    exact this
   have hng:g≤9223372036854775807:=by omega
   have hgz:((g:Int)==0)=false:=by rw[beq_eq_false_iff_ne];omega
   have htd1:Int.tdiv n (g:Int)=n/(g:Int):=Int.tdiv_eq_ediv_of_dvd hgn;have htd2:Int.tdiv (d:Int) (g:Int)=((d/g:Nat):Int):=by rw[← Int.ofNat_tdiv]
   have hnd:(n/(g:Int)).natAbs≤n.natAbs:=by
    rw[← htd1,Int.natAbs_tdiv];exact Nat.div_le_self _ _
   have hdd:d/g≤d:=Nat.div_le_self _ _;have hq1 : -9223372036854775808≤n/(g:Int):=by omega
   have hq2:n/(g:Int)≤9223372036854775807:=by omega
   have hq3 : -9223372036854775808≤((d/g:Nat):Int):=Int.le_trans (by decide) (Int.natCast_nonneg _)
   have hq4:((d/g:Nat):Int)≤9223372036854775807:=Int.le_trans (Int.ofNat_le.2 hdd) (by omega)
   have hw1:IntKind.i64.wrap (n/(g:Int))=n/(g:Int):=iw_ _ ⟨hq1,hq2⟩;have hw2:IntKind.i64.wrap ((d/g:Nat):Int)=((d/g:Nat):Int):=iw_ _ ⟨hq3,hq4⟩;have Hi1:Hid (∀ W,Below w.heap.size w W→∀ d' os,Calls Tryz.prog 144 #[.int .i64 (n/(g:Int))] (Go.Sort.grow (redrawn W d') os) fun e w''=>e = .returned (.string (itx (n/(g:Int))))∧∃ p:Regrown,w''=Go.Sort.grow (redrawn W p.d) p.os):=fun W hW=>Zey W _ hq1 hq2 (HL.out.below hW)
   have Hi2:Hid (∀ W,Below w.heap.size w W→∀ d' os,Calls Tryz.prog 144 #[.int .i64 ((d/g:Nat):Int)] (Go.Sort.grow (redrawn W d') os) fun e w''=>e = .returned (.string (dec (d/g)))∧∃ p:Regrown,w''=Go.Sort.grow (redrawn W p.d) p.os):=fun W hW=>by
    have:=Zey W ((d/g:Nat):Int) hq3 hq4 (HL.out.below hW)
    rw[Kj] at this;exact this
   have Hbk:Hid (Below w.heap.size w wr):=by
    obtain⟨k,hk⟩:=Hw.out
    show Below _ _ _
    rw[hk];exact Qg Hb0.out _
   have Hcell:Hid (wr.heap[w.heap.size]?=some (.cells #[.string ⟨#[]⟩,.string ⟨#[]⟩] 42 (0,0))):=by
    obtain⟨k,hk⟩:=Hw.out
    show _=_
    rw[hk];exact heap_alloc_new w _
   have hM1:=Hi1.out wr Hbk.out;have hM2:=Hi2.out wr Hbk.out;clear Hw Hi1 Hi2 hgd hgn hnd hdd Hxy;obtain⟨rs,hrs⟩:∃ rs,itx (n/(g:Int))=rs:=⟨_,rfl⟩;obtain⟨rt,hrt⟩:∃ rt,dec (d/g)=rt:=⟨_,rfl⟩;rw[hrs] at hM1;rw[hrt] at hM2;have Hrs:=hd_ hrs;have Hrt:=hd_ hrt;clear hrs hrt;generalize n/(g:Int)=q1 at htd1 hq1 hq2 hw1 hM1;generalize ((d/g:Nat):Int)=q2 at htd2 hq3 hq4 hw2 hM2
   by_cases hneg:x<0
   ·have hxn : -x=(g:Int):=by omega
    have hwx:IntKind.i64.wrap (-x)=(g:Int):=by rw[hxn];exact iw_ _ (by omega)
    have Hxn:=hd_ hxn;clear hxn
    go_wp2_with fail
    refine Kv 9 (by kernel_rfl) (by kernel_rfl) ?_
    simp only[List.take_succ_cons,List.take_zero,List.drop_succ_cons,List.drop_zero]
    repeat (first | go_big_quiet_step (first | with_reducible exact hM1 _ _ | with_reducible exact hM2 _ _) | quiet_step (first | with_reducible exact hM1 _ _ | with_reducible exact hM2 _ _))
    refine wpQuiet_nil ?_;intro w2 hw2;obtain⟨⟨dq,osq⟩,rfl⟩:=hw2;have hb2:=below_regrown wr dq osq;have Hcell2:Hid ((Go.Sort.grow (redrawn wr dq) osq).heap[w.heap.size]?=some (.cells #[.string ⟨#[]⟩,.string ⟨#[]⟩] 42 (0,0))):=by
     show _=_
     rw[hb2.block _ (by have:=Hcell.out;exact(Array.getElem?_eq_some_iff.1 this).1)];exact Hcell.out
    have Hb2:=hd_ (Hbk.out.trans (hb2.mono Hbk.out.size));clear hb2 hM1 hM2 Hcell;generalize Go.Sort.grow (redrawn wr dq) osq=w2 at *
    obtain⟨k0,k1,f0,f1⟩:=Ka Hcell2.out;go_wp2;obtain⟨c0,c1,hb3⟩:=Kq (.string rs) (.string rt) k0 k1 nr_ Hb2.out;generalize (w2.setCell ⟨w.heap.size,0,none⟩ (.string rs)).setCell ⟨w.heap.size,1,none⟩ (.string rt)=w3 at *
    exact bodyPost_ret (v := .agg #[.string rs,.string rt]) (by simp[results,Tryz.results124,go_sem,c0,c1]) rfl ⟨by rw[Hrs.out,Hrt.out],hb3⟩
   ·have hxp:x=(g:Int):=by omega
    clear hxg;subst hxp
    go_wp2_with fail
    refine Kv 9 (by kernel_rfl) (by kernel_rfl) ?_
    simp only[List.take_succ_cons,List.take_zero,List.drop_succ_cons,List.drop_zero]
    repeat (first | go_big_quiet_step (first | with_reducible exact hM1 _ _ | with_reducible exact hM2 _ _) | quiet_step (first | with_reducible exact hM1 _ _ | with_reducible exact hM2 _ _))
    refine wpQuiet_nil ?_;intro w2 hw2;obtain⟨⟨dq,osq⟩,rfl⟩:=hw2;have hb2:=below_regrown wr dq osq;have Hcell2:Hid ((Go.Sort.grow (redrawn wr dq) osq).heap[w.heap.size]?=some (.cells #[.string ⟨#[]⟩,.string ⟨#[]⟩] 42 (0,0))):=by
     show _=_
     rw[hb2.block _ (by have:=Hcell.out;exact(Array.getElem?_eq_some_iff.1 this).1)];exact Hcell.out
    have Hb2:=hd_ (Hbk.out.trans (hb2.mono Hbk.out.size));clear hb2 hM1 hM2 Hcell;generalize Go.Sort.grow (redrawn wr dq) osq=w2 at *
    obtain⟨k0,k1,f0,f1⟩:=Ka Hcell2.out;go_wp2;obtain⟨c0,c1,hb3⟩:=Kq (.string rs) (.string rt) k0 k1 nr_ Hb2.out;generalize (w2.setCell ⟨w.heap.size,0,none⟩ (.string rs)).setCell ⟨w.heap.size,1,none⟩ (.string rt)=w3 at *
    exact bodyPost_ret (v := .agg #[.string rs,.string rt]) (by simp[results,Tryz.results124,go_sem,c0,c1]) rfl ⟨by rw[Hrs.out,Hrt.out],hb3⟩
  ·have hyz:(y==0)=false:=by rw[beq_eq_false_iff_ne];exact h0
   have htm:(Int.tmod x y).natAbs=x.natAbs%y.natAbs:=Int.natAbs_tmod x y;have hlt:(Int.tmod x y).natAbs<y.natAbs:=by rw[htm];exact Nat.mod_lt _ (by omega)
   have Hgn:Hid (Nat.gcd y.natAbs (Int.tmod x y).natAbs=g):=by
    show _=_
    rw[htm,Zi5];exact Hxy.out
   have hwr:IntKind.i64.wrap (Int.tmod x y)=Int.tmod x y:=iw_ _ (by omega)
   have Hw2:Hid (∃ k,wr=(w.alloc (.cells #[.string ⟨#[]⟩,.string ⟨#[]⟩] 42)).drewN k):=Hw.out;have Hlt:=hd_ hlt;clear htm Hxy Hw
   go_wp2_with fail
   go_quiet (fail)
   go_wp2
   go_roundw
   case rel =>
    refine⟨y,Int.tmod x y,hy,by omega,rfl,rfl,Hgn,?_⟩
    obtain⟨k,hk⟩:=Hw2.out;exact⟨k+nq,by rw[hk];exact World.drewN_drewN _ _ _⟩
   case measure=>exact Hlt.out
theorem Kk{W0 wk:World}{g:Nat}{a b:Value}{t:TypeId}(h:W0.heap[g]?=some (.cells #[a,b] t (0,0)))(hb:Below W0.heap.size W0 wk):
  wk.heap[g]?=some (.cells #[a,b] t (0,0)):=by
 rw[hb.block g (Array.getElem?_eq_some_iff.1 h).1];exact h
theorem Zfa{d:Nat}(h:0<d):((d:Nat):Int).sign=1:=Int.sign_eq_one_of_pos (by omega)
theorem Zb0(w:World)(n:Int)(d g:Nat)(hn:Za7 n)(hd:Num d)(hd0:0<d)(hn1:Num (n.natAbs+1))(hd1:Num (d+1))(hg:Nat.gcd n.natAbs d=g)(L:Qb w):
  Kc Tryz.prog 125 #[.string (itx n),.string (dec d)] w (fv (n/(g:Int)) (d/g)):=by
 unfold Kc fv;have hg0:0<g:=by rw[← hg];exact Nat.gcd_pos_of_pos_right _ hd0
 have hgl:g≤d:=by rw[← hg];exact Nat.gcd_le_right _ hd0
 have hgn:Num g:=hd.le hgl;have Hb0:=hd_ ((Below.refl w.heap.size w).alloc nr_ (.cells #[.string ⟨#[]⟩,.string ⟨#[]⟩] 42));have Hnew:Hid ((w.alloc (.cells #[.string ⟨#[]⟩,.string ⟨#[]⟩] 42)).heap[w.heap.size]?=some (.cells #[.string ⟨#[]⟩,.string ⟨#[]⟩] 42 (0,0))):=heap_alloc_new w _;have HL:=hd_ (L.below Hb0.out);have Hsg:Hid (∀ W,Kc Tryz.prog 84 #[.string (dec d)] W (.int .i64 1)):=fun W=>by
  have:=Zo W (d:Int)
  rw[Kj,Zfa hd0] at this;exact this
 clear L;go_enter Tryz.func125,Tryz.ntmps125
 go_wp2_with fail
 generalize w.alloc (.cells #[.string ⟨#[]⟩,.string ⟨#[]⟩] 42)=W0 at *
 have Hgc:Hid (∀ W,Below W0.heap.size W0 W→Kc Tryz.prog 188 #[.string (itx n),.string (dec d)] W (.string (dec g))):=fun W hW=>by
  have:=Zi4 W n (d:Int) hn (show Num _ from hd) (HL.out.below hW)
  rw[Kj,show Int.gcd n (d:Int)=g from hg] at this
  exact this
 have Hd1:Hid (∀ W,Below W0.heap.size W0 W→Kc Tryz.prog 163 #[.string (itx n),.string (dec g)] W (.tuple #[.string (itx (n/(g:Int))),.string (itx (n%(g:Int))),.int .i64 0])):=fun W hW=>Yc W n g hn hgn hg0 hn1 (HL.out.below hW)
 have Hd2:Hid (∀ W,Below W0.heap.size W0 W→Kc Tryz.prog 163 #[.string (dec d),.string (dec g)] W (.tuple #[.string (dec (d/g)),.string (itx ((d:Int)%(g:Int))),.int .i64 0])):=fun W hW=>by
  have:=Yc W (d:Int) g (show Num _ from hd) hgn hg0 (show Num (d+1) from hd1) (HL.out.below hW)
  rw[Kj,show (d:Int)/(g:Int)=((d/g:Nat):Int) from rfl,Kj] at this
  exact this
 have ho:=Zhy g
 by_cases h1:g=1
 ·have Hrs:Hid (itx (n/(g:Int))=itx n):=by show _=_;rw[h1];congr 1;exact Int.ediv_one n
  have Hrt:Hid (dec (d/g)=dec d):=by show _=_;rw[h1,Nat.div_one]
  rw[decide_eq_true h1] at ho;clear h1 Hd1 Hd2 hg hg0 hgl hgn hn hd hn1 hd1;obtain⟨s,hs⟩:∃ s,itx n=s:=⟨_,rfl⟩;obtain⟨t,ht⟩:∃ t,dec d=t:=⟨_,rfl⟩;rw[hs] at Hrs Hgc ⊢;rw[ht] at Hrt Hgc Hsg ⊢;clear hs ht;generalize dec g=u at *
  refine cm_ (Hsg.out _) ?_;rintro e w1 ⟨rfl,hb1⟩;have Hb1:=hd_ hb1;clear hb1 Hsg
  go_wp2_with fail
  refine cm_ (Hgc.out w1 Hb1.out) ?_;rintro e w2 ⟨rfl,hb2⟩;have Hb2:=hd_ (Hb1.out.trans (hb2.mono Hb1.out.size));clear hb2 Hb1 Hgc;have Hcell:=hd_ (Kk Hnew.out Hb2.out);have Hbw:=hd_ (Hb0.out.trans (Hb2.out.mono Hb0.out.size));obtain⟨k0,k1,f0,f1⟩:=Ka Hcell.out;clear Hb2 Hb0 Hcell Hnew HL;go_wp2;obtain⟨c0,c1,hb3⟩:=Kq (.string s) (.string t) k0 k1 nr_ Hbw.out;generalize (w2.setCell ⟨w.heap.size,0,none⟩ (.string s)).setCell ⟨w.heap.size,1,none⟩ (.string t)=w9 at *
  exact bodyPost_ret (v := .agg #[.string s,.string t]) (by simp[results,Tryz.results125,go_sem,c0,c1]) rfl ⟨by rw[Hrs.out,Hrt.out],hb3⟩
 ·rw[decide_eq_false h1] at ho;obtain⟨rs,hrs⟩:∃ rs,itx (n/(g:Int))=rs:=⟨_,rfl⟩;obtain⟨rt,hrt⟩:∃ rt,dec (d/g)=rt:=⟨_,rfl⟩;rw[hrs] at Hd1;rw[hrt] at Hd2;have Hrs:=hd_ hrs;have Hrt:=hd_ hrt;clear h1 hg hg0 hgl hgn hn hd hn1 hd1 hrs hrt;generalize itx (n%(g:Int))=e1 at Hd1;generalize itx ((d:Int)%(g:Int))=e2 at Hd2;obtain⟨s,hs⟩:∃ s,itx n=s:=⟨_,rfl⟩;obtain⟨t,ht⟩:∃ t,dec d=t:=⟨_,rfl⟩;obtain⟨u,hu⟩:∃ u,dec g=u:=⟨_,rfl⟩;rw[hs] at Hd1 Hgc ⊢;rw[ht] at Hd2 Hgc Hsg ⊢;rw[hu] at Hd1 Hd2 Hgc ho;clear hs ht hu;refine cm_ (Hsg.out _) ?_;rintro e w1 ⟨rfl,hb1⟩;have Hb1:=hd_ hb1;clear hb1 Hsg
  go_wp2_with fail
  refine cm_ (Hgc.out w1 Hb1.out) ?_;rintro e w2 ⟨rfl,hb2⟩;have Hb2:=hd_ (Hb1.out.trans (hb2.mono Hb1.out.size));clear hb2 Hb1 Hgc
  go_wp2_with fail
  refine cm_ (Hd1.out w2 Hb2.out) ?_;rintro e w3 ⟨rfl,hb3⟩;have Hb3:=hd_ (Hb2.out.trans (hb3.mono Hb2.out.size));clear hb3 Hb2 Hd1
  go_wp2_with fail
  refine cm_ (Hd2.out w3 Hb3.out) ?_;rintro e w4 ⟨rfl,hb4⟩;have Hb4:=hd_ (Hb3.out.trans (hb4.mono Hb3.out.size));clear hb4 Hb3 Hd2;have Hcell:=hd_ (Kk Hnew.out Hb4.out);have Hbw:=hd_ (Hb0.out.trans (Hb4.out.mono Hb0.out.size));obtain⟨k0,k1,f0,f1⟩:=Ka Hcell.out;clear Hb4 Hb0 Hcell Hnew HL;go_wp2;obtain⟨c0,c1,hb3⟩:=Kq (.string rs) (.string rt) k0 k1 nr_ Hbw.out;generalize (w4.setCell ⟨w.heap.size,0,none⟩ (.string rs)).setCell ⟨w.heap.size,1,none⟩ (.string rt)=w9 at *
  exact bodyPost_ret (v := .agg #[.string rs,.string rt]) (by simp[results,Tryz.results125,go_sem,c0,c1]) rfl ⟨by rw[Hrs.out,Hrt.out],hb3⟩
def Zjp (n:Int) (d:Nat):Value:=fv (n/((Nat.gcd n.natAbs d:Nat):Int)) (d/Nat.gcd n.natAbs d)
structure Zhd (w:World) (s t s' t':ByteArray) (W0:World):Prop where
 fa:W0.heap[w.heap.size]?=some (.cells #[.string s,.string t] 42 (0,0))
 fb:W0.heap[w.heap.size+1]?=some (.cells #[.string s',.string t'] 42 (0,0))
 fr:W0.heap[w.heap.size+1+1]?=some (.cells #[.string ⟨#[]⟩,.string ⟨#[]⟩] 42 (0,0))
 bel:Below w.heap.size w W0
theorem Zhd.mk'(w:World)(s t s' t':ByteArray):Zhd w s t s' t' (((w.alloc (.cells #[.string s,.string t] 42)).alloc (.cells #[.string s',.string t'] 42)).alloc (.cells #[.string ⟨#[]⟩,.string ⟨#[]⟩] 42)):=by
 have hA:=heap_alloc_new w (.cells #[.string s,.string t] 42);have hB:=heap_alloc_new (w.alloc (.cells #[.string s,.string t] 42)) (.cells #[.string s',.string t'] 42);have hR:=heap_alloc_new ((w.alloc (.cells #[.string s,.string t] 42)).alloc (.cells #[.string s',.string t'] 42)) (.cells #[.string ⟨#[]⟩,.string ⟨#[]⟩] 42);have e1:(w.alloc (.cells #[.string s,.string t] 42)).heap.size=w.heap.size+1:=by simp
 have e2:((w.alloc (.cells #[.string s,.string t] 42)).alloc (.cells #[.string s',.string t'] 42)).heap.size=w.heap.size+1+1:=by simp
 refine⟨?_,?_,?_,?_⟩
 ·exact Kk hA (((Below.refl _ _).alloc nr_ _).alloc (by simp) _)
 ·rw[e1] at hB;exact Kk hB ((Below.refl _ _).alloc nr_ _)
 ·rw[e2] at hR;exact hR
 ·exact(((Below.refl _ _).alloc nr_ _).alloc (by simp) _).alloc (by simp;omega) _
theorem Zhd.next{w W0 W:World}{s t s' t':ByteArray}(h:Zhd w s t s' t' W0)(hb:Below W0.heap.size W0 W):Zhd w s t s' t' W :=
 ⟨Kk h.fa hb,Kk h.fb hb,Kk h.fr hb,h.bel.trans (hb.mono h.bel.size)⟩
theorem Zh5(w:World)(n:Int)(d:Nat)(hn:Za7 n)(hd:Num d):
  (((itx n).size≤9∧(dec d).size≤9)∧Kc Tryz.prog 113 #[fv n d] w (.tuple #[.int .i64 n,.int .i64 d,.bool true])) ∨
  (¬ ((itx n).size≤9∧(dec d).size≤9)∧∃ x y:Int,∀ W,Kc Tryz.prog 113 #[fv n d] W (.tuple #[.int .i64 x,.int .i64 y,.bool false])):=by
 by_cases h1:(itx n).size≤9
 ·by_cases h2:(dec d).size≤9
  ·left;have:=Zgx w n d hn hd
   unfold Ztf at this;rw[if_pos h1,if_pos h2,decide_eq_true h1,decide_eq_true h2] at this;exact⟨⟨h1,h2⟩,this⟩
  ·right;refine⟨fun h=>h2 h.2,n,0,fun W=>?_⟩
   have:=Zgx W n d hn hd
   unfold Ztf at this;rw[if_pos h1,if_neg h2,decide_eq_false h2,Bool.and_false] at this;exact this
 ·right;refine⟨fun h=>h1 h.1,0,if (dec d).size≤9 then d else 0,fun W=>?_⟩
  have:=Zgx W n d hn hd
  unfold Ztf at this;rw[if_neg h1,decide_eq_false h1,Bool.false_and] at this;exact this
theorem Zi(n:Int)(d:Nat)(hn:Za7 n)(hd:Num d)(h:(itx n).size≤9∧(dec d).size≤9)(W:World):
  Kc Tryz.prog 113 #[fv n d] W (.tuple #[.int .i64 n,.int .i64 d,.bool true]):=by
 rcases Zh5 W n d hn hd with⟨-,h2⟩|⟨h2,-⟩
 ·exact h2
 ·exact absurd h h2
theorem Zj(n:Int)(d:Nat)(hn:Za7 n)(hd:Num d)(h:¬ ((itx n).size≤9∧(dec d).size≤9)):
  ∃ x y:Int,∀ W,Kc Tryz.prog 113 #[fv n d] W (.tuple #[.int .i64 x,.int .i64 y,.bool false]):=by
 rcases Zh5 default n d hn hd with⟨h2,-⟩|⟨-,h2⟩
 ·exact absurd h2 h
 ·exact h2
theorem Zun(w:World)(n m:Int)(d e:Nat)(hn:Za7 n)(hm:Za7 m)(hd:Num d)(he:Num e)(hd0:0<d)(he0:0<e)(hnm:Num ((n*m).natAbs+1))(hde:Num (d*e+1))(L:Qb w):
  Kc Tryz.prog 47 #[fv n d,fv m e] w (Zjp (n*m) (d*e)):=by
 obtain⟨rs,hrs⟩:∃ rs,itx (n*m/((Nat.gcd (n*m).natAbs (d*e):Nat):Int))=rs:=⟨_,rfl⟩;obtain⟨rt,hrt⟩:∃ rt,dec (d*e/Nat.gcd (n*m).natAbs (d*e))=rt:=⟨_,rfl⟩;have hv:Zjp (n*m) (d*e) = .agg #[.string rs,.string rt]:=by unfold Zjp fv;rw[hrs,hrt]
 have Hv:=hd_ hv;have hde0:0<d*e:=Nat.mul_pos hd0 he0;unfold Kc;have H3:=hd_ (Zhd.mk' w (itx n) (dec d) (itx m) (dec e));have HL:=hd_ (L.below H3.out.bel);clear L;have Hm1:Hid (∀ W,Below (((w.alloc (.cells #[.string (itx n),.string (dec d)] 42)).alloc (.cells #[.string (itx m),.string (dec e)] 42)).alloc (.cells #[.string ⟨#[]⟩,.string ⟨#[]⟩] 42)).heap.size (((w.alloc (.cells #[.string (itx n),.string (dec d)] 42)).alloc (.cells #[.string (itx m),.string (dec e)] 42)).alloc (.cells #[.string ⟨#[]⟩,.string ⟨#[]⟩] 42)) W→∀ d' os,Calls Tryz.prog 115 #[.string (itx n),.string (itx m)] (Go.Sort.grow (redrawn W d') os) fun x w''=>x = .returned (.string (itx (n*m)))∧∃ p:Regrown,w''=Go.Sort.grow (redrawn W p.d) p.os):=fun W hW d' os =>
  Calls.regrown_of (Yu _ n m hn hm (hnm.le (Nat.le_succ _)) ((HL.out.below hW).below (below_regrown W d' os)))
 have Hm2:Hid (∀ W,Below (((w.alloc (.cells #[.string (itx n),.string (dec d)] 42)).alloc (.cells #[.string (itx m),.string (dec e)] 42)).alloc (.cells #[.string ⟨#[]⟩,.string ⟨#[]⟩] 42)).heap.size (((w.alloc (.cells #[.string (itx n),.string (dec d)] 42)).alloc (.cells #[.string (itx m),.string (dec e)] 42)).alloc (.cells #[.string ⟨#[]⟩,.string ⟨#[]⟩] 42)) W→∀ d' os,Calls Tryz.prog 115 #[.string (dec d),.string (dec e)] (Go.Sort.grow (redrawn W d') os) fun x w''=>x = .returned (.string (dec (d*e)))∧∃ p:Regrown,w''=Go.Sort.grow (redrawn W p.d) p.os):=fun W hW d' os=>by
  have:=Yu (Go.Sort.grow (redrawn W d') os) (d:Int) (e:Int) (show Num _ from hd) (show Num _ from he) (show Num _ from by rw[Int.natAbs_mul];exact hde.le (Nat.le_succ _)) ((HL.out.below hW).below (below_regrown W d' os))
  rw[Kj,Kj,← Int.natCast_mul,Kj] at this;exact Calls.regrown_of this
 have Hm3:Hid (∀ W,Below (((w.alloc (.cells #[.string (itx n),.string (dec d)] 42)).alloc (.cells #[.string (itx m),.string (dec e)] 42)).alloc (.cells #[.string ⟨#[]⟩,.string ⟨#[]⟩] 42)).heap.size (((w.alloc (.cells #[.string (itx n),.string (dec d)] 42)).alloc (.cells #[.string (itx m),.string (dec e)] 42)).alloc (.cells #[.string ⟨#[]⟩,.string ⟨#[]⟩] 42)) W→∀ d' os,Calls Tryz.prog 125 #[.string (itx (n*m)),.string (dec (d*e))] (Go.Sort.grow (redrawn W d') os) fun x w''=>x = .returned (.agg #[.string rs,.string rt])∧∃ p:Regrown,w''=Go.Sort.grow (redrawn W p.d) p.os):=fun W hW d' os=>by
  have:=Zb0 (Go.Sort.grow (redrawn W d') os) (n*m) (d*e) _ (hnm.le (Nat.le_succ _)) (hde.le (Nat.le_succ _)) hde0 hnm hde rfl ((HL.out.below hW).below (below_regrown W d' os))
  unfold fv at this;rw[hrs,hrt] at this;exact Calls.regrown_of this
 by_cases h1:(itx n).size≤9∧(dec d).size≤9
 ·have Hc1:=hd_ (Zi n d hn hd h1)
  by_cases h2:(itx m).size≤9∧(dec e).size≤9
  ·have Hc2:=hd_ (Zi m e hm he h2);have q1:=Za n 9 (by decide) h1.1
   have q2:=Za m 9 (by decide) h2.1
   have q3:=(Kr d 9 (by decide)).1 (by rw[← Kw];exact h1.2)
   have q4:=(Kr e 9 (by decide)).1 (by rw[← Kw];exact h2.2)
   have q5:(n*m).natAbs≤1000000000*1000000000:=by rw[Int.natAbs_mul];exact Nat.mul_le_mul (by omega) (by omega)
   have q6:d*e≤1000000000*1000000000:=Nat.mul_le_mul (by omega) (by omega)
   have hw1:IntKind.i64.wrap (n*m)=n*m:=iw_ _ (by omega)
   have hw2:IntKind.i64.wrap ((d:Int)*(e:Int))=((d*e:Nat):Int):=by rw[← Int.natCast_mul];exact iw_ _ ⟨Int.le_trans (by decide) (Int.natCast_nonneg _),Int.le_trans (Int.ofNat_le.2 q6) (by decide)⟩
   have Hof:Hid (∀ W,Below (((w.alloc (.cells #[.string (itx n),.string (dec d)] 42)).alloc (.cells #[.string (itx m),.string (dec e)] 42)).alloc (.cells #[.string ⟨#[]⟩,.string ⟨#[]⟩] 42)).heap.size (((w.alloc (.cells #[.string (itx n),.string (dec d)] 42)).alloc (.cells #[.string (itx m),.string (dec e)] 42)).alloc (.cells #[.string ⟨#[]⟩,.string ⟨#[]⟩] 42)) W→Kc Tryz.prog 124 #[.int .i64 (n*m),.int .i64 ((d*e:Nat):Int)] W (.agg #[.string rs,.string rt])):=fun W hW=>by
    have:=Zl9 W (n*m) (d*e) _ (by omega) (by omega) hde0 rfl (HL.out.below hW)
    unfold fv at this;rw[hrs,hrt] at this;exact this
   unfold fv at Hc1 Hc2 ⊢;clear Hm1 Hm2 Hm3 q1 q2 q3 q4 q5 q6 h1 h2 hrs hrt hv hde0;go_enter Tryz.func47,Tryz.ntmps47;obtain⟨k0,k1,-,-⟩:=Ka H3.out.fa;obtain⟨k2,k3,-,-⟩:=Ka H3.out.fb
   go_wp2_with fail
   generalize ((w.alloc (.cells #[.string (itx n),.string (dec d)] 42)).alloc (.cells #[.string (itx m),.string (dec e)] 42)).alloc (.cells #[.string ⟨#[]⟩,.string ⟨#[]⟩] 42)=W0 at *
   clear k0 k1 k2 k3;refine cm_ (Hc1.out _) ?_;rintro e w1 ⟨rfl,hb1⟩;have Hb1:=hd_ hb1;clear hb1 Hc1;obtain⟨k0,k1,-,-⟩:=Ka (H3.out.next Hb1.out).fa;obtain⟨k2,k3,-,-⟩:=Ka (H3.out.next Hb1.out).fb
   go_wp2_with fail
   clear k0 k1 k2 k3;refine cm_ (Hc2.out _) ?_;rintro e w2 ⟨rfl,hb2⟩;have Hb2:=hd_ (Hb1.out.trans (hb2.mono Hb1.out.size));clear hb2 Hb1 Hc2
   go_wp2_with fail
   refine cm_ (Hof.out w2 Hb2.out) ?_;rintro e w3 ⟨rfl,hb3⟩;have Hb3:=hd_ (Hb2.out.trans (hb3.mono Hb2.out.size));clear hb3 Hb2 Hof;have H8:=hd_ (H3.out.next Hb3.out);clear H3 Hb3;obtain⟨k0,k1,f0,f1⟩:=Ka H8.out.fr;have Hbw:=hd_ H8.out.bel;clear H8;go_wp2;obtain⟨c0,c1,hb3⟩:=Kq (B:=w.heap.size) (.string rs) (.string rt) k0 k1 (by omega) Hbw.out
   generalize (w3.setCell ⟨w.heap.size+1+1,0,none⟩ (.string rs)).setCell ⟨w.heap.size+1+1,1,none⟩ (.string rt)=w9 at *
   exact bodyPost_ret (v := .agg #[.string rs,.string rt]) (by simp[results,Tryz.results47,go_sem,c0,c1]) rfl ⟨by rw[Hv.out],hb3⟩
  ·obtain⟨x,y,hc2⟩:=Zj m e hm he h2;have Hc2:=hd_ hc2;unfold fv at Hc1 Hc2 ⊢;clear h1 h2 hrs hrt hv hde0 hc2;go_enter Tryz.func47,Tryz.ntmps47;obtain⟨k0,k1,-,-⟩:=Ka H3.out.fa;obtain⟨k2,k3,-,-⟩:=Ka H3.out.fb
   go_wp2_with fail
   generalize ((w.alloc (.cells #[.string (itx n),.string (dec d)] 42)).alloc (.cells #[.string (itx m),.string (dec e)] 42)).alloc (.cells #[.string ⟨#[]⟩,.string ⟨#[]⟩] 42)=W0 at *
   clear k0 k1 k2 k3;refine cm_ (Hc1.out _) ?_;rintro e w1 ⟨rfl,hb1⟩;have Hb1:=hd_ hb1;clear hb1 Hc1;obtain⟨k0,k1,-,-⟩:=Ka (H3.out.next Hb1.out).fa;obtain⟨k2,k3,-,-⟩:=Ka (H3.out.next Hb1.out).fb
   go_wp2_with fail
   clear k0 k1 k2 k3;refine cm_ (Hc2.out _) ?_;rintro e w2 ⟨rfl,hb2⟩;have Hb2:=hd_ (Hb1.out.trans (hb2.mono Hb1.out.size));clear hb2 Hb1 Hc2;obtain⟨k0,k1,-,-⟩:=Ka (H3.out.next Hb2.out).fa;obtain⟨k2,k3,-,-⟩:=Ka (H3.out.next Hb2.out).fb;have q0:=cell_regrown k0;have q1:=cell_regrown k1;have q2:=cell_regrown k2;have q3:=cell_regrown k3;have hM1:=Hm1.out w2 Hb2.out;have hM2:=Hm2.out w2 Hb2.out;have hM3:=Hm3.out w2 Hb2.out;clear k0 k1 k2 k3 Hm1 Hm2 Hm3
   go_wp2_with fail
   refine Kv 11 (by kernel_rfl) (by kernel_rfl) ?_
   simp only[List.take_succ_cons,List.take_zero,List.drop_succ_cons,List.drop_zero]
   repeat (first | go_big_quiet_step (first | with_reducible exact hM1 _ _ | with_reducible exact hM2 _ _ | with_reducible exact hM3 _ _) | quiet_step (first | with_reducible exact hM1 _ _ | with_reducible exact hM2 _ _ | with_reducible exact hM3 _ _))
   refine wpQuiet_nil ?_;intro w8 hw8;obtain⟨⟨dq,osq⟩,rfl⟩:=hw8;have hb8:=below_regrown w2 dq osq;have H8:=hd_ ((H3.out.next Hb2.out).next hb8);clear hb8 hM1 hM2 hM3 q0 q1 q2 q3 H3 Hb2;generalize Go.Sort.grow (redrawn w2 dq) osq=w8 at *
   obtain⟨k0,k1,f0,f1⟩:=Ka H8.out.fr;have Hbw:=hd_ H8.out.bel;clear H8;go_wp2;obtain⟨c0,c1,hb3⟩:=Kq (B:=w.heap.size) (.string rs) (.string rt) k0 k1 (by omega) Hbw.out
   generalize (w8.setCell ⟨w.heap.size+1+1,0,none⟩ (.string rs)).setCell ⟨w.heap.size+1+1,1,none⟩ (.string rt)=w9 at *
   exact bodyPost_ret (v := .agg #[.string rs,.string rt]) (by simp[results,Tryz.results47,go_sem,c0,c1]) rfl ⟨by rw[Hv.out],hb3⟩
 ·obtain⟨x,y,hc1⟩:=Zj n d hn hd h1;have Hc1:=hd_ hc1;unfold fv at Hc1 ⊢;clear h1 hrs hrt hv hde0 hc1;go_enter Tryz.func47,Tryz.ntmps47;obtain⟨k0,k1,-,-⟩:=Ka H3.out.fa;obtain⟨k2,k3,-,-⟩:=Ka H3.out.fb
  go_wp2_with fail
  generalize ((w.alloc (.cells #[.string (itx n),.string (dec d)] 42)).alloc (.cells #[.string (itx m),.string (dec e)] 42)).alloc (.cells #[.string ⟨#[]⟩,.string ⟨#[]⟩] 42)=W0 at *
  clear k0 k1 k2 k3;refine cm_ (Hc1.out _) ?_;rintro e w1 ⟨rfl,hb1⟩;have Hb1:=hd_ hb1;clear hb1 Hc1;obtain⟨k0,k1,-,-⟩:=Ka (H3.out.next Hb1.out).fa;obtain⟨k2,k3,-,-⟩:=Ka (H3.out.next Hb1.out).fb;have q0:=cell_regrown k0;have q1:=cell_regrown k1;have q2:=cell_regrown k2;have q3:=cell_regrown k3;have hM1:=Hm1.out w1 Hb1.out;have hM2:=Hm2.out w1 Hb1.out;have hM3:=Hm3.out w1 Hb1.out;clear k0 k1 k2 k3 Hm1 Hm2 Hm3
  go_wp2_with fail
  refine Kv 11 (by kernel_rfl) (by kernel_rfl) ?_
  simp only[List.take_succ_cons,List.take_zero,List.drop_succ_cons,List.drop_zero]
  repeat (first | go_big_quiet_step (first | with_reducible exact hM1 _ _ | with_reducible exact hM2 _ _ | with_reducible exact hM3 _ _) | quiet_step (first | with_reducible exact hM1 _ _ | with_reducible exact hM2 _ _ | with_reducible exact hM3 _ _))
  refine wpQuiet_nil ?_;intro w8 hw8;obtain⟨⟨dq,osq⟩,rfl⟩:=hw8;have hb8:=below_regrown w1 dq osq;have H8:=hd_ ((H3.out.next Hb1.out).next hb8);clear hb8 hM1 hM2 hM3 q0 q1 q2 q3 H3 Hb1;generalize Go.Sort.grow (redrawn w1 dq) osq=w8 at *
  obtain⟨k0,k1,f0,f1⟩:=Ka H8.out.fr;have Hbw:=hd_ H8.out.bel;clear H8;go_wp2;obtain⟨c0,c1,hb3⟩:=Kq (B:=w.heap.size) (.string rs) (.string rt) k0 k1 (by omega) Hbw.out
  generalize (w8.setCell ⟨w.heap.size+1+1,0,none⟩ (.string rs)).setCell ⟨w.heap.size+1+1,1,none⟩ (.string rt)=w9 at *
  exact bodyPost_ret (v := .agg #[.string rs,.string rt]) (by simp[results,Tryz.results47,go_sem,c0,c1]) rfl ⟨by rw[Hv.out],hb3⟩
theorem Zuc(x:Int):Zjp x 1=fv x 1:=by
 unfold Zjp;rw[Nat.gcd_one_right,show ((1:Nat):Int)=1 from rfl,Int.ediv_one]
theorem Zv4(w:World)(n m:Int)(d e:Nat)(hn:Za7 n)(hm:Za7 m)(hd:Num d)(he:Num e)(hd0:0<d)(he0:0<e)
  (hnm:Num ((n*e).natAbs+(m*d).natAbs+1)) (hnp:Num (n.natAbs+m.natAbs)) (hde:Num (d*e+1)) (L:Qb w) :
  Kc Tryz.prog 110 #[fv n d,fv m e] w (Zjp (n*e+m*d) (d*e)):=by
 have hde0:0<d*e:=Nat.mul_pos hd0 he0;have hsum:(n*e+m*d).natAbs≤(n*e).natAbs+(m*d).natAbs:=Int.natAbs_add_le _ _;have hs1:Num ((n*e+m*d).natAbs+1):=hnm.le (by omega)
 have hne:Num (n*e).natAbs:=hnm.le (by omega)
 have hmd:Num (m*d).natAbs:=hnm.le (by omega)
 have H3:=hd_ (Zhd.mk' w (itx n) (dec d) (itx m) (dec e));have HL:=hd_ (L.below H3.out.bel);clear L;have o1:=Zhy d;have o2:=Zhy e
 by_cases hone:d=1∧e=1
 ·obtain⟨rfl,rfl⟩:=hone;obtain⟨rs,hrs⟩:∃ rs,itx (n+m)=rs:=⟨_,rfl⟩;obtain⟨rt,hrt⟩:∃ rt,dec 1=rt:=⟨_,rfl⟩;have Hrt1:=hd_ (hrt.symm.trans Vf);have hv:Zjp (n*(1:Nat)+m*(1:Nat)) (1*1) = .agg #[.string rs,.string rt]:=by
   rw[show (1*1:Nat)=1 from rfl,Zuc,show ((1:Nat):Int)=1 from rfl,Int.mul_one,Int.mul_one]
   unfold fv;rw[hrs,hrt]
  have Hv:=hd_ hv;unfold Kc;have Had:Hid (∀ W,Below (((w.alloc (.cells #[.string (itx n),.string (dec 1)] 42)).alloc (.cells #[.string (itx m),.string (dec 1)] 42)).alloc (.cells #[.string ⟨#[]⟩,.string ⟨#[]⟩] 42)).heap.size (((w.alloc (.cells #[.string (itx n),.string (dec 1)] 42)).alloc (.cells #[.string (itx m),.string (dec 1)] 42)).alloc (.cells #[.string ⟨#[]⟩,.string ⟨#[]⟩] 42)) W→Kc Tryz.prog 20 #[.string (itx n),.string (itx m)] W (.string rs)):=fun W hW=>by
   have:=Zfi W n m hn hm hnp (HL.out.below hW)
   rw[hrs] at this;exact this
  rw[decide_eq_true rfl] at o1 o2;unfold fv;rw[hrt] at H3 HL Had o1 o2 ⊢;clear hv hrs hrt hne hmd hs1 hsum hnm hde hde0 hd he;go_enter Tryz.func110,Tryz.ntmps110;obtain⟨k0,k1,-,-⟩:=Ka H3.out.fa;obtain⟨k2,k3,-,-⟩:=Ka H3.out.fb
  go_wp2_with fail
  generalize ((w.alloc (.cells #[.string (itx n),.string (rt)] 42)).alloc (.cells #[.string (itx m),.string (rt)] 42)).alloc (.cells #[.string ⟨#[]⟩,.string ⟨#[]⟩] 42)=W0 at *
  clear k0 k1 k2 k3;refine cm_ (Had.out _ (Below.refl _ _)) ?_;rintro e w1 ⟨rfl,hb1⟩;have Hb1:=hd_ hb1;clear hb1 Had;have H8:=hd_ (H3.out.next Hb1.out);clear H3 Hb1;rw[Hrt1.out] at *
  obtain⟨k0,k1,f0,f1⟩:=Ka H8.out.fr;have Hbw:=hd_ H8.out.bel;clear H8;go_wp2;obtain⟨c0,c1,hb3⟩:=Kq (B:=w.heap.size) (.string rs) (.string ⟨#[49]⟩) k0 k1 (by omega) Hbw.out
  generalize (w1.setCell ⟨w.heap.size+1+1,0,none⟩ (.string rs)).setCell ⟨w.heap.size+1+1,1,none⟩ (.string ⟨#[49]⟩)=w9 at *
  exact bodyPost_ret (v := .agg #[.string rs,.string ⟨#[49]⟩]) (by simp[results,Tryz.results110,go_sem,c0,c1]) rfl ⟨by rw[Hv.out],hb3⟩
 ·obtain⟨rs,hrs⟩:∃ rs,itx ((n*e+m*d)/((Nat.gcd (n*e+m*d).natAbs (d*e):Nat):Int))=rs:=⟨_,rfl⟩;obtain⟨rt,hrt⟩:∃ rt,dec (d*e/Nat.gcd (n*e+m*d).natAbs (d*e))=rt:=⟨_,rfl⟩;have hv:Zjp (n*e+m*d) (d*e) = .agg #[.string rs,.string rt]:=by unfold Zjp fv;rw[hrs,hrt]
  have Hv:=hd_ hv;unfold Kc;have Hm1:Hid (∀ W,Below (((w.alloc (.cells #[.string (itx n),.string (dec d)] 42)).alloc (.cells #[.string (itx m),.string (dec e)] 42)).alloc (.cells #[.string ⟨#[]⟩,.string ⟨#[]⟩] 42)).heap.size (((w.alloc (.cells #[.string (itx n),.string (dec d)] 42)).alloc (.cells #[.string (itx m),.string (dec e)] 42)).alloc (.cells #[.string ⟨#[]⟩,.string ⟨#[]⟩] 42)) W→∀ d' os,Calls Tryz.prog 115 #[.string (itx n),.string (dec e)] (Go.Sort.grow (redrawn W d') os) fun x w''=>x = .returned (.string (itx (n*e)))∧∃ p:Regrown,w''=Go.Sort.grow (redrawn W p.d) p.os):=fun W hW d' os=>by
   have:=Yu (Go.Sort.grow (redrawn W d') os) n (e:Int) hn (show Num _ from he) hne ((HL.out.below hW).below (below_regrown W d' os))
   rw[Kj] at this;exact Calls.regrown_of this
  have Hm2:Hid (∀ W,Below (((w.alloc (.cells #[.string (itx n),.string (dec d)] 42)).alloc (.cells #[.string (itx m),.string (dec e)] 42)).alloc (.cells #[.string ⟨#[]⟩,.string ⟨#[]⟩] 42)).heap.size (((w.alloc (.cells #[.string (itx n),.string (dec d)] 42)).alloc (.cells #[.string (itx m),.string (dec e)] 42)).alloc (.cells #[.string ⟨#[]⟩,.string ⟨#[]⟩] 42)) W→∀ d' os,Calls Tryz.prog 115 #[.string (itx m),.string (dec d)] (Go.Sort.grow (redrawn W d') os) fun x w''=>x = .returned (.string (itx (m*d)))∧∃ p:Regrown,w''=Go.Sort.grow (redrawn W p.d) p.os):=fun W hW d' os=>by
   have:=Yu (Go.Sort.grow (redrawn W d') os) m (d:Int) hm (show Num _ from hd) hmd ((HL.out.below hW).below (below_regrown W d' os))
   rw[Kj] at this;exact Calls.regrown_of this
  have Hm3:Hid (∀ W,Below (((w.alloc (.cells #[.string (itx n),.string (dec d)] 42)).alloc (.cells #[.string (itx m),.string (dec e)] 42)).alloc (.cells #[.string ⟨#[]⟩,.string ⟨#[]⟩] 42)).heap.size (((w.alloc (.cells #[.string (itx n),.string (dec d)] 42)).alloc (.cells #[.string (itx m),.string (dec e)] 42)).alloc (.cells #[.string ⟨#[]⟩,.string ⟨#[]⟩] 42)) W→∀ d' os,Calls Tryz.prog 20 #[.string (itx (n*e)),.string (itx (m*d))] (Go.Sort.grow (redrawn W d') os) fun x w''=>x = .returned (.string (itx (n*e+m*d)))∧∃ p:Regrown,w''=Go.Sort.grow (redrawn W p.d) p.os):=fun W hW d' os=>by
   exact Calls.regrown_of (Zfi (Go.Sort.grow (redrawn W d') os) (n*e) (m*d) hne hmd (hnm.le (Nat.le_succ _)) ((HL.out.below hW).below (below_regrown W d' os)))
  have Hm4:Hid (∀ W,Below (((w.alloc (.cells #[.string (itx n),.string (dec d)] 42)).alloc (.cells #[.string (itx m),.string (dec e)] 42)).alloc (.cells #[.string ⟨#[]⟩,.string ⟨#[]⟩] 42)).heap.size (((w.alloc (.cells #[.string (itx n),.string (dec d)] 42)).alloc (.cells #[.string (itx m),.string (dec e)] 42)).alloc (.cells #[.string ⟨#[]⟩,.string ⟨#[]⟩] 42)) W→∀ d' os,Calls Tryz.prog 115 #[.string (dec d),.string (dec e)] (Go.Sort.grow (redrawn W d') os) fun x w''=>x = .returned (.string (dec (d*e)))∧∃ p:Regrown,w''=Go.Sort.grow (redrawn W p.d) p.os):=fun W hW d' os=>by
   have:=Yu (Go.Sort.grow (redrawn W d') os) (d:Int) (e:Int) (show Num _ from hd) (show Num _ from he) (show Num _ from by rw[Int.natAbs_mul];exact hde.le (Nat.le_succ _)) ((HL.out.below hW).below (below_regrown W d' os))
   rw[Kj,Kj,← Int.natCast_mul,Kj] at this;exact Calls.regrown_of this
  have Hm5:Hid (∀ W,Below (((w.alloc (.cells #[.string (itx n),.string (dec d)] 42)).alloc (.cells #[.string (itx m),.string (dec e)] 42)).alloc (.cells #[.string ⟨#[]⟩,.string ⟨#[]⟩] 42)).heap.size (((w.alloc (.cells #[.string (itx n),.string (dec d)] 42)).alloc (.cells #[.string (itx m),.string (dec e)] 42)).alloc (.cells #[.string ⟨#[]⟩,.string ⟨#[]⟩] 42)) W→∀ d' os,Calls Tryz.prog 125 #[.string (itx (n*e+m*d)),.string (dec (d*e))] (Go.Sort.grow (redrawn W d') os) fun x w''=>x = .returned (.agg #[.string rs,.string rt])∧∃ p:Regrown,w''=Go.Sort.grow (redrawn W p.d) p.os):=fun W hW d' os=>by
   have:=Zb0 (Go.Sort.grow (redrawn W d') os) (n*e+m*d) (d*e) _ (hs1.le (Nat.le_succ _)) (hde.le (Nat.le_succ _)) hde0 hs1 hde rfl ((HL.out.below hW).below (below_regrown W d' os))
   unfold fv at this;rw[hrs,hrt] at this;exact Calls.regrown_of this
  by_cases hd1:d=1
  ·rw[decide_eq_true hd1] at o1;rw[decide_eq_false (fun h=>hone ⟨hd1,h⟩)] at o2
   clear hd1 hone
   by_cases h1:(itx n).size≤9∧(dec d).size≤9
   ·have Hc1:=hd_ (Zi n d hn hd h1)
    by_cases h2:(itx m).size≤9∧(dec e).size≤9
    ·have Hc2:=hd_ (Zi m e hm he h2);have q1:=Za n 9 (by decide) h1.1
     have q2:=Za m 9 (by decide) h2.1
     have q3:=(Kr d 9 (by decide)).1 (by rw[← Kw];exact h1.2)
     have q4:=(Kr e 9 (by decide)).1 (by rw[← Kw];exact h2.2)
     have q5:(n*e).natAbs≤1000000000*1000000000:=by rw[Int.natAbs_mul];exact Nat.mul_le_mul (by omega) (by omega)
     have q7:(m*d).natAbs≤1000000000*1000000000:=by rw[Int.natAbs_mul];exact Nat.mul_le_mul (by omega) (by omega)
     have q6:d*e≤1000000000*1000000000:=Nat.mul_le_mul (by omega) (by omega)
     have hw1:IntKind.i64.wrap (n*e)=n*e:=iw_ _ (by omega)
     have hw3:IntKind.i64.wrap (m*d)=m*d:=iw_ _ (by omega)
     have hw4:IntKind.i64.wrap (n*e+m*d)=n*e+m*d:=iw_ _ (by omega)
     have hw2:IntKind.i64.wrap ((d:Int)*(e:Int))=((d*e:Nat):Int):=by rw[← Int.natCast_mul];exact iw_ _ ⟨Int.le_trans (by decide) (Int.natCast_nonneg _),Int.le_trans (Int.ofNat_le.2 q6) (by decide)⟩
     have Hof:Hid (∀ W,Below (((w.alloc (.cells #[.string (itx n),.string (dec d)] 42)).alloc (.cells #[.string (itx m),.string (dec e)] 42)).alloc (.cells #[.string ⟨#[]⟩,.string ⟨#[]⟩] 42)).heap.size (((w.alloc (.cells #[.string (itx n),.string (dec d)] 42)).alloc (.cells #[.string (itx m),.string (dec e)] 42)).alloc (.cells #[.string ⟨#[]⟩,.string ⟨#[]⟩] 42)) W→Kc Tryz.prog 124 #[.int .i64 (n*e+m*d),.int .i64 ((d*e:Nat):Int)] W (.agg #[.string rs,.string rt])):=fun W hW=>by
      have:=Zl9 W (n*e+m*d) (d*e) _ (by omega) (by omega) hde0 rfl (HL.out.below hW)
      unfold fv at this;rw[hrs,hrt] at this;exact this
     unfold fv at Hc1 Hc2 ⊢;clear Hm1 Hm2 Hm3 Hm4 Hm5 q1 q2 q3 q4 q5 q6 q7 h1 h2 hrs hrt hv hde0 hsum;go_enter Tryz.func110,Tryz.ntmps110;obtain⟨k0,k1,-,-⟩:=Ka H3.out.fa;obtain⟨k2,k3,-,-⟩:=Ka H3.out.fb
     go_wp2_with fail
     generalize ((w.alloc (.cells #[.string (itx n),.string (dec d)] 42)).alloc (.cells #[.string (itx m),.string (dec e)] 42)).alloc (.cells #[.string ⟨#[]⟩,.string ⟨#[]⟩] 42)=W0 at *
     clear k0 k1 k2 k3;refine cm_ (Hc1.out _) ?_;rintro e w1 ⟨rfl,hb1⟩;have Hb1:=hd_ hb1;clear hb1 Hc1;obtain⟨k0,k1,-,-⟩:=Ka (H3.out.next Hb1.out).fa;obtain⟨k2,k3,-,-⟩:=Ka (H3.out.next Hb1.out).fb
     go_wp2_with fail
     clear k0 k1 k2 k3;refine cm_ (Hc2.out _) ?_;rintro e w2 ⟨rfl,hb2⟩;have Hb2:=hd_ (Hb1.out.trans (hb2.mono Hb1.out.size));clear hb2 Hb1 Hc2
     go_wp2_with fail
     refine cm_ (Hof.out w2 Hb2.out) ?_;rintro e w3 ⟨rfl,hb3⟩;have Hb3:=hd_ (Hb2.out.trans (hb3.mono Hb2.out.size));clear hb3 Hb2 Hof;have H8:=hd_ (H3.out.next Hb3.out);clear H3 Hb3;obtain⟨k0,k1,f0,f1⟩:=Ka H8.out.fr;have Hbw:=hd_ H8.out.bel;clear H8;go_wp2;obtain⟨c0,c1,hb3⟩:=Kq (B:=w.heap.size) (.string rs) (.string rt) k0 k1 (by omega) Hbw.out
     generalize (w3.setCell ⟨w.heap.size+1+1,0,none⟩ (.string rs)).setCell ⟨w.heap.size+1+1,1,none⟩ (.string rt)=w9 at *
     exact bodyPost_ret (v := .agg #[.string rs,.string rt]) (by simp[results,Tryz.results110,go_sem,c0,c1]) rfl ⟨by rw[Hv.out],hb3⟩
    ·obtain⟨x,y,hc2⟩:=Zj m e hm he h2;have Hc2:=hd_ hc2;unfold fv at Hc1 Hc2 ⊢;clear h1 h2 hrs hrt hv hde0 hc2 hsum;go_enter Tryz.func110,Tryz.ntmps110;obtain⟨k0,k1,-,-⟩:=Ka H3.out.fa;obtain⟨k2,k3,-,-⟩:=Ka H3.out.fb
     go_wp2_with fail
     generalize ((w.alloc (.cells #[.string (itx n),.string (dec d)] 42)).alloc (.cells #[.string (itx m),.string (dec e)] 42)).alloc (.cells #[.string ⟨#[]⟩,.string ⟨#[]⟩] 42)=W0 at *
     clear k0 k1 k2 k3;refine cm_ (Hc1.out _) ?_;rintro e w1 ⟨rfl,hb1⟩;have Hb1:=hd_ hb1;clear hb1 Hc1;obtain⟨k0,k1,-,-⟩:=Ka (H3.out.next Hb1.out).fa;obtain⟨k2,k3,-,-⟩:=Ka (H3.out.next Hb1.out).fb
     go_wp2_with fail
     clear k0 k1 k2 k3;refine cm_ (Hc2.out _) ?_;rintro e w2 ⟨rfl,hb2⟩;have Hb2:=hd_ (Hb1.out.trans (hb2.mono Hb1.out.size));clear hb2 Hb1 Hc2;obtain⟨k0,k1,-,-⟩:=Ka (H3.out.next Hb2.out).fa;obtain⟨k2,k3,-,-⟩:=Ka (H3.out.next Hb2.out).fb;have q0:=cell_regrown k0;have q1:=cell_regrown k1;have q2:=cell_regrown k2;have q3:=cell_regrown k3;have hM1:=Hm1.out w2 Hb2.out;have hM2:=Hm2.out w2 Hb2.out;have hM3:=Hm3.out w2 Hb2.out;have hM4:=Hm4.out w2 Hb2.out;have hM5:=Hm5.out w2 Hb2.out;clear k0 k1 k2 k3 Hm1 Hm2 Hm3 Hm4 Hm5
     go_wp2_with fail
     refine Kv 17 (by kernel_rfl) (by kernel_rfl) ?_
     simp only[List.take_succ_cons,List.take_zero,List.drop_succ_cons,List.drop_zero]
     repeat (first | go_big_quiet_step (first | with_reducible exact hM1 _ _ | with_reducible exact hM2 _ _ | with_reducible exact hM3 _ _ | with_reducible exact hM4 _ _ | with_reducible exact hM5 _ _) | quiet_step (first | with_reducible exact hM1 _ _ | with_reducible exact hM2 _ _ | with_reducible exact hM3 _ _ | with_reducible exact hM4 _ _ | with_reducible exact hM5 _ _))
     refine wpQuiet_nil ?_;intro w8 hw8;obtain⟨⟨dq,osq⟩,rfl⟩:=hw8;have hb8:=below_regrown w2 dq osq;have H8:=hd_ ((H3.out.next Hb2.out).next hb8);clear hb8 hM1 hM2 hM3 hM4 hM5 q0 q1 q2 q3 H3 Hb2;generalize Go.Sort.grow (redrawn w2 dq) osq=w8 at *
     obtain⟨k0,k1,f0,f1⟩:=Ka H8.out.fr;have Hbw:=hd_ H8.out.bel;clear H8;go_wp2;obtain⟨c0,c1,hb3⟩:=Kq (B:=w.heap.size) (.string rs) (.string rt) k0 k1 (by omega) Hbw.out
     generalize (w8.setCell ⟨w.heap.size+1+1,0,none⟩ (.string rs)).setCell ⟨w.heap.size+1+1,1,none⟩ (.string rt)=w9 at *
     exact bodyPost_ret (v := .agg #[.string rs,.string rt]) (by simp[results,Tryz.results110,go_sem,c0,c1]) rfl ⟨by rw[Hv.out],hb3⟩
   ·obtain⟨x,y,hc1⟩:=Zj n d hn hd h1;have Hc1:=hd_ hc1;unfold fv at Hc1 ⊢;clear h1 hrs hrt hv hde0 hc1 hsum;go_enter Tryz.func110,Tryz.ntmps110;obtain⟨k0,k1,-,-⟩:=Ka H3.out.fa;obtain⟨k2,k3,-,-⟩:=Ka H3.out.fb
    go_wp2_with fail
    generalize ((w.alloc (.cells #[.string (itx n),.string (dec d)] 42)).alloc (.cells #[.string (itx m),.string (dec e)] 42)).alloc (.cells #[.string ⟨#[]⟩,.string ⟨#[]⟩] 42)=W0 at *
    clear k0 k1 k2 k3;refine cm_ (Hc1.out _) ?_;rintro e w1 ⟨rfl,hb1⟩;have Hb1:=hd_ hb1;clear hb1 Hc1;obtain⟨k0,k1,-,-⟩:=Ka (H3.out.next Hb1.out).fa;obtain⟨k2,k3,-,-⟩:=Ka (H3.out.next Hb1.out).fb;have q0:=cell_regrown k0;have q1:=cell_regrown k1;have q2:=cell_regrown k2;have q3:=cell_regrown k3;have hM1:=Hm1.out w1 Hb1.out;have hM2:=Hm2.out w1 Hb1.out;have hM3:=Hm3.out w1 Hb1.out;have hM4:=Hm4.out w1 Hb1.out;have hM5:=Hm5.out w1 Hb1.out;clear k0 k1 k2 k3 Hm1 Hm2 Hm3 Hm4 Hm5
    go_wp2_with fail
    refine Kv 17 (by kernel_rfl) (by kernel_rfl) ?_
    simp only[List.take_succ_cons,List.take_zero,List.drop_succ_cons,List.drop_zero]
    repeat (first | go_big_quiet_step (first | with_reducible exact hM1 _ _ | with_reducible exact hM2 _ _ | with_reducible exact hM3 _ _ | with_reducible exact hM4 _ _ | with_reducible exact hM5 _ _) | quiet_step (first | with_reducible exact hM1 _ _ | with_reducible exact hM2 _ _ | with_reducible exact hM3 _ _ | with_reducible exact hM4 _ _ | with_reducible exact hM5 _ _))
    refine wpQuiet_nil ?_;intro w8 hw8;obtain⟨⟨dq,osq⟩,rfl⟩:=hw8;have hb8:=below_regrown w1 dq osq;have H8:=hd_ ((H3.out.next Hb1.out).next hb8);clear hb8 hM1 hM2 hM3 hM4 hM5 q0 q1 q2 q3 H3 Hb1;generalize Go.Sort.grow (redrawn w1 dq) osq=w8 at *
    obtain⟨k0,k1,f0,f1⟩:=Ka H8.out.fr;have Hbw:=hd_ H8.out.bel;clear H8;go_wp2;obtain⟨c0,c1,hb3⟩:=Kq (B:=w.heap.size) (.string rs) (.string rt) k0 k1 (by omega) Hbw.out
    generalize (w8.setCell ⟨w.heap.size+1+1,0,none⟩ (.string rs)).setCell ⟨w.heap.size+1+1,1,none⟩ (.string rt)=w9 at *
    exact bodyPost_ret (v := .agg #[.string rs,.string rt]) (by simp[results,Tryz.results110,go_sem,c0,c1]) rfl ⟨by rw[Hv.out],hb3⟩
  ·rw[decide_eq_false hd1] at o1;clear hd1 hone o2
   by_cases h1:(itx n).size≤9∧(dec d).size≤9
   ·have Hc1:=hd_ (Zi n d hn hd h1)
    by_cases h2:(itx m).size≤9∧(dec e).size≤9
    ·have Hc2:=hd_ (Zi m e hm he h2);have q1:=Za n 9 (by decide) h1.1
     have q2:=Za m 9 (by decide) h2.1
     have q3:=(Kr d 9 (by decide)).1 (by rw[← Kw];exact h1.2)
     have q4:=(Kr e 9 (by decide)).1 (by rw[← Kw];exact h2.2)
     have q5:(n*e).natAbs≤1000000000*1000000000:=by rw[Int.natAbs_mul];exact Nat.mul_le_mul (by omega) (by omega)
     have q7:(m*d).natAbs≤1000000000*1000000000:=by rw[Int.natAbs_mul];exact Nat.mul_le_mul (by omega) (by omega)
     have q6:d*e≤1000000000*1000000000:=Nat.mul_le_mul (by omega) (by omega)
     have hw1:IntKind.i64.wrap (n*e)=n*e:=iw_ _ (by omega)
     have hw3:IntKind.i64.wrap (m*d)=m*d:=iw_ _ (by omega)
     have hw4:IntKind.i64.wrap (n*e+m*d)=n*e+m*d:=iw_ _ (by omega)
     have hw2:IntKind.i64.wrap ((d:Int)*(e:Int))=((d*e:Nat):Int):=by rw[← Int.natCast_mul];exact iw_ _ ⟨Int.le_trans (by decide) (Int.natCast_nonneg _),Int.le_trans (Int.ofNat_le.2 q6) (by decide)⟩
     have Hof:Hid (∀ W,Below (((w.alloc (.cells #[.string (itx n),.string (dec d)] 42)).alloc (.cells #[.string (itx m),.string (dec e)] 42)).alloc (.cells #[.string ⟨#[]⟩,.string ⟨#[]⟩] 42)).heap.size (((w.alloc (.cells #[.string (itx n),.string (dec d)] 42)).alloc (.cells #[.string (itx m),.string (dec e)] 42)).alloc (.cells #[.string ⟨#[]⟩,.string ⟨#[]⟩] 42)) W→Kc Tryz.prog 124 #[.int .i64 (n*e+m*d),.int .i64 ((d*e:Nat):Int)] W (.agg #[.string rs,.string rt])):=fun W hW=>by
      have:=Zl9 W (n*e+m*d) (d*e) _ (by omega) (by omega) hde0 rfl (HL.out.below hW)
      unfold fv at this;rw[hrs,hrt] at this;exact this
     unfold fv at Hc1 Hc2 ⊢;clear Hm1 Hm2 Hm3 Hm4 Hm5 q1 q2 q3 q4 q5 q6 q7 h1 h2 hrs hrt hv hde0 hsum;go_enter Tryz.func110,Tryz.ntmps110;obtain⟨k0,k1,-,-⟩:=Ka H3.out.fa;obtain⟨k2,k3,-,-⟩:=Ka H3.out.fb
     go_wp2_with fail
     generalize ((w.alloc (.cells #[.string (itx n),.string (dec d)] 42)).alloc (.cells #[.string (itx m),.string (dec e)] 42)).alloc (.cells #[.string ⟨#[]⟩,.string ⟨#[]⟩] 42)=W0 at *
     clear k0 k1 k2 k3;refine cm_ (Hc1.out _) ?_;rintro e w1 ⟨rfl,hb1⟩;have Hb1:=hd_ hb1;clear hb1 Hc1;obtain⟨k0,k1,-,-⟩:=Ka (H3.out.next Hb1.out).fa;obtain⟨k2,k3,-,-⟩:=Ka (H3.out.next Hb1.out).fb
     go_wp2_with fail
     clear k0 k1 k2 k3;refine cm_ (Hc2.out _) ?_;rintro e w2 ⟨rfl,hb2⟩;have Hb2:=hd_ (Hb1.out.trans (hb2.mono Hb1.out.size));clear hb2 Hb1 Hc2
     go_wp2_with fail
     refine cm_ (Hof.out w2 Hb2.out) ?_;rintro e w3 ⟨rfl,hb3⟩;have Hb3:=hd_ (Hb2.out.trans (hb3.mono Hb2.out.size));clear hb3 Hb2 Hof;have H8:=hd_ (H3.out.next Hb3.out);clear H3 Hb3;obtain⟨k0,k1,f0,f1⟩:=Ka H8.out.fr;have Hbw:=hd_ H8.out.bel;clear H8;go_wp2;obtain⟨c0,c1,hb3⟩:=Kq (B:=w.heap.size) (.string rs) (.string rt) k0 k1 (by omega) Hbw.out
     generalize (w3.setCell ⟨w.heap.size+1+1,0,none⟩ (.string rs)).setCell ⟨w.heap.size+1+1,1,none⟩ (.string rt)=w9 at *
     exact bodyPost_ret (v := .agg #[.string rs,.string rt]) (by simp[results,Tryz.results110,go_sem,c0,c1]) rfl ⟨by rw[Hv.out],hb3⟩
    ·obtain⟨x,y,hc2⟩:=Zj m e hm he h2;have Hc2:=hd_ hc2;unfold fv at Hc1 Hc2 ⊢;clear h1 h2 hrs hrt hv hde0 hc2 hsum;go_enter Tryz.func110,Tryz.ntmps110;obtain⟨k0,k1,-,-⟩:=Ka H3.out.fa;obtain⟨k2,k3,-,-⟩:=Ka H3.out.fb
     go_wp2_with fail
     generalize ((w.alloc (.cells #[.string (itx n),.string (dec d)] 42)).alloc (.cells #[.string (itx m),.string (dec e)] 42)).alloc (.cells #[.string ⟨#[]⟩,.string ⟨#[]⟩] 42)=W0 at *
     clear k0 k1 k2 k3;refine cm_ (Hc1.out _) ?_;rintro e w1 ⟨rfl,hb1⟩;have Hb1:=hd_ hb1;clear hb1 Hc1;obtain⟨k0,k1,-,-⟩:=Ka (H3.out.next Hb1.out).fa;obtain⟨k2,k3,-,-⟩:=Ka (H3.out.next Hb1.out).fb
     go_wp2_with fail
     clear k0 k1 k2 k3;refine cm_ (Hc2.out _) ?_;rintro e w2 ⟨rfl,hb2⟩;have Hb2:=hd_ (Hb1.out.trans (hb2.mono Hb1.out.size));clear hb2 Hb1 Hc2;obtain⟨k0,k1,-,-⟩:=Ka (H3.out.next Hb2.out).fa;obtain⟨k2,k3,-,-⟩:=Ka (H3.out.next Hb2.out).fb;have q0:=cell_regrown k0;have q1:=cell_regrown k1;have q2:=cell_regrown k2;have q3:=cell_regrown k3;have hM1:=Hm1.out w2 Hb2.out;have hM2:=Hm2.out w2 Hb2.out;have hM3:=Hm3.out w2 Hb2.out;have hM4:=Hm4.out w2 Hb2.out;have hM5:=Hm5.out w2 Hb2.out;clear k0 k1 k2 k3 Hm1 Hm2 Hm3 Hm4 Hm5
     go_wp2_with fail
     refine Kv 17 (by kernel_rfl) (by kernel_rfl) ?_
     simp only[List.take_succ_cons,List.take_zero,List.drop_succ_cons,List.drop_zero]
     repeat (first | go_big_quiet_step (first | with_reducible exact hM1 _ _ | with_reducible exact hM2 _ _ | with_reducible exact hM3 _ _ | with_reducible exact hM4 _ _ | with_reducible exact hM5 _ _) | quiet_step (first | with_reducible exact hM1 _ _ | with_reducible exact hM2 _ _ | with_reducible exact hM3 _ _ | with_reducible exact hM4 _ _ | with_reducible exact hM5 _ _))
     refine wpQuiet_nil ?_;intro w8 hw8;obtain⟨⟨dq,osq⟩,rfl⟩:=hw8;have hb8:=below_regrown w2 dq osq;have H8:=hd_ ((H3.out.next Hb2.out).next hb8);clear hb8 hM1 hM2 hM3 hM4 hM5 q0 q1 q2 q3 H3 Hb2;generalize Go.Sort.grow (redrawn w2 dq) osq=w8 at *
     obtain⟨k0,k1,f0,f1⟩:=Ka H8.out.fr;have Hbw:=hd_ H8.out.bel;clear H8;go_wp2;obtain⟨c0,c1,hb3⟩:=Kq (B:=w.heap.size) (.string rs) (.string rt) k0 k1 (by omega) Hbw.out
     generalize (w8.setCell ⟨w.heap.size+1+1,0,none⟩ (.string rs)).setCell ⟨w.heap.size+1+1,1,none⟩ (.string rt)=w9 at *
     exact bodyPost_ret (v := .agg #[.string rs,.string rt]) (by simp[results,Tryz.results110,go_sem,c0,c1]) rfl ⟨by rw[Hv.out],hb3⟩
   ·obtain⟨x,y,hc1⟩:=Zj n d hn hd h1;have Hc1:=hd_ hc1;unfold fv at Hc1 ⊢;clear h1 hrs hrt hv hde0 hc1 hsum;go_enter Tryz.func110,Tryz.ntmps110;obtain⟨k0,k1,-,-⟩:=Ka H3.out.fa;obtain⟨k2,k3,-,-⟩:=Ka H3.out.fb
    go_wp2_with fail
    generalize ((w.alloc (.cells #[.string (itx n),.string (dec d)] 42)).alloc (.cells #[.string (itx m),.string (dec e)] 42)).alloc (.cells #[.string ⟨#[]⟩,.string ⟨#[]⟩] 42)=W0 at *
    clear k0 k1 k2 k3;refine cm_ (Hc1.out _) ?_;rintro e w1 ⟨rfl,hb1⟩;have Hb1:=hd_ hb1;clear hb1 Hc1;obtain⟨k0,k1,-,-⟩:=Ka (H3.out.next Hb1.out).fa;obtain⟨k2,k3,-,-⟩:=Ka (H3.out.next Hb1.out).fb;have q0:=cell_regrown k0;have q1:=cell_regrown k1;have q2:=cell_regrown k2;have q3:=cell_regrown k3;have hM1:=Hm1.out w1 Hb1.out;have hM2:=Hm2.out w1 Hb1.out;have hM3:=Hm3.out w1 Hb1.out;have hM4:=Hm4.out w1 Hb1.out;have hM5:=Hm5.out w1 Hb1.out;clear k0 k1 k2 k3 Hm1 Hm2 Hm3 Hm4 Hm5
    go_wp2_with fail
    refine Kv 17 (by kernel_rfl) (by kernel_rfl) ?_
    simp only[List.take_succ_cons,List.take_zero,List.drop_succ_cons,List.drop_zero]
    repeat (first | go_big_quiet_step (first | with_reducible exact hM1 _ _ | with_reducible exact hM2 _ _ | with_reducible exact hM3 _ _ | with_reducible exact hM4 _ _ | with_reducible exact hM5 _ _) | quiet_step (first | with_reducible exact hM1 _ _ | with_reducible exact hM2 _ _ | with_reducible exact hM3 _ _ | with_reducible exact hM4 _ _ | with_reducible exact hM5 _ _))
    refine wpQuiet_nil ?_;intro w8 hw8;obtain⟨⟨dq,osq⟩,rfl⟩:=hw8;have hb8:=below_regrown w1 dq osq;have H8:=hd_ ((H3.out.next Hb1.out).next hb8);clear hb8 hM1 hM2 hM3 hM4 hM5 q0 q1 q2 q3 H3 Hb1;generalize Go.Sort.grow (redrawn w1 dq) osq=w8 at *
    obtain⟨k0,k1,f0,f1⟩:=Ka H8.out.fr;have Hbw:=hd_ H8.out.bel;clear H8;go_wp2;obtain⟨c0,c1,hb3⟩:=Kq (B:=w.heap.size) (.string rs) (.string rt) k0 k1 (by omega) Hbw.out
    generalize (w8.setCell ⟨w.heap.size+1+1,0,none⟩ (.string rs)).setCell ⟨w.heap.size+1+1,1,none⟩ (.string rt)=w9 at *
    exact bodyPost_ret (v := .agg #[.string rs,.string rt]) (by simp[results,Tryz.results110,go_sem,c0,c1]) rfl ⟨by rw[Hv.out],hb3⟩
theorem Zh2(w:World)(n:Int)(d:Nat)(hn:Za7 n)(hd:Num d)(hd0:0<d)(L:Qb w):
  Kc Tryz.prog 150 #[fv n d] w (.int .i64 (if ((dec n.natAbs).size≤400∧(dec d).size≤400)∧Nat.gcd n.natAbs d=1 then 0 else 2)):=by
 unfold Kc fv;have Hb0:=hd_ ((Below.refl w.heap.size w).alloc nr_ (.cells #[.string (itx n),.string (dec d)] 42));have Hnew:Hid ((w.alloc (.cells #[.string (itx n),.string (dec d)] 42)).heap[w.heap.size]?=some (.cells #[.string (itx n),.string (dec d)] 42 (0,0))):=heap_alloc_new w _;have HL:=hd_ (L.below Hb0.out);have Hc1:=hd_ (fun W=>Zem W n hn)
 have Hc2:Hid (∀ W,Kc Tryz.prog 126 #[.string (dec d)] W (.int .i64 (if (dec d).size≤400 then 0 else 2))):=fun W=>by
  have:=Zem W (d:Int) (show Num _ from hd)
  rw[Kj] at this;exact this
 have Hsg:Hid (∀ W,Kc Tryz.prog 84 #[.string (dec d)] W (.int .i64 1)):=fun W=>by
  have:=Zo W (d:Int)
  rw[Kj,Zfa hd0] at this;exact this
 have Hgc:Hid (∀ W,Below (w.alloc (.cells #[.string (itx n),.string (dec d)] 42)).heap.size (w.alloc (.cells #[.string (itx n),.string (dec d)] 42)) W→Kc Tryz.prog 188 #[.string (itx n),.string (dec d)] W (.string (dec (Nat.gcd n.natAbs d)))):=fun W hW=>by
  have:=Zi4 W n (d:Int) hn (show Num _ from hd) (HL.out.below hW)
  rw[Kj] at this;exact this
 have ho:=Zhy (Nat.gcd n.natAbs d);clear L HL hn hd hd0
 by_cases h1:(dec n.natAbs).size≤400
 ·rw[if_pos h1] at Hc1
  by_cases h2:(dec d).size≤400
  ·rw[if_pos h2] at Hc2
   by_cases h3:Nat.gcd n.natAbs d=1
   ·rw[if_pos ⟨⟨h1,h2⟩,h3⟩];rw[decide_eq_true h3] at ho;clear h1 h2 h3;generalize dec (Nat.gcd n.natAbs d)=u at *
    go_enter Tryz.func150,Tryz.ntmps150;obtain⟨k0,k1,-,-⟩:=Ka Hnew.out
    go_wp2_with fail
    generalize w.alloc (.cells #[.string (itx n),.string (dec d)] 42)=W0 at *
    clear k0 k1;refine cm_ (Hc1.out _) ?_;rintro e w1 ⟨rfl,hb1⟩;have Hb1:=hd_ hb1;clear hb1 Hc1;obtain⟨k0,k1,-,-⟩:=Ka (Kk Hnew.out Hb1.out)
    go_wp2_with fail
    clear k0 k1;refine cm_ (Hc2.out _) ?_;rintro e w2 ⟨rfl,hb2⟩;have Hb2:=hd_ (Hb1.out.trans (hb2.mono Hb1.out.size));clear hb2 Hb1 Hc2;obtain⟨k0,k1,-,-⟩:=Ka (Kk Hnew.out Hb2.out)
    go_wp2_with fail
    clear k0 k1;refine cm_ (Hsg.out _) ?_;rintro e w3 ⟨rfl,hb3⟩;have Hb3:=hd_ (Hb2.out.trans (hb3.mono Hb2.out.size));clear hb3 Hb2 Hsg;obtain⟨k0,k1,-,-⟩:=Ka (Kk Hnew.out Hb3.out)
    go_wp2_with fail
    clear k0 k1;refine cm_ (Hgc.out _ Hb3.out) ?_;rintro e w4 ⟨rfl,hb4⟩;have Hb4:=hd_ (Hb3.out.trans (hb4.mono Hb3.out.size));clear hb4 Hb3 Hgc;have Hbw:=hd_ (Hb0.out.trans (Hb4.out.mono Hb0.out.size));obtain⟨k0,k1,-,-⟩:=Ka (Kk Hnew.out Hb4.out);go_wp2;go_ret;exact⟨rfl,Hbw.out⟩
   ·rw[if_neg (fun h=>h3 h.2)]
    rw[decide_eq_false h3] at ho;clear h1 h2 h3;generalize dec (Nat.gcd n.natAbs d)=u at *
    go_enter Tryz.func150,Tryz.ntmps150;obtain⟨k0,k1,-,-⟩:=Ka Hnew.out
    go_wp2_with fail
    generalize w.alloc (.cells #[.string (itx n),.string (dec d)] 42)=W0 at *
    clear k0 k1;refine cm_ (Hc1.out _) ?_;rintro e w1 ⟨rfl,hb1⟩;have Hb1:=hd_ hb1;clear hb1 Hc1;obtain⟨k0,k1,-,-⟩:=Ka (Kk Hnew.out Hb1.out)
    go_wp2_with fail
    clear k0 k1;refine cm_ (Hc2.out _) ?_;rintro e w2 ⟨rfl,hb2⟩;have Hb2:=hd_ (Hb1.out.trans (hb2.mono Hb1.out.size));clear hb2 Hb1 Hc2;obtain⟨k0,k1,-,-⟩:=Ka (Kk Hnew.out Hb2.out)
    go_wp2_with fail
    clear k0 k1;refine cm_ (Hsg.out _) ?_;rintro e w3 ⟨rfl,hb3⟩;have Hb3:=hd_ (Hb2.out.trans (hb3.mono Hb2.out.size));clear hb3 Hb2 Hsg;obtain⟨k0,k1,-,-⟩:=Ka (Kk Hnew.out Hb3.out)
    go_wp2_with fail
    clear k0 k1;refine cm_ (Hgc.out _ Hb3.out) ?_;rintro e w4 ⟨rfl,hb4⟩;have Hb4:=hd_ (Hb3.out.trans (hb4.mono Hb3.out.size));clear hb4 Hb3 Hgc;have Hbw:=hd_ (Hb0.out.trans (Hb4.out.mono Hb0.out.size));obtain⟨k0,k1,-,-⟩:=Ka (Kk Hnew.out Hb4.out);go_wp2;go_ret;exact⟨rfl,Hbw.out⟩
  ·rw[if_neg h2] at Hc2;rw[if_neg (fun h=>h2 h.1.2)]
   clear h1 h2 Hgc ho;go_enter Tryz.func150,Tryz.ntmps150;obtain⟨k0,k1,-,-⟩:=Ka Hnew.out
   go_wp2_with fail
   generalize w.alloc (.cells #[.string (itx n),.string (dec d)] 42)=W0 at *
   clear k0 k1;refine cm_ (Hc1.out _) ?_;rintro e w1 ⟨rfl,hb1⟩;have Hb1:=hd_ hb1;clear hb1 Hc1;obtain⟨k0,k1,-,-⟩:=Ka (Kk Hnew.out Hb1.out)
   go_wp2_with fail
   clear k0 k1;refine cm_ (Hc2.out _) ?_;rintro e w2 ⟨rfl,hb2⟩;have Hb2:=hd_ (Hb1.out.trans (hb2.mono Hb1.out.size));clear hb2 Hb1 Hc2;have Hbw:=hd_ (Hb0.out.trans (Hb2.out.mono Hb0.out.size));obtain⟨k0,k1,-,-⟩:=Ka (Kk Hnew.out Hb2.out);go_wp2;go_ret;exact⟨rfl,Hbw.out⟩
 ·rw[if_neg h1] at Hc1;rw[if_neg (fun h=>h1 h.1.1)]
  clear h1 Hgc ho Hc2;go_enter Tryz.func150,Tryz.ntmps150;obtain⟨k0,k1,-,-⟩:=Ka Hnew.out
  go_wp2_with fail
  generalize w.alloc (.cells #[.string (itx n),.string (dec d)] 42)=W0 at *
  clear k0 k1;refine cm_ (Hc1.out _) ?_;rintro e w1 ⟨rfl,hb1⟩;have Hb1:=hd_ hb1;clear hb1 Hc1;have Hbw:=hd_ (Hb0.out.trans (Hb1.out.mono Hb0.out.size));obtain⟨k0,k1,-,-⟩:=Ka (Kk Hnew.out Hb1.out);go_wp2;go_ret;exact⟨rfl,Hbw.out⟩
theorem Zj2(w:World)(n:Int)(d:Nat):
  Kc Tryz.prog 89 #[fv n d] w (.int .i64 n.sign):=by
 unfold Kc fv;have Hb0:=hd_ ((Below.refl w.heap.size w).alloc nr_ (.cells #[.string (itx n),.string (dec d)] 42));have Hnew:Hid ((w.alloc (.cells #[.string (itx n),.string (dec d)] 42)).heap[w.heap.size]?=some (.cells #[.string (itx n),.string (dec d)] 42 (0,0))):=heap_alloc_new w _;have Hsg:=hd_ (fun W=>Zo W n)
 go_enter Tryz.func89,Tryz.ntmps89;obtain⟨k0,k1,-,-⟩:=Ka Hnew.out
 go_wp2_with fail
 generalize w.alloc (.cells #[.string (itx n),.string (dec d)] 42)=W0 at *
 clear k0 k1;refine cm_ (Hsg.out _) ?_;rintro e w1 ⟨rfl,hb1⟩;have Hb1:=hd_ hb1;clear hb1 Hsg;have Hbw:=hd_ (Hb0.out.trans (Hb1.out.mono Hb0.out.size));obtain⟨k0,k1,-,-⟩:=Ka (Kk Hnew.out Hb1.out);go_wp2;go_ret;exact⟨rfl,Hbw.out⟩
theorem Zp3(w:World)(n:Int)(d:Nat)(hn:Za7 n)(hd:Num d)(hd0:0<d)(hn1:Num (n.natAbs+1))(L:Qb w):
  Kc Tryz.prog 123 #[fv n d] w (.string (itx (n/(d:Int)))):=by
 unfold Kc fv;have Hb0:=hd_ ((Below.refl w.heap.size w).alloc nr_ (.cells #[.string (itx n),.string (dec d)] 42));have Hnew:Hid ((w.alloc (.cells #[.string (itx n),.string (dec d)] 42)).heap[w.heap.size]?=some (.cells #[.string (itx n),.string (dec d)] 42 (0,0))):=heap_alloc_new w _;have HL:=hd_ (L.below Hb0.out);have Hdm:Hid (∀ W,Below (w.alloc (.cells #[.string (itx n),.string (dec d)] 42)).heap.size (w.alloc (.cells #[.string (itx n),.string (dec d)] 42)) W→Kc Tryz.prog 163 #[.string (itx n),.string (dec d)] W (.tuple #[.string (itx (n/(d:Int))),.string (itx (n%(d:Int))),.int .i64 0])):=fun W hW=>Yc W n d hn hd hd0 hn1 (HL.out.below hW)
 clear L;go_enter Tryz.func123,Tryz.ntmps123;obtain⟨k0,k1,-,-⟩:=Ka Hnew.out
 go_wp2_with fail
 generalize w.alloc (.cells #[.string (itx n),.string (dec d)] 42)=W0 at *
 clear k0 k1;refine cm_ (Hdm.out _ (Below.refl _ _)) ?_;rintro e w1 ⟨rfl,hb1⟩;have Hb1:=hd_ hb1;clear hb1 Hdm;have Hbw:=hd_ (Hb0.out.trans (Hb1.out.mono Hb0.out.size));obtain⟨k0,k1,-,-⟩:=Ka (Kk Hnew.out Hb1.out);go_wp2;go_ret;exact⟨rfl,Hbw.out⟩
theorem Znw(w:World)(n:Int)(d:Nat)(hn:Za7 n)(hd:Num d)(hd0:0<d)(hn1:Num (n.natAbs+1))(hd1:Num (d+1))(L:Qb w):
  Kc Tryz.prog 102 #[.string (itx n),.string (dec d)] w (.tuple #[Zjp n d,.int .i64 0]):=by
 obtain⟨rs,hrs⟩:∃ rs,itx (n/((Nat.gcd n.natAbs d:Nat):Int))=rs:=⟨_,rfl⟩;obtain⟨rt,hrt⟩:∃ rt,dec (d/Nat.gcd n.natAbs d)=rt:=⟨_,rfl⟩;have hv:Zjp n d = .agg #[.string rs,.string rt]:=by unfold Zjp fv;rw[hrs,hrt]
 have Hv:=hd_ hv;unfold Kc;have Hb0:=hd_ ((Below.refl w.heap.size w).alloc nr_ (.cells #[.string ⟨#[]⟩,.string ⟨#[]⟩] 42));have Hnew:Hid ((w.alloc (.cells #[.string ⟨#[]⟩,.string ⟨#[]⟩] 42)).heap[w.heap.size]?=some (.cells #[.string ⟨#[]⟩,.string ⟨#[]⟩] 42 (0,0))):=heap_alloc_new w _;have HL:=hd_ (L.below Hb0.out);clear L;have Hsg:Hid (∀ W,Kc Tryz.prog 84 #[.string (dec d)] W (.int .i64 1)):=fun W=>by
  have:=Zo W (d:Int)
  rw[Kj,Zfa hd0] at this;exact this
 have Hlo:Hid (∀ W,Below (w.alloc (.cells #[.string ⟨#[]⟩,.string ⟨#[]⟩] 42)).heap.size (w.alloc (.cells #[.string ⟨#[]⟩,.string ⟨#[]⟩] 42)) W→Kc Tryz.prog 125 #[.string (itx n),.string (dec d)] W (.agg #[.string rs,.string rt])):=fun W hW=>by
  have:=Zb0 W n d _ hn hd hd0 hn1 hd1 rfl (HL.out.below hW)
  unfold fv at this;rw[hrs,hrt] at this;exact this
 clear hrs hrt hv;go_enter Tryz.func102,Tryz.ntmps102
 go_wp2_with fail
 generalize w.alloc (.cells #[.string ⟨#[]⟩,.string ⟨#[]⟩] 42)=W0 at *
 refine cm_ (Hsg.out _) ?_;rintro e w1 ⟨rfl,hb1⟩;have Hb1:=hd_ hb1;clear hb1 Hsg
 go_wp2_with fail
 refine cm_ (Hlo.out _ Hb1.out) ?_;rintro e w2 ⟨rfl,hb2⟩;have Hb2:=hd_ (Hb1.out.trans (hb2.mono Hb1.out.size));clear hb2 Hb1 Hlo;have Hcell:=hd_ (Kk Hnew.out Hb2.out);have Hbw:=hd_ (Hb0.out.trans (Hb2.out.mono Hb0.out.size));obtain⟨k0,k1,f0,f1⟩:=Ka Hcell.out;clear Hb2 Hb0 Hcell Hnew HL;go_wp2;obtain⟨c0,c1,hb3⟩:=Kq (.string rs) (.string rt) k0 k1 nr_ Hbw.out;generalize (w2.setCell ⟨w.heap.size,0,none⟩ (.string rs)).setCell ⟨w.heap.size,1,none⟩ (.string rt)=w9 at *
 exact bodyPost_ret (v := .tuple #[.agg #[.string rs,.string rt],.int .i64 0]) (by simp[results,Tryz.results102,go_sem,c0,c1]) rfl ⟨by rw[Hv.out],hb3⟩
theorem Znv(w:World)(n:Int)(d:Nat)(q1 : -9223372036854775808≤n)(q2:n≤9223372036854775807)(q3:d≤9223372036854775807)(hn:Za7 n)(hd:Num d)(hd0:0<d)(hn1:Num (n.natAbs+1))(hd1:Num (d+1))(L:Qb w):
  Kc Tryz.prog 35 #[.int .i64 n,.int .i64 d] w (.tuple #[Zjp n d,.int .i64 0]):=by
 obtain⟨rs,hrs⟩:∃ rs,itx (n/((Nat.gcd n.natAbs d:Nat):Int))=rs:=⟨_,rfl⟩;obtain⟨rt,hrt⟩:∃ rt,dec (d/Nat.gcd n.natAbs d)=rt:=⟨_,rfl⟩;have hv:Zjp n d = .agg #[.string rs,.string rt]:=by unfold Zjp fv;rw[hrs,hrt]
 have Hv:=hd_ hv;unfold Kc;have Hb0:=hd_ ((Below.refl w.heap.size w).alloc nr_ (.cells #[.string ⟨#[]⟩,.string ⟨#[]⟩] 42));have Hnew:Hid ((w.alloc (.cells #[.string ⟨#[]⟩,.string ⟨#[]⟩] 42)).heap[w.heap.size]?=some (.cells #[.string ⟨#[]⟩,.string ⟨#[]⟩] 42 (0,0))):=heap_alloc_new w _;have HL:=hd_ (L.below Hb0.out);clear L;have Ho1:Hid (∀ W,Below (w.alloc (.cells #[.string ⟨#[]⟩,.string ⟨#[]⟩] 42)).heap.size (w.alloc (.cells #[.string ⟨#[]⟩,.string ⟨#[]⟩] 42)) W→Kc Tryz.prog 73 #[.int .i64 n] W (.string (itx n))):=fun W hW=>Zah W n q1 q2 (HL.out.below hW)
 have Ho2:Hid (∀ W,Below (w.alloc (.cells #[.string ⟨#[]⟩,.string ⟨#[]⟩] 42)).heap.size (w.alloc (.cells #[.string ⟨#[]⟩,.string ⟨#[]⟩] 42)) W→Kc Tryz.prog 73 #[.int .i64 d] W (.string (dec d))):=fun W hW=>by
  have:=Zah W (d:Int) (by omega) (by omega) (HL.out.below hW)
  rw[Kj] at this;exact this
 have Hne:Hid (∀ W,Below (w.alloc (.cells #[.string ⟨#[]⟩,.string ⟨#[]⟩] 42)).heap.size (w.alloc (.cells #[.string ⟨#[]⟩,.string ⟨#[]⟩] 42)) W→Kc Tryz.prog 102 #[.string (itx n),.string (dec d)] W (.tuple #[.agg #[.string rs,.string rt],.int .i64 0])):=fun W hW=>by
  have:=Znw W n d hn hd hd0 hn1 hd1 (HL.out.below hW)
  rw[hv] at this;exact this
 clear hrs hrt hv;go_enter Tryz.func35,Tryz.ntmps35
 go_wp2_with fail
 generalize w.alloc (.cells #[.string ⟨#[]⟩,.string ⟨#[]⟩] 42)=W0 at *
 refine cm_ (Ho1.out _ (Below.refl _ _)) ?_;rintro e w1 ⟨rfl,hb1⟩;have Hb1:=hd_ hb1;clear hb1 Ho1
 go_wp2_with fail
 refine cm_ (Ho2.out _ Hb1.out) ?_;rintro e w2 ⟨rfl,hb2⟩;have Hb2:=hd_ (Hb1.out.trans (hb2.mono Hb1.out.size));clear hb2 Hb1 Ho2
 go_wp2_with fail
 refine cm_ (Hne.out _ Hb2.out) ?_;rintro e w3 ⟨rfl,hb3⟩;have Hb3:=hd_ (Hb2.out.trans (hb3.mono Hb2.out.size));clear hb3 Hb2 Hne;have Hcell:=hd_ (Kk Hnew.out Hb3.out);have Hbw:=hd_ (Hb0.out.trans (Hb3.out.mono Hb0.out.size));obtain⟨k0,k1,f0,f1⟩:=Ka Hcell.out;clear Hb3 Hb0 Hcell Hnew HL;go_wp2;obtain⟨c0,c1,hb3⟩:=Kq (.string rs) (.string rt) k0 k1 nr_ Hbw.out;generalize (w3.setCell ⟨w.heap.size,0,none⟩ (.string rs)).setCell ⟨w.heap.size,1,none⟩ (.string rt)=w9 at *
 exact bodyPost_ret (v := .tuple #[.agg #[.string rs,.string rt],.int .i64 0]) (by simp[results,Tryz.results35,go_sem,c0,c1]) rfl ⟨by rw[Hv.out],hb3⟩
theorem Zd7(w:World)(z:Int)(q1 : -9223372036854775808≤z)(q2:z≤9223372036854775807)(L:Qb w):
  Kc Tryz.prog 98 #[.int .i64 z] w (fv z 1):=by
 obtain⟨rs,hrs⟩:∃ rs,itx z=rs:=⟨_,rfl⟩;have hv:fv z 1 = .agg #[.string rs,.string ⟨#[49]⟩]:=by unfold fv;rw[hrs,Vf]
 have Hv:=hd_ hv;unfold Kc;have Hb0:=hd_ ((Below.refl w.heap.size w).alloc nr_ (.cells #[.string ⟨#[]⟩,.string ⟨#[]⟩] 42));have Hnew:Hid ((w.alloc (.cells #[.string ⟨#[]⟩,.string ⟨#[]⟩] 42)).heap[w.heap.size]?=some (.cells #[.string ⟨#[]⟩,.string ⟨#[]⟩] 42 (0,0))):=heap_alloc_new w _;have HL:=hd_ (L.below Hb0.out);clear L;have Ho1:Hid (∀ W,Below (w.alloc (.cells #[.string ⟨#[]⟩,.string ⟨#[]⟩] 42)).heap.size (w.alloc (.cells #[.string ⟨#[]⟩,.string ⟨#[]⟩] 42)) W→Kc Tryz.prog 73 #[.int .i64 z] W (.string rs)):=fun W hW=>by
  have:=Zah W z q1 q2 (HL.out.below hW)
  rw[hrs] at this;exact this
 clear hrs hv;go_enter Tryz.func98,Tryz.ntmps98
 go_wp2_with fail
 generalize w.alloc (.cells #[.string ⟨#[]⟩,.string ⟨#[]⟩] 42)=W0 at *
 refine cm_ (Ho1.out _ (Below.refl _ _)) ?_;rintro e w1 ⟨rfl,hb1⟩;have Hb1:=hd_ hb1;clear hb1 Ho1;have Hcell:=hd_ (Kk Hnew.out Hb1.out);have Hbw:=hd_ (Hb0.out.trans (Hb1.out.mono Hb0.out.size));obtain⟨k0,k1,f0,f1⟩:=Ka Hcell.out;clear Hb1 Hb0 Hcell Hnew HL;go_wp2;obtain⟨c0,c1,hb3⟩:=Kq (.string rs) (.string ⟨#[49]⟩) k0 k1 nr_ Hbw.out;generalize (w1.setCell ⟨w.heap.size,0,none⟩ (.string rs)).setCell ⟨w.heap.size,1,none⟩ (.string ⟨#[49]⟩)=w9 at *
 exact bodyPost_ret (v := .agg #[.string rs,.string ⟨#[49]⟩]) (by simp[results,Tryz.results98,go_sem,c0,c1]) rfl ⟨by rw[Hv.out],hb3⟩
theorem Zq5(w:World)(n:Int)(d:Nat):
  Kc Tryz.prog 151 #[fv n d] w (.bool (decide ((dec n.natAbs).size≤30∧(dec d).size≤30))):=by
 unfold Kc fv;have Hb0:=hd_ ((Below.refl w.heap.size w).alloc nr_ (.cells #[.string (itx n),.string (dec d)] 42));have Hnew:Hid ((w.alloc (.cells #[.string (itx n),.string (dec d)] 42)).heap[w.heap.size]?=some (.cells #[.string (itx n),.string (dec d)] 42 (0,0))):=heap_alloc_new w _;have Hab:=hd_ (fun W=>Zep W n)
 by_cases h1:(dec n.natAbs).size≤30
 ·have h1':((dec n.natAbs).size:Int)≤30:=by omega
  by_cases h2:(dec d).size≤30
  ·have h2':((dec d).size:Int)≤30:=by omega
   rw[decide_eq_true (show _∧_ from ⟨h1,h2⟩)]
   clear h1 h2;go_enter Tryz.func151,Tryz.ntmps151;obtain⟨k0,k1,-,-⟩:=Ka Hnew.out
   go_wp2_with fail
   generalize w.alloc (.cells #[.string (itx n),.string (dec d)] 42)=W0 at *
   clear k0 k1;refine cm_ (Hab.out _) ?_;rintro e w1 ⟨rfl,hb1⟩;have Hb1:=hd_ hb1;clear hb1 Hab;have Hbw:=hd_ (Hb0.out.trans (Hb1.out.mono Hb0.out.size));obtain⟨k0,k1,-,-⟩:=Ka (Kk Hnew.out Hb1.out);go_wp2;go_ret;exact⟨rfl,Hbw.out⟩
  ·have h2':¬ ((dec d).size:Int)≤30:=by omega
   have H2d:=hd_ (decide_eq_false h2');rw[decide_eq_false (fun h:_∧_=>h2 h.2)]
   clear h1 h2;go_enter Tryz.func151,Tryz.ntmps151;obtain⟨k0,k1,-,-⟩:=Ka Hnew.out
   go_wp2_with fail
   generalize w.alloc (.cells #[.string (itx n),.string (dec d)] 42)=W0 at *
   clear k0 k1;refine cm_ (Hab.out _) ?_;rintro e w1 ⟨rfl,hb1⟩;have Hb1:=hd_ hb1;clear hb1 Hab;have Hbw:=hd_ (Hb0.out.trans (Hb1.out.mono Hb0.out.size));obtain⟨k0,k1,-,-⟩:=Ka (Kk Hnew.out Hb1.out);go_wp2;go_ret;exact⟨by rw[H2d.out];rfl,Hbw.out⟩
 ·have h1':¬ ((dec n.natAbs).size:Int)≤30:=by omega
  rw[decide_eq_false (fun h:_∧_=>h1 h.1)]
  clear h1;go_enter Tryz.func151,Tryz.ntmps151;obtain⟨k0,k1,-,-⟩:=Ka Hnew.out
  go_wp2_with fail
  generalize w.alloc (.cells #[.string (itx n),.string (dec d)] 42)=W0 at *
  clear k0 k1;refine cm_ (Hab.out _) ?_;rintro e w1 ⟨rfl,hb1⟩;have Hb1:=hd_ hb1;clear hb1 Hab;have Hbw:=hd_ (Hb0.out.trans (Hb1.out.mono Hb0.out.size));obtain⟨k0,k1,-,-⟩:=Ka (Kk Hnew.out Hb1.out);go_wp2;go_ret;exact⟨rfl,Hbw.out⟩
def IsP (n:Nat):Prop:=2≤n∧n≤97∧∀ j,j<10→2≤j→j*j≤n→n%j≠0
instance (n:Nat):Decidable (IsP n):=by unfold IsP;infer_instance
theorem Zmo(w:World)(n:Nat)(hn:n≤9223372036854775807):
  Kc Tryz.prog 16 #[.int .i64 n] w (.bool (decide (IsP n))):=by
 unfold Kc
 by_cases h2:2≤n
 ·by_cases h97:n≤97
  ·have h2':¬ (n:Int)<2:=by omega
   have h97':¬ (97:Int)<n:=by omega
   have H2:=hd_ h2;go_enter Tryz.func16,Tryz.ntmps16
   go_wp2_with fail
   go_loopw [3] (fun i wr=>∃ k:Nat,2≤k∧k≤10∧i = .int .i64 k∧Hid (∀ j,2≤j→j<k→j*j≤n→n%j≠0)∧Hid (Below w.heap.size w wr)) (fun i _=>10-(intOf i).toNat)
   case atStart=>exact⟨2,by omega,by omega,rfl,fun j h1 h2=>by omega,Below.refl _ _⟩
   case round =>
    obtain⟨k,hk,hk10,rfl,Hj,Hb⟩:=hrel;have hkk:k*k≤100:=Nat.mul_le_mul hk10 hk10;have hwr:IntKind.i64.wrap ((k:Int)*(k:Int))=((k*k:Nat):Int):=by rw[← Int.natCast_mul];exact iw_ _ (by omega)
    by_cases hle:k*k≤n
    ·have hle':((k*k:Nat):Int)≤n:=by omega
     have hlt10:k<10:=by
      rcases Nat.lt_or_ge k 10 with h|h
      ·exact h
      ·have:k=10:=by omega
       subst this;omega
     have hkz:((k:Int)==0)=false:=by rw[beq_eq_false_iff_ne];omega
     have htm:Int.tmod (n:Int) (k:Int)=((n%k:Nat):Int):=by rw[← Int.ofNat_tmod]
     have hml:=Nat.mod_lt n (show 0<k by omega)
     have Hle:=hd_ hle
     by_cases hz:n%k=0
     ·have Hv:Hid (decide (IsP n)=false):=by
       show _=_
       rw[decide_eq_false_iff_not];exact fun h=>h.2.2 k hlt10 hk hle hz
      rw[hz] at htm;rw[show ((0:Nat):Int)=0 from rfl] at htm
      have hw0:IntKind.i64.wrap 0=0:=iw_ _ (by omega)
      clear hz hle hml hkk;generalize k*k=q at *
      go_wp2;go_ret;exact⟨by rw[Hv.out];rfl,Hb.out⟩
     ·have Hj2:Hid (∀ j,2≤j→j<k+1→j*j≤n→n%j≠0):=fun j h1 h2 h3=>by
       rcases Nat.lt_or_ge j k with h|h
       ·exact Hj.out j h1 h h3
       ·have:j=k:=by omega
        subst this;exact hz
      have hw1:IntKind.i64.wrap ((n%k:Nat):Int)=((n%k:Nat):Int):=iw_ _ (by omega)
      have hne:(((n%k:Nat):Int)==0)=false:=by rw[beq_eq_false_iff_ne];omega
      clear hz hle hkk;generalize n%k=r at *
      generalize k*k=q at *
      go_wp2
      go_roundw
      case rel=>exact⟨k+1,by omega,by omega,by go_num,Hj2,Hb⟩
      case measure=>simp[intOf];omega
    ·have hle':¬ ((k*k:Nat):Int)≤n:=by omega
     have Hv:Hid (decide (IsP n)=true):=by
      show _=_
      rw[decide_eq_true_eq];refine⟨H2.out,h97,fun j h2 h1 h3=>?_⟩
      rcases Nat.lt_or_ge j k with h|h
      ·exact Hj.out j h1 h h3
      ·have:=Nat.mul_le_mul h h;omega
     clear hle hkk;generalize k*k=q at *
     go_wp2;go_ret;exact⟨by rw[Hv.out];rfl,Hb.out⟩
  ·have Hv:Hid (decide (IsP n)=false):=by
    show _=_
    rw[decide_eq_false_iff_not];exact fun h=>h97 h.2.1
   have h97':(97:Int)<n:=by omega
   have h2':¬ (n:Int)<2:=by omega
   go_enter Tryz.func16,Tryz.ntmps16;go_wp2;go_ret;exact⟨by rw[Hv.out];rfl,Below.refl _ _⟩
 ·have Hv:Hid (decide (IsP n)=false):=by
   show _=_
   rw[decide_eq_false_iff_not];exact fun h=>h2 h.1
  have h2':(n:Int)<2:=by omega
  go_enter Tryz.func16,Tryz.ntmps16;go_wp2;go_ret;exact⟨by rw[Hv.out];rfl,Below.refl _ _⟩
def Rd (w:World) (a:Option Addr) (vs:List Value):Prop :=
 vs=[]∨∃ b off,a=some ⟨b,off,none⟩∧b<w.heap.size∧∀ i v,vs[i]?=some v→w.cell? ⟨b,off+i,none⟩=some v
theorem Rd.below{w w':World}{a:Option Addr}{vs:List Value}{B:Nat}(h:Rd w a vs)(hb:Below B w w')(hB:w.heap.size≤B):Rd w' a vs:=by
 rcases h with h|⟨b,off,h1,h2,h3⟩
 ·exact .inl h
 ·exact .inr ⟨b,off,h1,Nat.lt_of_lt_of_le h2 hb.size,fun i v hi=>by rw[hb.cell (p:=⟨b,off+i,none⟩) (by show b<B;omega)];exact h3 i v hi⟩
theorem Rd.kept{w w':World}{a:Option Addr}{vs:List Value}(h:Rd w a vs)(hb:Below w.heap.size w w'):Rd w' a vs:=h.below hb nr_
theorem Rd.open{w:World}{a:Option Addr}{vs:List Value}(h:Rd w a vs)(h0:0<vs.length):
  ∃ b off,a=some ⟨b,off,none⟩∧b<w.heap.size∧∀ i v,vs[i]?=some v→w.cell? ⟨b,off+i,none⟩=some v:=by
 rcases h with h|h
 ·subst h;simp at h0
 ·exact h
theorem Rd.nil(w:World)(a:Option Addr):Rd w a [] := .inl rfl
def Zqk (n:Int):Prop:=0≤n∧IsP n.toNat
instance (n:Int):Decidable (Zqk n):=by unfold Zqk;infer_instance
theorem Zez(w:World)(n:Int)(h0 : -9223372036854775808≤n)(h1:n≤9223372036854775807):
  Kc Tryz.prog 16 #[.int .i64 n] w (.bool (decide (Zqk n))):=by
 by_cases hn:0≤n
 ·obtain⟨m,rfl⟩:=Int.eq_ofNat_of_zero_le hn;have:=Zmo w m (by omega)
  have e:decide (Zqk (m:Int))=decide (IsP m):=by
   rw[decide_eq_decide];unfold Zqk;simp
  rw[e];exact this
 ·have e:decide (Zqk n)=false:=decide_eq_false (fun h=>hn h.1)
  rw[e];have h2':n<2:=by omega
  unfold Kc;go_enter Tryz.func16,Tryz.ntmps16;go_wp2;go_ret;exact⟨rfl,Below.refl _ _⟩
def pgo:Option Int→List Int→Int
 | _,[]=>0
 | prev,n::l=>if ¬ Zqk n then 25 else if prev.any (fun m=>decide (n≤m))=true then 6 else pgo (some n) l
def Znq (ps:List Int):Nat→Option Int
 | 0=>none
 | m+1=>ps[m]?
def Vp (ps:List Int):Int:=if ps.length=0 then 13 else if 6<ps.length then 4 else pgo none ps
def Zjq (l:List Int):Prop:=∀ x∈l,-9223372036854775808≤x∧x≤9223372036854775807
theorem Zjq.get{l:List Int}(h:Zjq l)(k:Nat)(hk:k<l.length): -9223372036854775808≤l[k]∧l[k]≤9223372036854775807:=h _ (List.getElem_mem hk)
theorem Zc8(w:World)(a:Option Addr)(c:Nat)(ps:List Int)(hr:Rd w a (Vc ps))(hi:Zjq ps)(hl:ps.length≤1000000):
  Kc Tryz.prog 77 #[.slice a ps.length c] w (.int .i64 (Vp ps)):=by
 unfold Kc;have Hr:=hd_ hr;have Hi:=hd_ hi;have Hp:=hd_ (fun W (z:Int) q1 q2=>Zez W z q1 q2)
 clear hr hi
 by_cases h0:ps.length=0
 ·have hv:Vp ps=13:=by unfold Vp;rw[if_pos h0]
  rw[hv,h0];go_enter Tryz.func77,Tryz.ntmps77;go_wp2;go_ret;exact⟨rfl,Below.refl _ _⟩
 by_cases h6:6<ps.length
 ·have hv:Vp ps=4:=by unfold Vp;rw[if_neg h0,if_pos h6]
  rw[hv];have h0':((ps.length:Int)==0)=false:=by rw[beq_eq_false_iff_ne];omega
  have h6':(6:Int)<ps.length:=by omega
  clear hv;generalize ps.length=n at *
  go_enter Tryz.func77,Tryz.ntmps77;go_wp2;go_ret;exact⟨rfl,Below.refl _ _⟩
 have Hv:Hid (Vp ps=pgo none ps):=by
  show _=_
  unfold Vp;rw[if_neg h0,if_neg h6]
 have h0':((ps.length:Int)==0)=false:=by rw[beq_eq_false_iff_ne];omega
 have h6':¬ (6:Int)<ps.length:=by omega
 obtain⟨b,off,rfl,hb,hcells⟩:=Hr.out.open (by rw[Qe];omega)
 have Hcells:Hid (∀ k,k<ps.length→w.cell? ⟨b,off+k,none⟩=some (.int .i64 (ps.getD k 0))):=fun k hk=>by
  rw[List.getD_eq_getElem?_getD,List.getElem?_eq_getElem hk];exact hcells k _ (Yh ps k hk)
 clear hcells Hr;generalize hn:ps.length=n at *
 have Hn:=hd_ hn;clear hn;go_enter Tryz.func77,Tryz.ntmps77
 go_wp2_with fail
 go_loopw [15] (fun i wr=>∃ k:Nat,k≤n∧i = .int .i64 k∧Hid (pgo none ps=pgo (Znq ps k) (ps.drop k))∧Hid (Below w.heap.size w wr)) (fun i _=>n-(intOf i).toNat)
 case atStart=>exact⟨0,Nat.zero_le _,rfl,rfl,Below.refl _ _⟩
 case round =>
  obtain⟨k,hk,rfl,Hg,Hb⟩:=hrel
  by_cases hlt:k<n
  ·have hlt':(k:Int)<n:=by omega
   have hkl:k<ps.length:=by rw[Hn.out];exact hlt
   have cx:wr.cell? ⟨b,off+k,none⟩=some (.int .i64 (ps.getD k 0)):=by
    rw[Hb.out.cell (p:=⟨b,off+k,none⟩) hb];exact Hcells.out k hlt
   have hd:ps.drop k=ps[k]::ps.drop (k+1):=List.drop_eq_getElem_cons hkl;have Hd:=hd_ hd;have hgk:ps.getD k 0=ps[k]:=by rw[List.getD_eq_getElem?_getD,List.getElem?_eq_getElem hkl];rfl
   rw[hgk] at cx;clear hgk;have hz:=Hi.out.get k hkl;obtain⟨z,hzz⟩:∃ z,ps[k]=z:=⟨_,rfl⟩;have Hzz:=hd_ hzz;rw[hzz] at cx hz;have hpz:=Hp.out wr z hz.1 hz.2;clear hd hzz
   by_cases hp:Zqk z
   ·rw[decide_eq_true hp] at hpz
    by_cases hk0:k=0
    ·subst hk0;rw[Nat.add_zero] at cx;have hk1:¬ (0:Int)<0:=by omega
     go_wp2_with fail
     refine cm_ hpz ?_;rintro e w1 ⟨rfl,hb1⟩;have Hb1:=hd_ (Hb.out.trans (hb1.mono Hb.out.size));clear hb1 hpz Hb;go_wp2
     go_roundw
     case rel =>
      refine⟨1,by omega,by go_num,?_,Hb1⟩
      show _=_
      rw[Hg.out,Hd.out];simp only[pgo,Znq,Hzz.out];rw[if_neg (fun h=>h hp),if_neg (by simp)]
      have:ps[0]?=some z:=by rw[List.getElem?_eq_getElem hkl,Hzz.out]
      rw[this]
     case measure=>simp[intOf];omega
    ·obtain⟨m,rfl⟩:∃ m,k=m+1:=⟨k-1,by omega⟩
     have hk1:(0:Int)<((m+1:Nat):Int):=by omega
     have hml:m<ps.length:=by omega
     have hw1:IntKind.i64.wrap (((m+1:Nat):Int)-1)=(m:Int):=by
      rw[show ((m+1:Nat):Int)-1=(m:Int) by omega];exact iw_ _ (by omega)
     obtain⟨y,hyy⟩:∃ y,ps[m]=y:=⟨_,rfl⟩;have Hyy:=hd_ hyy;have Hcy:Hid (w.cell? ⟨b,off+m,none⟩=some (.int .i64 y)):=by
      show _=_
      rw[Hcells.out m (by omega),← hyy,List.getD_eq_getElem?_getD,List.getElem?_eq_getElem hml];rfl
     have Hgo:Hid (pgo none ps=if z≤y then 6 else pgo (some z) (ps.drop (m+1+1))):=by
      show _=_
      rw[Hg.out,Hd.out];have:ps[m]?=some y:=by rw[List.getElem?_eq_getElem hml,hyy]
      simp only[pgo,Znq,Hzz.out,this,Option.any_some,decide_eq_true_eq];rw[if_neg (fun h=>h hp)]
     have hm0:0≤(m:Int):=by omega
     have hmn:(m:Int)<n:=by omega
     clear hyy Hg
     go_wp2_with fail
     refine cm_ hpz ?_;rintro e w1 ⟨rfl,hb1⟩;have Hb1:=hd_ (Hb.out.trans (hb1.mono Hb.out.size));clear hb1 hpz Hb cx;have cy:w1.cell? ⟨b,off+m,none⟩=some (.int .i64 y):=by
      rw[Hb1.out.cell (p:=⟨b,off+m,none⟩) hb];exact Hcy.out
     by_cases hzy:z≤y
     ·have Hvv:Hid (Vp ps=6):=by
       show _=_
       rw[Hv.out,Hgo.out,if_pos hzy]
      go_wp2;go_ret;exact⟨by rw[Hvv.out];rfl,Hb1.out⟩
     ·have Hgg:Hid (pgo none ps=pgo (some z) (ps.drop (m+1+1))):=by
       show _=_
       rw[Hgo.out,if_neg hzy]
      clear Hgo;go_wp2
      go_roundw
      case rel =>
       refine⟨m+1+1,by omega,by go_num,?_,Hb1⟩
       show _=_
       rw[Hgg.out];have:ps[m+1]?=some z:=by rw[List.getElem?_eq_getElem hkl,Hzz.out]
       simp only[Znq,this]
      case measure=>simp[intOf];omega
   ·rw[decide_eq_false hp] at hpz;have Hvv:Hid (Vp ps=25):=by
     show _=_
     rw[Hv.out,Hg.out,Hd.out];simp only[pgo,Hzz.out];rw[if_pos hp]
    go_wp2_with fail
    refine cm_ hpz ?_;rintro e w1 ⟨rfl,hb1⟩;have Hb1:=hd_ (Hb.out.trans (hb1.mono Hb.out.size));clear hb1 hpz Hb;go_wp2;go_ret;exact⟨by rw[Hvv.out];rfl,Hb1.out⟩
  ·have hlt':¬ (k:Int)<n:=by omega
   have Hvv:Hid (Vp ps=0):=by
    show _=_
    rw[Hv.out,Hg.out,List.drop_of_length_le (by rw[Hn.out];omega)]
    rfl
   go_wp2;go_ret;exact⟨by rw[Hvv.out];rfl,Hb.out⟩
end Go.Proofs.YtnjedhgcfeoemaaGreatDoor

namespace Go.Proofs.YtnjedhgcfeoemaaGreatDoor
open Go.ChangeShapes Go.WideShapes Go.ChangeAt Go.RowKit
theorem Zml:laidOutB Tryz.prog=true:=by kernel_rfl
theorem own:ownKnob Tryz.prog.godebug=none:=by kernel_rfl
def Zse {H : Type} : List (String × DataW H) := [("math/bits.deBruijn32tab", Rows.laid_math_bits_deBruijn32tab), ("math/bits.deBruijn64tab", Rows.laid_math_bits_deBruijn64tab), ("internal/strconv.uint64pow10", Rows.laid_internal_strconv_uint64pow10), ("strconv.ErrRange", Rows.laid_strconv_ErrRange), ("strconv.ErrSyntax", Rows.laid_strconv_ErrSyntax)]
theorem gER : Tryz.prog.globalNamed "strconv.ErrRange" = some 1 := by kernel_rfl
theorem gES : Tryz.prog.globalNamed "strconv.ErrSyntax" = some 0 := by kernel_rfl
theorem tER:(Tryz.prog.globals[1]?).map (·.type)=some 200:=by kernel_rfl
theorem tES:(Tryz.prog.globals[0]?).map (·.type)=some 200:=by kernel_rfl
theorem Qbe:(Tryz.prog.globals[3]?).map (·.type)=some 317:=by kernel_rfl
theorem Zon:Tryz.prog.cellsOf 314=1:=by kernel_rfl
theorem Zom:Tryz.prog.cellsOf 9=1:=by kernel_rfl
theorem Zvu:Tryz.prog.cellsOf 193=1:=by kernel_rfl
theorem Zvv:Tryz.prog.cellsOf 317=20:=by kernel_rfl
theorem Zyy : "*" ++ "errors.errorString" = "*errors.errorString" := by decide
theorem Qa3 (u : TypeId) (h : Tryz.prog.typeName? 3 u = some "*errors.errorString") : u = 312 :=
 typeName_ptr_named (nm := "errors.errorString") (by rw [Zyy]; kernel_rfl) (by kernel_rfl) (by decide) u (by rw [Zyy]; exact h)
theorem Zvk(os:Os)(args:Array Value):laidMetH Tryz.prog Zse ((World.doorLaid Tryz.prog 400 os).forCall (fun _ _=>0) ⟨#[],args,[]⟩).memory :=
 laidMetH_of_parts3 (fuel:=8) (laidMet_of_run' 8 (by kernel_rfl) (by kernel_rfl)) (by kernel_rfl) (by kernel_rfl)
theorem Zxt{W:World}(h:laidMetH Tryz.prog Zse W):Qb W:=by
 rw[MakeChecks.laidMetH_plain _ _ _ (by kernel_rfl)] at h
 have h3:=laidMet.tail (laidMet.tail h);have h4:=laidMet.tail h3;have h5:=laidMet.tail h4;obtain⟨a0,s0,hv0,-,-,-⟩:=laid_sentinel h4 gER tER Tryz.underlying200 Qa3 Tryz.underlying312 Tryz.underlying314 rfl rfl Tryz.underlying9 Zon Zom;obtain⟨a1,s1,hv1,-,-,-⟩:=laid_sentinel h5 gES tES Tryz.underlying200 Qa3 Tryz.underlying312 Tryz.underlying314 rfl rfl Tryz.underlying9 Zon Zom;have k0:W.cell? ⟨1,0,none⟩=some (.iface 312 (.pointer (some a0))):=by
  have h0:=World.var?_cell gER hv0 0
  simpa using h0
 have k1:W.cell? ⟨0,0,none⟩=some (.iface 312 (.pointer (some a1))):=by
  have h0:=World.var?_cell gES hv1 0
  simpa using h0
 exact⟨Lib.tabIs_of_head (k := .u64) (zs:=Lib.pow10Tab) Zd9 Qbe Tryz.underlying317 Tryz.underlying193 Zvu Zvv h3,⟨_,k0,.inr ⟨_,_,rfl⟩⟩,⟨_,k1,.inr ⟨_,_,rfl⟩⟩⟩
end Go.Proofs.YtnjedhgcfeoemaaGreatDoor

namespace Go.Proofs.YtnjedhgcfeoemaaGreatDoor
open Go.RowKit
theorem Zki(n:Int)(d:Nat)(h:d≠0):(mkRat n d).num=n/((Nat.gcd n.natAbs d:Nat):Int):=by
 rw[← Rat.normalize_eq_mkRat h,Rat.num_normalize]
theorem Zkj(n:Int)(d:Nat)(h:d≠0):(mkRat n d).den=d/Nat.gcd n.natAbs d:=by
 rw[← Rat.normalize_eq_mkRat h,Rat.den_normalize]
def Sm (D:Nat) (q:Rat):Prop:=q.num.natAbs<10^D∧q.den<10^D
theorem Sm.mk'{D:Nat}{n:Int}{d:Nat}(h:d≠0)(h1:n.natAbs<10^D)(h2:d<10^D):Sm D (mkRat n d):=by
 refine⟨?_,?_⟩
 ·rw[Zki n d h];have:(n/((Nat.gcd n.natAbs d:Nat):Int)).natAbs≤n.natAbs:=by
   have h3:((Nat.gcd n.natAbs d:Nat):Int) ∣ n:=Int.gcd_dvd_left n (d:Int);rw[Int.natAbs_ediv_of_dvd h3];exact Nat.div_le_self _ _
  omega
 ·rw[Zkj n d h];exact Nat.lt_of_le_of_lt (Nat.div_le_self _ _) h2
theorem Sm.le{D E:Nat}{q:Rat}(h:Sm D q)(hE:D≤E):Sm E q :=
 ⟨Nat.lt_of_lt_of_le h.1 (Nat.pow_le_pow_right (by decide) hE),Nat.lt_of_lt_of_le h.2 (Nat.pow_le_pow_right (by decide) hE)⟩
theorem Qd{a b D E:Nat}(h1:a<10^D)(h2:b<10^E):a*b<10^(D+E):=by
 rw[Nat.pow_add];exact Nat.mul_lt_mul'' h1 h2
theorem Sm.mul{D E:Nat}{a b:Rat}(ha:Sm D a)(hb:Sm E b):Sm (D+E) (a*b):=by
 rw[Rat.mul_def'];refine Sm.mk' (Nat.mul_ne_zero a.den_nz b.den_nz) ?_ (Qd ha.2 hb.2);rw[Int.natAbs_mul];exact Qd ha.1 hb.1
theorem Zwb{n m:Int}{d e D E:Nat}(h1:n.natAbs<10^D)(h2:m.natAbs<10^E)(h3:d<10^D)(h4:e<10^E):(n*e).natAbs+(m*d).natAbs+1<10^(D+E+1):=by
 have e1:=Qd h1 h4;have e2:=Qd h2 h3;rw[Nat.add_comm E D] at e2;rw[Int.natAbs_mul,Int.natAbs_mul,Int.natAbs_natCast,Int.natAbs_natCast,Nat.pow_succ];have:=Nat.pow_pos (n:=D+E) (show 0<10 by decide)
 omega
theorem Sm.add{D E:Nat}{a b:Rat}(ha:Sm D a)(hb:Sm E b):Sm (D+E+1) (a+b):=by
 rw[Rat.add_def'];have e1:=Zwb ha.1 hb.1 ha.2 hb.2;have e2:=Qd ha.2 hb.2;have e3:=Int.natAbs_add_le (a.num*b.den) (b.num*a.den);have e4:10^(D+E)≤10^(D+E+1):=Nat.pow_le_pow_right (by decide) (by omega)
 exact Sm.mk' (Nat.mul_ne_zero a.den_nz b.den_nz) (by omega) (by omega)
theorem Sm.pos{D:Nat}{q:Rat}(h:Sm D q):0<D:=by
 rcases Nat.eq_zero_or_pos D with h0|h0
 ·subst h0;have:=h.2
  have:=q.den_pos
  omega
 ·exact h0
theorem Ku{x D:Nat}(h:x<10^D)(hD:0<D)(h6:D≤1000000):Num x:=by
 unfold Num;rw[Kw];exact Nat.le_trans ((Kr x D hD).2 h) h6
theorem Yz(x D:Nat)(hD:0<D):(dec x).size≤D↔x<10^D:=by
 rw[Kw];exact Kr x D hD
def fr (q:Rat):Value:=fv q.num q.den
theorem Zcw(n:Int)(d:Nat)(h:d≠0):Zjp n d=fr (mkRat n d):=by
 unfold Zjp fr;rw[Zki n d h,Zkj n d h]
theorem Zqj(w:World)(a b:Rat)(D E:Nat)(ha:Sm D a)(hb:Sm E b)(h6:D+E+2≤1000000)(L:Qb w):
  Kc Tryz.prog 110 #[fr a,fr b] w (fr (a+b)):=by
 have h1:=Zwb ha.1 hb.1 ha.2 hb.2;have h2:=Qd ha.2 hb.2;have h3:10^(D+E)<10^(D+E+1):=Nat.pow_lt_pow_right (by decide) (by omega)
 have p1:=ha.pos;have p2:=hb.pos;have q1:10^D≤10^(D+E):=Nat.pow_le_pow_right (by decide) (by omega)
 have q2:10^E≤10^(D+E):=Nat.pow_le_pow_right (by decide) (by omega)
 have q3:10^(D+E+1)=10^(D+E)*10:=Nat.pow_succ ..;have:=ha.1
 have:=hb.1
 have h:=Zv4 w a.num b.num a.den b.den (Ku ha.1 p1 (by omega)) (Ku hb.1 p2 (by omega)) (Ku ha.2 p1 (by omega)) (Ku hb.2 p2 (by omega)) a.den_pos b.den_pos
  (Ku (D:=D+E+1) h1 (by omega) (by omega)) (Ku (D:=D+E+1) (by omega) (by omega) (by omega)) (Ku (D:=D+E+1) (by omega) (by omega) (by omega)) L
 rw[Zcw _ _ (Nat.mul_ne_zero a.den_nz b.den_nz),← Rat.add_def'] at h;exact h
theorem Ztu(w:World)(a b:Rat)(D E:Nat)(ha:Sm D a)(hb:Sm E b)(h6:D+E+2≤1000000)(L:Qb w):
  Kc Tryz.prog 47 #[fr a,fr b] w (fr (a*b)):=by
 have h1:=Qd ha.1 hb.1;have h2:=Qd ha.2 hb.2;have h3:10^(D+E)<10^(D+E+1):=Nat.pow_lt_pow_right (by decide) (by omega)
 have p1:=ha.pos;have p2:=hb.pos;rw[← Int.natAbs_mul] at h1;have h:=Zun w a.num b.num a.den b.den (Ku ha.1 p1 (by omega)) (Ku hb.1 p2 (by omega)) (Ku ha.2 p1 (by omega)) (Ku hb.2 p2 (by omega)) a.den_pos b.den_pos
  (Ku (D:=D+E+1) (by omega) (by omega) (by omega)) (Ku (D:=D+E+1) (by omega) (by omega) (by omega)) L
 rw[Zcw _ _ (Nat.mul_ne_zero a.den_nz b.den_nz),← Rat.mul_def'] at h;exact h
theorem Zij(w:World)(a:Rat):Kc Tryz.prog 89 #[fr a] w (.int .i64 a.num.sign):=Zj2 w a.num a.den
theorem Zzu(w:World)(a:Rat)(D:Nat)(ha:Sm D a)(h6:D+1≤1000000)(L:Qb w):Kc Tryz.prog 123 #[fr a] w (.string (itx a.floor)):=by
 have p:=ha.pos;have h3:10^D<10^(D+1):=Nat.pow_lt_pow_right (by decide) (by omega)
 have:=ha.1
 have h:=Zp3 w a.num a.den (Ku ha.1 p (by omega)) (Ku ha.2 p (by omega)) a.den_pos (Ku (D:=D+1) (by omega) (by omega) (by omega)) L
 rw[← Rat.floor_def] at h;exact h
theorem Zrr(w:World)(z:Int)(q1 : -9223372036854775808≤z)(q2:z≤9223372036854775807)(L:Qb w):
  Kc Tryz.prog 98 #[.int .i64 z] w (fr (z:Rat)):=Zd7 w z q1 q2 L
def Vy (q:Rat):Prop:=q.num.natAbs<10^30∧q.den<10^30
instance (q:Rat):Decidable (Vy q):=by unfold Vy;infer_instance
theorem Zwe(w:World)(a:Rat):Kc Tryz.prog 151 #[fr a] w (.bool (decide (Vy a))):=by
 have h:=Zq5 w a.num a.den;have e:decide ((dec a.num.natAbs).size≤30∧(dec a.den).size≤30)=decide (Vy a):=by
  rw[decide_eq_decide];unfold Vy;rw[Yz _ _ (by decide),Yz _ _ (by decide)]
 rw[e] at h;exact h
def IsQ (s t:ByteArray):Prop:=∃ q:Rat,s=itx q.num∧t=dec q.den∧Sm 400 q
theorem Zs7(w:World)(q:Rat)(hq:Sm 400 q)(L:Qb w):Kc Tryz.prog 150 #[fr q] w (.int .i64 0):=by
 have p:=hq.pos;have h:=Zh2 w q.num q.den (Ku hq.1 p (by decide)) (Ku hq.2 p (by decide)) q.den_pos L
 rw[if_pos ⟨⟨(Yz _ _ (by decide)).2 hq.1,(Yz _ _ (by decide)).2 hq.2⟩,q.reduced⟩] at h
 exact h
def Qs (l:List (ByteArray×ByteArray)):List Value:=l.flatMap fun x=>[.string x.1,.string x.2]
theorem Va(l:List (ByteArray×ByteArray)):(Qs l).length=l.length*2:=by
 induction l with
 | nil=>rfl
 | cons x l ih=>simp only[Qs,List.flatMap_cons,List.length_append,List.length_cons,List.length_nil] at ih ⊢;omega
theorem Zy(x:ByteArray×ByteArray)(l):Qs (x::l) = .string x.1 :: .string x.2::Qs l:=rfl
theorem Zjh(l m:List (ByteArray×ByteArray)):Qs (l++m)=Qs l++Qs m:=by simp[Qs]
theorem Zbo:∀ (l:List (ByteArray×ByteArray)) (k:Nat) (h:k<l.length),(Qs l)[k*2]?=some (.string l[k].1)∧(Qs l)[k*2+1]?=some (.string l[k].2)
 | [],k,h=>by simp at h
 | x::l,0,h=>by rw[Zy];exact⟨rfl,rfl⟩
 | x::l,k+1,h=>by
  rw[Zy,show (k+1)*2=k*2+1+1 by omega,show k*2+1+1+1=(k*2+1)+1+1 by omega]
  simp only[List.getElem?_cons_succ,List.getElem_cons_succ];exact Zbo l k (by simpa using h)
theorem Zh4:∀ (l:List (ByteArray×ByteArray)) (k:Nat) (s t:ByteArray),k<l.length→((Qs l).set (k*2) (.string s)).set (k*2+1) (.string t)=Qs (l.set k (s,t))
 | [],k,s,t,h=>by simp at h
 | x::l,0,s,t,h=>by rw[List.set_cons_zero,Zy,Zy];rfl
 | x::l,k+1,s,t,h=>by
  rw[List.set_cons_succ,Zy,Zy,show (k+1)*2=k*2+1+1 by omega,show k*2+1+1+1=(k*2+1)+1+1 by omega]
  simp only[List.set_cons_succ];rw[Zh4 l k s t (by simpa using h)]
def qs (q:Rat):ByteArray×ByteArray:=(itx q.num,dec q.den)
def Kx (l:List Rat):List Value:=Qs (l.map qs)
theorem Ky(l:List Rat):(Kx l).length=l.length*2:=by unfold Kx;rw[Va,List.length_map]
def Zjo (w:World) (B:Nat) (a:Option Addr) (c:Nat) (l:List (ByteArray×ByteArray)):Prop:=w.ownsRow B 42 2 (.slice a l.length c) l.length (Qs l)
theorem Zjo.open{w:World}{B c:Nat}{a:Option Addr}{l:List (ByteArray×ByteArray)}(h:Zjo w B a c l)(hn:0<l.length):
  ∃ g,a=some ⟨g,0,none⟩∧B≤g∧g<w.heap.size∧l.length≤c∧(∀ j (hj:j<l.length),w.cell? ⟨g,j*2,none⟩=some (.string l[j].1)∧w.cell? ⟨g,j*2+1,none⟩=some (.string l[j].2))∧(∀ j,w.frozen? ⟨g,j,none⟩=false):=by
 obtain⟨g,cap,hv,h1,h2,h3,h4,h5⟩:=Vv h hn;simp only[Value.slice.injEq] at hv;obtain⟨rfl,-,rfl⟩:=hv;exact⟨g,rfl,h1,h2,h3,fun j hj=>⟨by rw[h4 (j*2) (by omega),(Zbo l j hj).1],by rw[h4 (j*2+1) (by omega),(Zbo l j hj).2]⟩,h5⟩
theorem Zjo.rd{w:World}{B c:Nat}{a:Option Addr}{l:List (ByteArray×ByteArray)}(h:Zjo w B a c l):Rd w a (Qs l):=by
 by_cases hn:0<l.length
 ·obtain⟨g,cap,hv,h1,h2,h3,h4,h5⟩:=Vv h hn;simp only[Value.slice.injEq] at hv;obtain⟨rfl,-,rfl⟩:=hv;refine .inr ⟨g,0,rfl,h2,fun i v hi=>?_⟩
  rw[Nat.zero_add,h4 i (by have:=(List.getElem?_eq_some_iff.1 hi).1;rw[Va] at this;exact this)]
  exact hi
 ·rw[List.eq_nil_of_length_eq_zero (show l.length=0 by omega)];exact .inl rfl
theorem Zjo.below{w w':World}{B c:Nat}{a:Option Addr}{l:List (ByteArray×ByteArray)}(h:Zjo w B a c l){D:Nat}(hb:Below D w w')(hD:w.heap.size≤D):Zjo w' B a c l:=Vu h hb hD
theorem Zjo.store{w:World}{B c g:Nat}{l:List (ByteArray×ByteArray)}(h:Zjo w B (some ⟨g,0,none⟩) c l)(j:Nat)(hj:j<l.length)(s t:ByteArray):
  Zjo ((w.setCell ⟨g,j*2,none⟩ (.string s)).setCell ⟨g,j*2+1,none⟩ (.string t)) B (some ⟨g,0,none⟩) c (l.set j (s,t)):=by
 have h1:=(World.ownsRow.stored h (j*2) (.string s)).1;have h2:=(World.ownsRow.stored h1 (j*2+1) (.string t)).1;rw[Zh4 l j s t hj] at h2;unfold Zjo;rw[List.length_set];exact h2
theorem Zzp:(Tryz.prog.info? 42).map (fun i=>(i.zero,i.size,i.bytes))=some (some (.agg #[.string ⟨#[]⟩,.string ⟨#[]⟩]),2,32):=by kernel_rfl
theorem elQ:Zbp Tryz.prog 38 42 (.agg #[.string ⟨#[]⟩,.string ⟨#[]⟩]) 2 32:=⟨Tryz.underlying38,info_parts Zzp,rfl,by decide⟩
def Ym (n:Nat):List (ByteArray×ByteArray):=List.replicate n (⟨#[]⟩,⟨#[]⟩)
theorem Zmu(n j:Nat)(h:j<(Qs (Ym n)).length):(Qs (Ym n))[j] = .string ⟨#[]⟩:=by
 have hm:=List.getElem_mem h;obtain⟨x,hx1,hx2⟩:=List.mem_flatMap.1 hm;obtain rfl:=List.eq_of_mem_replicate hx1
 simpa using hx2
theorem Zpp(n:Nat):madeCells #[.string ⟨#[]⟩,.string ⟨#[]⟩] (n*2)=(Qs (Ym n)).toArray:=by
 apply Array.ext
 ·rw[size_madeCells,List.size_toArray,Va];simp[Ym]
 ·intro i h1 h2;rw[List.size_toArray] at h2;have e:(Qs (Ym n)).toArray[i] = .string ⟨#[]⟩:=by rw[List.getElem_toArray];exact Zmu n i h2
  rw[e];simp only[madeCells,Array.getElem_map,Array.getElem_range];rcases(show i%2=0∨i%2=1 by omega) with h|h<;>simp[h]
theorem Zy7(n:Nat)(w:World)(hn:n≤100000000):
  (Instr.makeSlice 38 (.int .i64 (n:Int)) (.int .i64 (n:Int))).run Tryz.prog w = .ok (.slice (some ⟨w.heap.size,0,none⟩) n n) (w.alloc (.cells (Qs (Ym n)).toArray 42)):=by
 obtain⟨i,hi,hz,hs,hb⟩:=info_parts Zzp;have:=run_make (P:=Tryz.prog) w 38 42 i _ Tryz.underlying38 hi hz .i64 .i64 n n (by omega) (by omega) (by rw[hb];omega) (by omega)
 simp only[Int.toNat_natCast,hs] at this;rw[show (Value.agg #[.string ⟨#[]⟩,.string ⟨#[]⟩]).cells = #[.string ⟨#[]⟩,.string ⟨#[]⟩] from rfl,Zpp] at this
 exact this
theorem Zkb(w:World)(l:List (ByteArray×ByteArray))(hl:l.length≤100000000):Zjo (w.alloc (.cells (Qs l).toArray 42)) w.heap.size (some ⟨w.heap.size,0,none⟩) l.length l :=
 ⟨Va l,.inr ⟨w.heap.size,l.length,(Qs l).toArray,rfl,Nat.le_refl _,heap_alloc_new _ _,Nat.le_refl _,by unfold maxLen;omega,by simp[Va],List.take_of_length_le (by simp[Va])⟩⟩
def Za8 (n k:Nat):List (ByteArray×ByteArray):=List.replicate k (qs 0)++Ym (n-k)
theorem Zz(n k:Nat)(h:k≤n):(Za8 n k).length=n:=by simp[Za8,Ym];omega
theorem Zli(n k:Nat)(h:k<n):(Za8 n k).set k (qs 0)=Za8 n (k+1):=by
 unfold Za8 Ym;rw[List.set_append_right _ _ (by simp),List.length_replicate,Nat.sub_self]
 obtain⟨m,hm⟩:∃ m,n-k=m+1:=⟨n-k-1,by omega⟩
 rw[hm,show n-(k+1)=m by omega,List.replicate_succ,List.set_cons_zero]
 rw[List.replicate_succ',List.append_assoc];rfl
def Zc3 (w:World) (B:Nat) (a:Option Addr) (c:Nat) (l:List Rat):Prop:=Zjo w B a c (l.map qs)
theorem Zc3.rd{w:World}{B c:Nat}{a:Option Addr}{l:List Rat}(h:Zc3 w B a c l):Rd w a (Kx l):=Zjo.rd h
theorem Zc3.below{w w':World}{B c:Nat}{a:Option Addr}{l:List Rat}(h:Zc3 w B a c l){D:Nat}(hb:Below D w w')(hD:w.heap.size≤D):Zc3 w' B a c l:=Zjo.below h hb hD
theorem Zc3.open{w:World}{B c:Nat}{a:Option Addr}{l:List Rat}(h:Zc3 w B a c l)(hn:0<l.length):
  ∃ g,a=some ⟨g,0,none⟩∧B≤g∧g<w.heap.size∧l.length≤c∧(∀ j (hj:j<l.length),w.cell? ⟨g,j*2,none⟩=some (.string (itx l[j].num))∧w.cell? ⟨g,j*2+1,none⟩=some (.string (dec l[j].den)))∧(∀ j,w.frozen? ⟨g,j,none⟩=false):=by
 obtain⟨g,h1,h2,h3,h4,h5,h6⟩:=Zjo.open h (by simpa using hn)
 refine⟨g,h1,h2,h3,by simpa using h4,fun j hj=>?_,h6⟩
 have:=h5 j (by simpa using hj)
 simpa [qs] using this
theorem Zc3.store{w:World}{B c g:Nat}{l:List Rat}(h:Zc3 w B (some ⟨g,0,none⟩) c l)(j:Nat)(hj:j<l.length)(q:Rat):
  Zc3 ((w.setCell ⟨g,j*2,none⟩ (.string (itx q.num))).setCell ⟨g,j*2+1,none⟩ (.string (dec q.den))) B (some ⟨g,0,none⟩) c (l.set j q):=by
 have:=Zjo.store h j (by simpa using hj) (itx q.num) (dec q.den)
 unfold Zc3;rw[List.map_set];exact this
def Zh8 (f:FuncId) (args:Array Value) (w:World) (l:List Rat):Prop :=
 Calls Tryz.prog f args w fun e w'=>∃ a c,e = .returned (.slice a l.length c)∧Zc3 w' w.heap.size a c l∧Below w.heap.size w w'
theorem Ztx(w:World)(n:Nat)(hn:n≤1000)(L:Qb w):Zh8 132 #[.int .i64 n] w (List.replicate n 0):=by
 unfold Zh8;have hmk:=Zy7 n w (by omega)
 have HL:=hd_ L;have Ho:=hd_ (Zkb w (Ym n) (by simp[Ym];omega))
 have Hb0:=hd_ ((Below.refl w.heap.size w).alloc nr_ (.cells (Qs (Ym n)).toArray 42));have Hnum:Hid (∀ W,Below w.heap.size w W→Kc Tryz.prog 98 #[.int .i64 0] W (.agg #[.string (itx 0),.string (dec 1)])):=fun W hW=>Zd7 W 0 (by decide) (by decide) (HL.out.below hW)
 have hwn:IntKind.i64.wrap (n:Int)=n:=iw_ _ (by omega)
 clear L;go_enter Tryz.func132,Tryz.ntmps132
 go_wp2_with fail
 go_loopw [9] (fun i wr=>∃ k:Nat,k≤n∧i = .int .i64 k∧Hid (Zjo wr w.heap.size (some ⟨w.heap.size,0,none⟩) n (Za8 n k))∧Hid (Below w.heap.size w wr)) (fun i _=>n-(intOf i).toNat)
 case atStart =>
  refine⟨0,Nat.zero_le _,rfl,?_,Hb0⟩;have:=Ho.out
  rw[show (Ym n).length=n by simp[Ym]] at this
  show Zjo _ _ _ _ _
  rw[show Za8 n 0=Ym n by simp[Za8]]
  exact this
 case round =>
  obtain⟨k,hk,rfl,Hown,Hb⟩:=hrel
  by_cases hlt:k<n
  ·have hlt':(k:Int)<n:=by omega
   have hnum:=Hnum.out wr Hb.out
   go_wp2_with fail
   refine cm_ hnum ?_;rintro e w1 ⟨rfl,hb1⟩;have hown1:=Hown.out.below hb1 nr_;have hb:=Hb.out.trans (hb1.mono Hb.out.size);obtain⟨g,hg,hB,hgl,-,hcells,hfr⟩:=hown1.open (by rw[Zz n k hk];omega)
   simp only[Option.some.injEq,Addr.mk.injEq,and_true] at hg;subst hg;have c0:=(hcells k (by rw[Zz n k hk];exact hlt)).1
   have c1:=(hcells k (by rw[Zz n k hk];exact hlt)).2
   have f0:=hfr (k*2);have f1:=hfr (k*2+1);have Hown1:=hd_ hown1;have Hb1:=hd_ hb;clear hown1 hb hcells hb1 hnum Hown Hb hfr;go_wp2
   go_roundw
   case rel =>
    refine⟨k+1,by omega,by go_num,?_,?_⟩
    ·have:=Hown1.out.store k (by rw[Zz n k hk];exact hlt) (itx 0) (dec 1)
     rw[show ((itx 0,dec 1):ByteArray×ByteArray)=qs 0 from rfl,Zli n k hlt] at this
     exact this
    ·exact(Hb1.out.setCell (p:=⟨w.heap.size,k*2,none⟩) nr_ _).setCell (p:=⟨w.heap.size,k*2+1,none⟩) nr_ _
   case measure=>simp[intOf];omega
  ·have hlt':¬ (k:Int)<n:=by omega
   have hkn:k=n:=by omega
   subst hkn;go_wp2;go_ret;refine⟨some ⟨w.heap.size,0,none⟩,k,by first | rfl | (rw[show (List.replicate k (0:Rat)).length=k from List.length_replicate];rfl),?_,Hb.out⟩
   have:=Hown.out
   unfold Zc3;rw[List.map_replicate];have e:Za8 k k=List.replicate k (qs 0):=by simp[Za8,Ym]
   rw[e] at this;exact this
def Zcm (s:ByteArray):Bool:=decide (0<s.size∧(lb s).getD 0 0=45)
def Zed (s:ByteArray):ByteArray:=if Zcm s then s.extract 1 s.size else s
theorem Zr1(s:ByteArray):(Zed s).size≤s.size:=by
 unfold Zed;split
 ·rw[ByteArray.size_extract];omega
 ·omega
theorem Zo6(w:World)(s:ByteArray)(hs:s.size≤10000000):
  Kc Tryz.prog 68 #[.string s] w (.tuple #[.bool (Zcm s),.string (Zed s)]):=by
 unfold Kc
 by_cases h0:0<s.size
 ·have hix:∀ W,(Instr.index 25 (.string s) (.int .i64 0)).run Tryz.prog W = .ok (.int .u8 ((lb s).getD 0 0).toNat) W:=fun W=>Zu9 W s h0
  have hpos:(0:Int)<s.size:=by omega
  have hone:(1:Int)≤s.size:=by omega
  by_cases hc:(lb s).getD 0 0=45
  ·have Hv:Hid (Zcm s=true):=by show _=_;unfold Zcm;rw[decide_eq_true_eq];exact⟨h0,hc⟩
   have Hm:Hid (Zed s=s.extract 1 s.size):=by show _=_;unfold Zed;rw[if_pos Hv.out]
   rw[hc] at hix;rw[show (((45:UInt8).toNat:Nat):Int)=45 from rfl] at hix
   rw[Hv.out,Hm.out];clear Hv Hm hc;go_enter Tryz.func68,Tryz.ntmps68
   go_wp2_with fail
   go_quiet (fail)
   go_wp2
   go_ret2
   exact⟨by first | rfl | simp,by first | exact Below.refl _ _ | exact Qf _ _⟩
  ·have Hv:Hid (Zcm s=false):=by show _=_;unfold Zcm;rw[decide_eq_false_iff_not];exact fun h=>hc h.2
   have Hm:Hid (Zed s=s):=by show _=_;unfold Zed;rw[if_neg (by rw[Hv.out];decide)]
   rw[Hv.out,Hm.out];have hcc:((((lb s).getD 0 0).toNat:Int)==45)=false:=by
    rw[beq_eq_false_iff_ne];intro h;apply hc;apply UInt8.toNat_inj.1;have:(45:UInt8).toNat=45:=rfl
    omega
   clear Hv Hm hc;generalize (((lb s).getD 0 0).toNat:Int)=c at *
   go_enter Tryz.func68,Tryz.ntmps68;go_wp2
   go_ret2
   exact⟨rfl,Below.refl _ _⟩
 ·have Hv:Hid (Zcm s=false):=by show _=_;unfold Zcm;rw[decide_eq_false_iff_not];exact fun h=>h0 h.1
  have Hm:Hid (Zed s=s):=by show _=_;unfold Zed;rw[if_neg (by rw[Hv.out];decide)]
  rw[Hv.out,Hm.out];have hpos:¬ (0:Int)<s.size:=by omega
  clear Hv Hm;go_enter Tryz.func68,Tryz.ntmps68;go_wp2
  go_ret2
  exact⟨rfl,Below.refl _ _⟩
def IsZ (s:ByteArray):Prop:=∃ z:Int,s=itx z∧(dec z.natAbs).size≤400
theorem Zdq(z:Int):Zcm (itx z)=decide (z<0):=by
 unfold Zcm;rw[decide_eq_decide];rcases Int.eq_nat_or_neg z with⟨n,rfl|rfl⟩
 ·rw[Kj];have:=Zay n
  constructor
  ·intro h;rw[h.2] at this;exact absurd this (by decide)
  ·omega
 ·rcases Nat.eq_zero_or_pos n with h | h
  ·subst h;have hd:=Zay 0
   show 0<(itx ((0:Nat):Int)).size∧(lb (itx ((0:Nat):Int))).getD 0 0=45↔_
   rw[Kj];constructor
   ·intro h;rw[h.2] at hd;exact absurd hd (by decide)
   ·intro h;exact absurd h (by decide)
  ·rw[Zam n h,Zh n h];constructor
   ·intro _;omega
   ·intro _;exact⟨by omega,rfl⟩
theorem Ziy(z:Int):Zed (itx z)=dec z.natAbs:=by
 unfold Zed;rw[Zdq]
 by_cases h:z<0
 ·rw[if_pos (decide_eq_true h)];obtain⟨n,rfl⟩:∃ n:Nat,z = -(n:Int):=⟨z.natAbs,by omega⟩
  rw[Zn2 n (by omega)]
  congr 1;omega
 ·rw[if_neg (by rw[decide_eq_false h];decide)]
  obtain⟨n,rfl⟩:∃ n:Nat,z=(n:Int):=⟨z.natAbs,by omega⟩
  rw[Kj];rfl
theorem Zk8{s:ByteArray}(h:Zb9 (lb s)):∃ n,s=dec n:=by
 refine⟨Qr (lb s),?_⟩;have:=congrArg bs (Zk9 h)
 rw[bs_lb] at this;exact this
theorem Zmb{s:ByteArray}(h:Zcm s=true):lb s=45::lb (s.extract 1 s.size):=by
 unfold Zcm at h;rw[decide_eq_true_eq] at h;obtain⟨h0,h1⟩:=h;have hl:lb (s.extract 1 s.size)=(lb s).drop 1:=by
  unfold lb;rw[ByteArray.data_extract,Array.toList_extract]
  show (s.data.toList.drop 1).take (s.size-1)=s.data.toList.drop 1
  refine List.take_of_length_le ?_;rw[List.length_drop,Array.length_toList];exact Nat.le_refl _
 rw[hl];rw[← Yb] at h0;generalize lb s=u at *
 cases u with
 | nil=>exact absurd h0 (by decide)
 | cons c l =>
  rw[show (c::l).getD 0 0=c from rfl] at h1
  rw[h1];rfl
theorem Zxx(s:ByteArray):IsZ s↔¬ (Zcm s=true∧Zed s=⟨#[48]⟩)∧Zb9 (lb (Zed s))∧(Zed s).size≤400:=by
 constructor
 ·rintro⟨z,rfl,hz⟩;rw[Ziy,Zdq];refine⟨?_,Zk7 _,hz⟩;rintro⟨h1,h2⟩;rw[decide_eq_true_eq] at h1;have h3:((dec z.natAbs).toList==[48])=true:=by rw[h2,Vj];rfl
  rw[Zb,decide_eq_true_eq] at h3;omega
 ·rintro⟨h1,h2,h3⟩;obtain⟨n,hn⟩:=Zk8 h2
  by_cases hneg:Zcm s=true
  ·have hn0:1≤n:=by
    rcases Nat.eq_zero_or_pos n with h|h
    ·subst h;exact absurd ⟨hneg,hn.trans Zc1⟩ h1
    ·exact h
   refine⟨-(n:Int),?_,?_⟩
   ·have e:=Zmb hneg;have hm:s.extract 1 s.size=dec n:=by rw[← hn];unfold Zed;rw[if_pos hneg]
    rw[hm] at e;have:=congrArg bs e
    rw[bs_lb,Vw] at this;rw[this,Zgf n hn0]
   ·have e:(-(n:Int)).natAbs=n:=by omega
    rw[e,← hn];exact h3
  ·have hm:Zed s=s:=by unfold Zed;rw[if_neg hneg]
   rw[hm] at hn h3;refine⟨(n:Int),by rw[Kj];exact hn,?_⟩
   rw[show ((n:Nat):Int).natAbs=n from rfl,← hn];exact h3
theorem Zgt(w:World)(s:ByteArray)(h:IsZ s):Kc Tryz.prog 126 #[.string s] w (.int .i64 0):=by
 obtain⟨z,rfl,hz⟩:=h;have:=Zem w z (Nat.le_trans hz (by decide))
 rw[if_pos hz] at this;exact this
theorem Zh3(w:World)(s:ByteArray)(hs:s.size≤10000000)(h:¬ IsZ s):Kc Tryz.prog 126 #[.string s] w (.int .i64 2):=by
 unfold Kc;have Hs:=hd_ (Zo6 w s hs);have Hc:=hd_ (fun W=>Zk4 W (Zed s) (Nat.le_trans (Zr1 s) hs))
 rw[Zxx] at h
 by_cases hz:Zcm s=true∧Zed s=⟨#[48]⟩
 ·have hzz:((Zed s).toList==[48])=true:=by rw[hz.2,Vj];rfl
  rw[hz.1] at Hs;clear Hc hz h;generalize Zed s=t at *
  go_enter Tryz.func126,Tryz.ntmps126
  go_wp2_with fail
  refine cm_ Hs.out ?_;rintro e w1 ⟨rfl,hb1⟩;have Hb1:=hd_ hb1;clear hb1 Hs;go_wp2;go_ret;exact⟨rfl,Hb1.out⟩
 ·have hno:¬ (Zb9 (lb (Zed s))∧(Zed s).size≤400):=fun h'=>h ⟨hz,h'⟩
  rw[if_neg hno] at Hc;clear h hno
  by_cases hneg:Zcm s=true
  ·have hzz:((Zed s).toList==[48])=false:=by
    rw[Bool.eq_false_iff];intro h';apply hz;refine⟨hneg,?_⟩;have h2:=eq_of_beq h';rw[Vj] at h2;have:=congrArg bs h2
    rw[bs_lb] at this;exact this
   rw[hneg] at Hs;clear hz hneg;generalize Zed s=t at *
   go_enter Tryz.func126,Tryz.ntmps126
   go_wp2_with fail
   refine cm_ Hs.out ?_;rintro e w1 ⟨rfl,hb1⟩;have Hb1:=hd_ hb1;clear hb1 Hs
   go_wp2_with fail
   refine cm_ (Hc.out w1) ?_;rintro e w2 ⟨rfl,hb2⟩;have Hb2:=hd_ (Hb1.out.trans (hb2.mono Hb1.out.size));clear hb2 Hb1 Hc;go_wp2;go_ret;exact⟨rfl,Hb2.out⟩
  ·rw[Bool.not_eq_true] at hneg;rw[hneg] at Hs;clear hz hneg;generalize Zed s=t at *
   go_enter Tryz.func126,Tryz.ntmps126
   go_wp2_with fail
   refine cm_ Hs.out ?_;rintro e w1 ⟨rfl,hb1⟩;have Hb1:=hd_ hb1;clear hb1 Hs
   go_wp2_with fail
   refine cm_ (Hc.out w1) ?_;rintro e w2 ⟨rfl,hb2⟩;have Hb2:=hd_ (Hb1.out.trans (hb2.mono Hb1.out.size));clear hb2 Hb1 Hc;go_wp2;go_ret;exact⟨rfl,Hb2.out⟩
theorem Qah{q:Rat}{D:Nat}(hD:0<D)(h1:(dec q.num.natAbs).size≤D)(h2:(dec q.den).size≤D):Sm D q:=⟨(Yz _ _ hD).1 h1,(Yz _ _ hD).1 h2⟩
theorem Zzm{n:Int}{d:Nat}(h0:0<d)(hg:Nat.gcd n.natAbs d=1)(h1:(dec n.natAbs).size≤400)(h2:(dec d).size≤400):IsQ (itx n) (dec d) :=
 ⟨⟨n,d,by omega,hg⟩,rfl,rfl,Qah (by decide) h1 h2⟩
theorem Zgu(w:World)(s t:ByteArray)(hs:s.size≤10000000)(ht:t.size≤10000000)(h:¬ IsQ s t)(L:Qb w):
  Kc Tryz.prog 150 #[.agg #[.string s,.string t]] w (.int .i64 2):=by
 have Hb0:=hd_ ((Below.refl w.heap.size w).alloc nr_ (.cells #[.string s,.string t] 42));have Hnew:Hid ((w.alloc (.cells #[.string s,.string t] 42)).heap[w.heap.size]?=some (.cells #[.string s,.string t] 42 (0,0))):=heap_alloc_new w _
 by_cases h1:IsZ s
 ·have Hc1:=hd_ (fun W=>Zgt W s h1)
  by_cases h2:IsZ t
  ·have Hc2:=hd_ (fun W=>Zgt W t h2)
   obtain⟨n,rfl,hn⟩:=h1;obtain⟨z,rfl,hz⟩:=h2
   by_cases hz0:0<z
   ·obtain⟨d,rfl⟩:∃ d:Nat,z=(d:Int):=⟨z.toNat,by omega⟩
    rw[show ((d:Nat):Int).natAbs=d from rfl] at hz
    rw[Kj] at h ⊢;have:=Zh2 w n d (Nat.le_trans hn (by decide)) (Nat.le_trans hz (by decide)) (by omega) L
    rw[if_neg (fun hh=>h (Zzm (by omega) hh.2 hn hz))] at this
    exact this
   ·have Hsg:=hd_ (fun W=>Zo W z)
    have hsz:z.sign≤0:=by
     rcases Int.lt_or_eq_of_le (show z≤0 by omega) with h|h
     ·rw[Int.sign_eq_neg_one_of_neg h];decide
     ·rw[h];decide
    unfold Kc;clear h hn hz hz0 L;generalize z.sign=g at *
    generalize itx n=s at *
    generalize itx z=t at *
    go_enter Tryz.func150,Tryz.ntmps150;obtain⟨k0,k1,-,-⟩:=Ka Hnew.out
    go_wp2_with fail
    generalize w.alloc (.cells #[.string s,.string t] 42)=W0 at *
    clear k0 k1;refine cm_ (Hc1.out _) ?_;rintro e w1 ⟨rfl,hb1⟩;have Hb1:=hd_ hb1;clear hb1 Hc1 ;obtain⟨k0,k1,-,-⟩:=Ka (Kk Hnew.out Hb1.out)
    go_wp2_with fail
    skip
    clear k0 k1;refine cm_ (Hc2.out _) ?_;rintro e w2 ⟨rfl,hb2⟩;have Hb2:=hd_ (Hb1.out.trans (hb2.mono Hb1.out.size));clear hb2 Hc2 Hb1;obtain⟨k0,k1,-,-⟩:=Ka (Kk Hnew.out Hb2.out)
    go_wp2_with fail
    skip
    clear k0 k1;refine cm_ (Hsg.out _) ?_;rintro e w3 ⟨rfl,hb3⟩;have Hb3:=hd_ (Hb2.out.trans (hb3.mono Hb2.out.size));clear hb3 Hsg Hb2;have Hbw:=hd_ (Hb0.out.trans (Hb3.out.mono Hb0.out.size));obtain⟨k0,k1,-,-⟩:=Ka (Kk Hnew.out Hb3.out);go_wp2;go_ret;exact⟨rfl,Hbw.out⟩
  ·have Hc2:=hd_ (fun W=>Zh3 W t ht h2)
   unfold Kc;clear h h1 h2 L;go_enter Tryz.func150,Tryz.ntmps150;obtain⟨k0,k1,-,-⟩:=Ka Hnew.out
   go_wp2_with fail
   generalize w.alloc (.cells #[.string s,.string t] 42)=W0 at *
   clear k0 k1;refine cm_ (Hc1.out _) ?_;rintro e w1 ⟨rfl,hb1⟩;have Hb1:=hd_ hb1;clear hb1 Hc1 ;obtain⟨k0,k1,-,-⟩:=Ka (Kk Hnew.out Hb1.out)
   go_wp2_with fail
   skip
   clear k0 k1;refine cm_ (Hc2.out _) ?_;rintro e w2 ⟨rfl,hb2⟩;have Hb2:=hd_ (Hb1.out.trans (hb2.mono Hb1.out.size));clear hb2 Hc2 Hb1;have Hbw:=hd_ (Hb0.out.trans (Hb2.out.mono Hb0.out.size));obtain⟨k0,k1,-,-⟩:=Ka (Kk Hnew.out Hb2.out);go_wp2;go_ret;exact⟨rfl,Hbw.out⟩
 ·have Hc1:=hd_ (fun W=>Zh3 W s hs h1)
  unfold Kc;clear h h1 L;go_enter Tryz.func150,Tryz.ntmps150;obtain⟨k0,k1,-,-⟩:=Ka Hnew.out
  go_wp2_with fail
  generalize w.alloc (.cells #[.string s,.string t] 42)=W0 at *
  clear k0 k1;refine cm_ (Hc1.out _) ?_;rintro e w1 ⟨rfl,hb1⟩;have Hb1:=hd_ hb1;clear hb1 Hc1 ;have Hbw:=hd_ (Hb0.out.trans (Hb1.out.mono Hb0.out.size));obtain⟨k0,k1,-,-⟩:=Ka (Kk Hnew.out Hb1.out);go_wp2;go_ret;exact⟨rfl,Hbw.out⟩
end Go.Proofs.YtnjedhgcfeoemaaGreatDoor

namespace Go.Proofs.YtnjedhgcfeoemaaGreatDoor
open Go.RowKit
open Classical in
noncomputable def sgo:List (ByteArray×ByteArray)→Int
 | []=>0
 | x::l=>if ∃ q:Rat,x=qs q∧Sm 400 q then if ∃ q:Rat,x=qs q∧Vy q then sgo l else 4 else 2
noncomputable def Zcd (n:Nat) (l:List (ByteArray×ByteArray)):Int:=if l.length=n then sgo l else 5
theorem Ql{w:World}{b off:Nat}{l:List (ByteArray×ByteArray)}(h:∀ i v,(Qs l)[i]?=some v→w.cell? ⟨b,off+i,none⟩=some v)(k:Nat)(hk:k<l.length):
  w.cell? ⟨b,off+k*2,none⟩=some (.string (l.getD k default).1)∧w.cell? ⟨b,off+k*2+1,none⟩=some (.string (l.getD k default).2):=by
 have e:l.getD k default=l[k]:=by rw[List.getD_eq_getElem?_getD,List.getElem?_eq_getElem hk];rfl
 rw[e];exact⟨h _ _ (Zbo l k hk).1,by rw[Nat.add_assoc];exact h _ _ (Zbo l k hk).2⟩
theorem Zjg{a b:Nat}(h:dec a=dec b):a=b:=Zm4 (Zz1 h)
theorem Zi3{a b:Int}(h:itx a=itx b):a=b:=by
 have h1:=congrArg Zcm h;rw[Zdq,Zdq,decide_eq_decide] at h1;have h2:=congrArg Zed h;rw[Ziy,Ziy] at h2;have h3:=Zjg h2;omega
theorem Zy1{p q:Rat}(h:qs p=qs q):p=q:=by
 simp only[qs,Prod.mk.injEq] at h;exact Rat.ext (Zi3 h.1) (Zjg h.2)
open Classical in
theorem Zho(w:World)(a1 a2:Option Addr)(c1 c2 n:Nat)(l:List (ByteArray×ByteArray))(hr:Rd w a2 (Qs l))(hl:l.length≤1000000)(hn:n≤1000000)(hs:∀ x∈l,x.1.size≤1000000∧x.2.size≤1000000)(L:Qb w):
  Kc Tryz.prog 78 #[.slice a1 n c1,.slice a2 l.length c2] w (.int .i64 (Zcd n l)):=by
 unfold Kc;have HL:=hd_ L;have Hs:=hd_ hs;clear L hs
 by_cases hln:l.length=n
 ·have Hv:Hid (Zcd n l=sgo l):=by show _=_;unfold Zcd;rw[if_pos hln]
  by_cases h0:0<l.length
  ·obtain⟨b,off,rfl,hb,hcells⟩:=hr.open (by rw[Va];omega)
   have Hcells:=hd_ hcells;clear hcells hr;rw[hln];have Hn:=hd_ hln;clear hln hl h0;go_enter Tryz.func78,Tryz.ntmps78
   go_wp2_with fail
   go_loopw [14] (fun i wr=>∃ k:Nat,k≤n∧i = .int .i64 k∧Hid (sgo l=sgo (l.drop k))∧Hid (Below w.heap.size w wr)) (fun i _=>n-(intOf i).toNat)
   case atStart=>exact⟨0,Nat.zero_le _,rfl,rfl,Below.refl _ _⟩
   case round =>
    obtain⟨k,hk,rfl,Hg,Hb⟩:=hrel
    by_cases hlt:k<n
    ·have hlt':(k:Int)<n:=by omega
     have hkl:k<l.length:=by rw[Hn.out];exact hlt
     obtain⟨c0,c1⟩:=Ql Hcells.out k hkl;rw[← Hb.out.cell (p:=⟨b,off+k*2,none⟩) hb] at c0;rw[← Hb.out.cell (p:=⟨b,off+k*2+1,none⟩) hb] at c1;obtain⟨x,hx⟩:∃ x,l.getD k default=x:=⟨_,rfl⟩;have hgx:l[k]=x:=by rw[← hx,List.getD_eq_getElem?_getD,List.getElem?_eq_getElem hkl];rfl
     have Hd:Hid (l.drop k=x::l.drop (k+1)):=by show _=_;rw[← hgx];exact List.drop_eq_getElem_cons hkl
     have Hsz:=hd_ (Hs.out x (by rw[← hgx];exact List.getElem_mem hkl))
     rw[hx] at c0 c1;clear hx hgx hkl;obtain⟨s,t⟩:=x;simp only at c0 c1;have Hb0:=hd_ (Hb.out.alloc Hb.out.size (.cells #[.string s,.string t] 42));have Hnew:Hid ((wr.alloc (.cells #[.string s,.string t] 42)).heap[wr.heap.size]?=some (.cells #[.string s,.string t] 42 (0,0))):=heap_alloc_new wr _
     by_cases hq:∃ q:Rat,(s,t)=qs q∧Sm 400 q
     ·have hc1:Kc Tryz.prog 150 #[.agg #[.string s,.string t]] (wr.alloc (.cells #[.string s,.string t] 42)) (.int .i64 0):=by
       obtain⟨q,hqs,hq4⟩:=hq;simp only[qs,Prod.mk.injEq] at hqs;have hLL:=HL.out.below Hb0.out;rw[hqs.1,hqs.2] at hLL ⊢;exact Zs7 _ q hq4 hLL
      have Hsh:Hid (∀ W,Kc Tryz.prog 151 #[.agg #[.string s,.string t]] W (.bool (decide (∃ q:Rat,(s,t)=qs q∧Vy q)))):=fun W=>by
       obtain⟨q,hqs,hq4⟩:=hq;have e:decide (∃ p:Rat,(s,t)=qs p∧Vy p)=decide (Vy q):=by
        rw[decide_eq_decide];constructor
        ·rintro⟨p,h1,h2⟩;rw[hqs] at h1;rw[Zy1 h1];exact h2
        ·exact fun h=>⟨q,hqs,h⟩
       rw[e];simp only[qs,Prod.mk.injEq] at hqs;rw[hqs.1,hqs.2];exact Zwe W q
      have Hgo:Hid (sgo l=if ∃ q:Rat,(s,t)=qs q∧Vy q then sgo (l.drop (k+1)) else 4):=by
       show _=_
       rw[Hg.out,Hd.out]
       show (if _ then _ else _)=_
       rw[if_pos hq]
      clear hq Hg Hd
      go_wp2_with fail
      generalize wr.alloc (.cells #[.string s,.string t] 42)=W0 at *
      clear c0 c1;refine cm_ hc1 ?_;rintro e w1 ⟨rfl,hb1⟩;have Hb1:=hd_ hb1;clear hb1 hc1;obtain⟨k0,k1,-,-⟩:=Ka (Kk Hnew.out Hb1.out);have hsh:=Hsh.out w1
      by_cases hshort:∃ q:Rat,(s,t)=qs q∧Vy q
      ·rw[decide_eq_true hshort] at hsh;have Hgg:Hid (sgo l=sgo (l.drop (k+1))):=by show _=_;rw[Hgo.out,if_pos hshort]
       clear hshort Hgo Hsh
       go_wp2_with fail
       clear k0 k1;refine cm_ hsh ?_;rintro e w2 ⟨rfl,hb2⟩;have Hb2:=hd_ (Hb0.out.trans ((Hb1.out.trans (hb2.mono Hb1.out.size)).mono Hb0.out.size));clear hb2 hsh Hb1;go_wp2
       go_roundw
       case rel=>exact⟨k+1,by omega,by go_num,Hgg,Hb2⟩
       case measure=>simp[intOf];omega
      ·rw[decide_eq_false hshort] at hsh;have Hgg:Hid (sgo l=4):=by show _=_;rw[Hgo.out,if_neg hshort]
       clear hshort Hgo Hsh
       go_wp2_with fail
       clear k0 k1;refine cm_ hsh ?_;rintro e w2 ⟨rfl,hb2⟩;have Hb2:=hd_ (Hb0.out.trans ((Hb1.out.trans (hb2.mono Hb1.out.size)).mono Hb0.out.size));clear hb2 hsh Hb1;go_wp2;go_ret;exact⟨by rw[Hv.out,Hgg.out];rfl,Hb2.out⟩
     ·have hc1:Kc Tryz.prog 150 #[.agg #[.string s,.string t]] (wr.alloc (.cells #[.string s,.string t] 42)) (.int .i64 2) :=
       Zgu _ s t (Nat.le_trans Hsz.out.1 (by decide)) (Nat.le_trans Hsz.out.2 (by decide)) (fun ⟨q,h1,h2,h3⟩=>hq ⟨q,by rw[h1,h2];rfl,h3⟩) (HL.out.below (Hb0.out))
      have Hgg:Hid (sgo l=2):=by
       show _=_
       rw[Hg.out,Hd.out]
       show (if _ then _ else _)=_
       rw[if_neg hq]
      clear hq Hg Hd
      go_wp2_with fail
      generalize wr.alloc (.cells #[.string s,.string t] 42)=W0 at *
      clear c0 c1;refine cm_ hc1 ?_;rintro e w1 ⟨rfl,hb1⟩;have Hb2:=hd_ (Hb0.out.trans (hb1.mono Hb0.out.size));clear hb1 hc1;go_wp2;go_ret;exact⟨by rw[Hv.out,Hgg.out];rfl,Hb2.out⟩
    ·have hlt':¬ (k:Int)<n:=by omega
     have Hvv:Hid (sgo l=0):=by
      show _=_
      rw[Hg.out,List.drop_of_length_le (by rw[Hn.out];omega)]
      rfl
     go_wp2;go_ret;exact⟨by rw[Hv.out,Hvv.out];rfl,Hb.out⟩
  ·have hnil:l=[]:=List.eq_nil_of_length_eq_zero (by omega)
   subst hnil;have hn0:n=0:=by rw[← hln];rfl
   subst hn0;have Hv0:Hid (sgo []=0):=rfl;rw[show ([]:List (ByteArray×ByteArray)).length=0 from rfl]
   have hz:((0:Nat):Int)=0:=rfl;go_enter Tryz.func78,Tryz.ntmps78
   go_wp2_with fail
   go_loopw [14] (fun i wr=>i = .int .i64 0∧Hid (Below w.heap.size w wr)) (fun i _=>0)
   case atStart=>exact⟨rfl,Below.refl _ _⟩
   case round =>
    obtain⟨rfl,Hb⟩:=hrel;go_wp2;go_ret;exact⟨by rw[Hv.out,Hv0.out];rfl,Hb.out⟩
 ·have Hv:Hid (Zcd n l=5):=by show _=_;unfold Zcd;rw[if_neg hln]
  have hne:((l.length:Int)==(n:Int))=false:=by rw[beq_eq_false_iff_ne];omega
  clear hr;generalize l.length=m at *
  go_enter Tryz.func78,Tryz.ntmps78;go_wp2;go_ret;exact⟨by rw[Hv.out];rfl,Below.refl _ _⟩
end Go.Proofs.YtnjedhgcfeoemaaGreatDoor

namespace Go.Proofs.YtnjedhgcfeoemaaGreatDoor
open Go.RowKit
abbrev Zeq:=List (ByteArray×ByteArray)
def RdL (w:World) (a:Option Addr) (ls:List Zeq):Prop :=
 ls=[]∨∃ b off,a=some ⟨b,off,none⟩∧b<w.heap.size∧∀ i,i<ls.length→∃ a' c',w.cell? ⟨b,off+i,none⟩=some (.slice a' (ls.getD i []).length c')∧Rd w a' (Qs (ls.getD i []))
theorem RdL.below{w w':World}{a:Option Addr}{ls:List Zeq}{B:Nat}(h:RdL w a ls)(hb:Below B w w')(hB:w.heap.size≤B):RdL w' a ls:=by
 rcases h with h|⟨b,off,h1,h2,h3⟩
 ·exact .inl h
 ·refine .inr ⟨b,off,h1,Nat.lt_of_lt_of_le h2 hb.size,fun i hi=>?_⟩
  obtain⟨a',c',h4,h5⟩:=h3 i hi;exact⟨a',c',by rw[hb.cell (p:=⟨b,off+i,none⟩) (by show b<B;omega)];exact h4,h5.below hb hB⟩
def Ssz (l:Zeq):Prop:=∀ x∈l,x.1.size≤1000000∧x.2.size≤1000000
noncomputable def Zte (ps:List Int) (l:Zeq):Int:=if Vp ps=0 then Zcd ps.length l else Vp ps
noncomputable def lgo (n:Nat):List Zeq→Int
 | []=>0
 | l::ls=>if Zcd n l=0 then lgo n ls else Zcd n l
noncomputable def Zkl (ps:List Int) (ls:List Zeq):Int:=if Vp ps=0 then lgo ps.length ls else Vp ps
theorem Zii(w:World)(a1 a2:Option Addr)(c1 c2:Nat)(ps:List Int)(l:Zeq)(hp:Rd w a1 (Vc ps))(hi:Zjq ps)(hl1:ps.length≤1000000)
  (hr:Rd w a2 (Qs l)) (hl:l.length≤1000000) (hs:Ssz l) (L:Qb w) :
  Kc Tryz.prog 22 #[.slice a1 ps.length c1,.slice a2 l.length c2] w (.int .i64 (Zte ps l)):=by
 unfold Kc;have H1:=hd_ (Zc8 w a1 c1 ps hp hi hl1);have H2:Hid (∀ W,Below w.heap.size w W→Kc Tryz.prog 78 #[.slice a1 ps.length c1,.slice a2 l.length c2] W (.int .i64 (Zcd ps.length l))):=fun W hW =>
  Zho W a1 a2 c1 c2 ps.length l (hr.below hW nr_) hl hl1 hs (L.below hW)
 have Hv:Hid (Zte ps l=if Vp ps=0 then Zcd ps.length l else Vp ps):=rfl
 clear hp hi hl1 hr hl hs L;generalize Zte ps l=v at *
 generalize Vp ps=p at *
 generalize Zcd ps.length l=q at *
 generalize ps.length=n at *
 generalize l.length=m at *
 by_cases h0:p=0
 ·subst h0;have Hvv:Hid (v=q):=by show _=_;rw[Hv.out,if_pos rfl]
  clear Hv;go_enter Tryz.func22,Tryz.ntmps22
  go_wp2_with fail
  refine cm_ H1.out ?_;rintro e w1 ⟨rfl,hb1⟩;have Hb1:=hd_ hb1;clear hb1 H1
  go_wp2_with fail
  refine cm_ (H2.out w1 Hb1.out) ?_;rintro e w2 ⟨rfl,hb2⟩;have Hb2:=hd_ (Hb1.out.trans (hb2.mono Hb1.out.size));clear hb2 H2 Hb1;go_wp2;go_ret;exact⟨by rw[Hvv.out];rfl,Hb2.out⟩
 ·have Hvv:Hid (v=p):=by show _=_;rw[Hv.out,if_neg h0]
  have hp0:(p==0)=false:=by rw[beq_eq_false_iff_ne];exact h0
  clear Hv h0;go_enter Tryz.func22,Tryz.ntmps22
  go_wp2_with fail
  refine cm_ H1.out ?_;rintro e w1 ⟨rfl,hb1⟩;have Hb1:=hd_ hb1;clear hb1 H1;go_wp2;go_ret;exact⟨by rw[Hvv.out];rfl,Hb1.out⟩
theorem Zcp(w:World)(a1 a2:Option Addr)(c1 c2:Nat)(ps:List Int)(ls:List Zeq)(hp:Rd w a1 (Vc ps))(hi:Zjq ps)(hl1:ps.length≤1000000)
  (hr:RdL w a2 ls) (hl:ls.length≤1000000) (hl2:∀ l∈ls,l.length≤1000000∧Ssz l) (L:Qb w) :
  Kc Tryz.prog 107 #[.slice a1 ps.length c1,.slice a2 ls.length c2] w (.int .i64 (Zkl ps ls)):=by
 unfold Kc;have H1:=hd_ (Zc8 w a1 c1 ps hp hi hl1);have H2:Hid (∀ W a c l,Below w.heap.size w W→l∈ls→Rd W a (Qs l)→Kc Tryz.prog 78 #[.slice a1 ps.length c1,.slice a l.length c] W (.int .i64 (Zcd ps.length l))):=fun W a c l hW hm hrd =>
  Zho W a1 a c1 c ps.length l hrd (hl2 l hm).1 hl1 (hl2 l hm).2 (L.below hW)
 have Hv:Hid (Zkl ps ls=if Vp ps=0 then lgo ps.length ls else Vp ps):=rfl
 have Hr:=hd_ hr;clear hp hi hl1 hl2 L hr;generalize Zkl ps ls=v at *
 generalize Vp ps=p at *
 generalize ps.length=n at *
 by_cases h0:p=0
 ·subst h0;have Hvv:Hid (v=lgo n ls):=by show _=_;rw[Hv.out,if_pos rfl]
  clear Hv;generalize hm:ls.length=m at *
  have Hm:=hd_ hm;clear hm;go_enter Tryz.func107,Tryz.ntmps107
  go_wp2_with fail
  refine cm_ H1.out ?_;rintro e w1 ⟨rfl,hb1⟩;have Hb1:=hd_ hb1;clear hb1 H1
  go_wp2_with fail
  go_loopw [16] (fun i wr=>∃ k:Nat,k≤m∧i = .int .i64 k∧Hid (lgo n ls=lgo n (ls.drop k))∧Hid (Below w.heap.size w wr)) (fun i _=>m-(intOf i).toNat)
  case atStart=>exact⟨0,Nat.zero_le _,rfl,rfl,Hb1⟩
  case round =>
   obtain⟨k,hk,rfl,Hg,Hb⟩:=hrel
   by_cases hlt:k<m
   ·have hlt':(k:Int)<m:=by omega
    have hkl:k<ls.length:=by rw[Hm.out];exact hlt
    rcases Hr.out with hnil|⟨b,off,rfl,hb,hcells⟩
    ·rw[hnil] at hkl;exact absurd hkl (Nat.not_lt_zero _)
    obtain⟨a',c',cx,hrd⟩:=hcells k hkl;have hgl:ls.getD k []=ls[k]:=by rw[List.getD_eq_getElem?_getD,List.getElem?_eq_getElem hkl];rfl
    rw[← Hb.out.cell (p:=⟨b,off+k,none⟩) hb,hgl] at cx;rw[hgl] at hrd;have Hd:Hid (ls.drop k=ls[k]::ls.drop (k+1)):=List.drop_eq_getElem_cons hkl;have hmem:ls[k]∈ls:=List.getElem_mem hkl;have hc:=H2.out wr a' c' ls[k] Hb.out hmem (hrd.below Hb.out nr_);clear hgl hcells hrd hmem;generalize ls[k]=l at *
    generalize l.length=q at *
    by_cases hs:Zcd n l=0
    ·have Hgg:Hid (lgo n ls=lgo n (ls.drop (k+1))):=by
      show _=_
      rw[Hg.out,Hd.out]
      show (if _ then _ else _)=_
      rw[if_pos hs]
     rw[hs] at hc;clear hs Hg Hd
     go_wp2_with fail
     refine cm_ hc ?_;rintro e w2 ⟨rfl,hb2⟩;have Hb2:=hd_ (Hb.out.trans (hb2.mono Hb.out.size));clear hb2 hc Hb;go_wp2
     go_roundw
     case rel=>exact⟨k+1,by omega,by go_num,Hgg,Hb2⟩
     case measure=>simp[intOf];omega
    ·have Hgg:Hid (lgo n ls=Zcd n l):=by
      show _=_
      rw[Hg.out,Hd.out]
      show (if _ then _ else _)=_
      rw[if_neg hs]
     have hs0:(Zcd n l==0)=false:=by rw[beq_eq_false_iff_ne];exact hs
     clear hs Hg Hd;generalize Zcd n l=z at *
     go_wp2_with fail
     refine cm_ hc ?_;rintro e w2 ⟨rfl,hb2⟩;have Hb2:=hd_ (Hb.out.trans (hb2.mono Hb.out.size));clear hb2 hc Hb;go_wp2;go_ret;exact⟨by rw[Hvv.out,Hgg.out];rfl,Hb2.out⟩
   ·have hlt':¬ (k:Int)<m:=by omega
    have Hgg:Hid (lgo n ls=0):=by
     show _=_
     rw[Hg.out,List.drop_of_length_le (by rw[Hm.out];omega)]
     rfl
    go_wp2;go_ret;exact⟨by rw[Hvv.out,Hgg.out];rfl,Hb.out⟩
 ·have Hvv:Hid (v=p):=by show _=_;rw[Hv.out,if_neg h0]
  have hp0:(p==0)=false:=by rw[beq_eq_false_iff_ne];exact h0
  clear Hv h0;generalize ls.length=m at *
  go_enter Tryz.func107,Tryz.ntmps107
  go_wp2_with fail
  refine cm_ H1.out ?_;rintro e w1 ⟨rfl,hb1⟩;have Hb1:=hd_ hb1;clear hb1 H1;go_wp2;go_ret;exact⟨by rw[Hvv.out];rfl,Hb1.out⟩
def Zdg (acc x:List Rat) (f:Rat):List Rat:=List.zipWith (fun o y=>o+y*f) acc x
def Zhj (n:Nat) (ls:List (List Rat)) (fs:List Rat) (k:Nat):List Rat:=((ls.zip fs).take k).foldl (fun acc p=>Zdg acc p.1 p.2) (List.replicate n 0)
def Zg6 (n:Nat) (ls:List (List Rat)) (fs:List Rat):List Rat:=(ls.zip fs).foldl (fun acc p=>Zdg acc p.1 p.2) (List.replicate n 0)
def Zpo (acc x:List Rat) (f:Rat) (j:Nat):List Rat:=(Zdg acc x f).take j++acc.drop j
theorem Zk(acc x:List Rat)(f:Rat)(h:x.length=acc.length):(Zdg acc x f).length=acc.length:=by simp[Zdg,h]
theorem Zbz(acc x:List Rat)(f:Rat)(j:Nat)(h:x.length=acc.length)(hj:j≤acc.length):(Zpo acc x f j).length=acc.length:=by
 simp only[Zpo,List.length_append,List.length_take,List.length_drop,Zk acc x f h];omega
theorem Zur(acc x:List Rat)(f:Rat)(j:Nat)(h:x.length=acc.length)(hj:j<acc.length)(hh:j<(Zpo acc x f j).length):(Zpo acc x f j)[j]=acc[j]:=by
 simp only[Zpo];rw[List.getElem_append_right (by rw[List.length_take,Zk acc x f h];omega)]
 simp only[List.getElem_drop,List.length_take,Zk acc x f h];congr 1;omega
theorem Zuq(acc x:List Rat)(f:Rat)(j:Nat)(h:x.length=acc.length)(hj:j<acc.length):(Zpo acc x f j).set j (acc[j]+x[j]*f)=Zpo acc x f (j+1):=by
 have hl:=Zk acc x f h;unfold Zpo;rw[List.set_append_right _ _ (by rw[List.length_take];omega),List.length_take,hl,Nat.min_eq_left (by omega),Nat.sub_self,List.drop_eq_getElem_cons hj,List.set_cons_zero,
  List.take_add_one,List.getElem?_eq_getElem (show j<(Zdg acc x f).length by omega),List.append_assoc]
 have:(Zdg acc x f)[j]=acc[j]+x[j]*f:=by simp[Zdg]
 rw[this];rfl
theorem Zry(acc x:List Rat)(f:Rat):Zpo acc x f 0=acc:=by simp[Zpo]
theorem Zus(acc x:List Rat)(f:Rat)(h:x.length=acc.length):Zpo acc x f acc.length=Zdg acc x f:=by
 unfold Zpo;rw[List.drop_length,List.append_nil,List.take_of_length_le (by rw[Zk acc x f h];exact Nat.le_refl _)]
theorem Zfv(n ls fs):Zhj n ls fs 0=List.replicate n 0:=rfl
theorem Zfw(n:Nat)(ls:List (List Rat))(fs:List Rat)(k:Nat)(h1:k<ls.length)(h2:k<fs.length):Zhj n ls fs (k+1)=Zdg (Zhj n ls fs k) ls[k] fs[k]:=by
 unfold Zhj;rw[List.take_add_one,List.getElem?_eq_getElem (by rw[List.length_zip];omega),List.foldl_append]
 simp
theorem Znl(n:Nat)(ls:List (List Rat))(fs:List Rat)(k:Nat)(h:ls.length≤k):Zhj n ls fs k=Zg6 n ls fs:=by
 unfold Zhj Zg6;rw[List.take_of_length_le (by rw[List.length_zip];omega)]
theorem Yx(n:Nat)(ls:List (List Rat))(fs:List Rat)(hl:∀ l∈ls,l.length=n)(hf:fs.length=ls.length):∀ k,k≤ls.length→(Zhj n ls fs k).length=n
 | 0,_=>by rw[Zfv,List.length_replicate]
 | k+1,h=>by
  have ih:=Yx n ls fs hl hf k (by omega)
  rw[Zfw n ls fs k (by omega) (by omega),Zk _ _ _ (by rw[ih];exact hl _ (List.getElem_mem _)),ih]
theorem Zfu(n:Nat)(ls:List (List Rat))(fs:List Rat)(hl:∀ l∈ls,l.length=n)(hf:fs.length=ls.length):(Zg6 n ls fs).length=n:=by
 rw[← Znl n ls fs ls.length nr_];exact Yx n ls fs hl hf _ nr_
theorem Sm.zero:Sm 1 0:=⟨by decide,by decide⟩
theorem Zqz(n:Nat)(ls:List (List Rat))(fs:List Rat)(Dx Df:Nat)(hl:∀ l∈ls,∀ q∈l,Sm Dx q)(hfq:∀ q∈fs,Sm Df q)(hf:fs.length=ls.length):∀ k,k≤ls.length→∀ q∈Zhj n ls fs k,Sm (1+k*(Dx+Df+1)) q
 | 0,_,q,hq=>by
  rw[Zfv] at hq;rw[List.eq_of_mem_replicate hq]
  simpa using Sm.zero
 | k+1,h,q,hq=>by
  have ih:=Zqz n ls fs Dx Df hl hfq hf k (by omega)
  rw[Zfw n ls fs k (by omega) (by omega)] at hq
  unfold Zdg at hq;obtain⟨i,hi,hqi⟩:=List.mem_iff_getElem.1 hq;rw[List.getElem_zipWith] at hqi;rw[← hqi];have h1:=ih _ (List.getElem_mem (show i<(Zhj n ls fs k).length by simp at hi;omega))
  have h2:=hl _ (List.getElem_mem (show k<ls.length by omega)) _ (List.getElem_mem (show i<(ls[k]).length by simp at hi;omega))
  have h3:=hfq _ (List.getElem_mem (show k<fs.length by omega))
  exact(h1.add (h2.mul h3)).le (by rw[Nat.add_mul];omega)
theorem Qt(l:List Rat)(k:Nat)(h:k<l.length):((l.map qs).getD k default)=qs l[k]:=by
 rw[List.getD_eq_getElem?_getD,List.getElem?_map,List.getElem?_eq_getElem h];rfl
theorem Zew(w:World)(a b:Rat)(D E:Nat)(ha:Sm D a)(hb:Sm E b)(h6:D+E+2≤1000000)(L:Qb w):
  ∀ d os,Calls Tryz.prog 47 #[fr a,fr b] (Go.Sort.grow (redrawn w d) os) fun e w''=>e = .returned (fr (a*b))∧∃ p:Regrown,w''=Go.Sort.grow (redrawn w p.d) p.os:=fun d os =>
 Calls.regrown_of (Ztu _ a b D E ha hb h6 (L.below (below_regrown w d os)))
theorem Zle(w:World)(a b:Rat)(D E:Nat)(ha:Sm D a)(hb:Sm E b)(h6:D+E+2≤1000000)(L:Qb w):
  ∀ d os,Calls Tryz.prog 110 #[fr a,fr b] (Go.Sort.grow (redrawn w d) os) fun e w''=>e = .returned (fr (a+b))∧∃ p:Regrown,w''=Go.Sort.grow (redrawn w p.d) p.os:=fun d os =>
 Calls.regrown_of (Zqj _ a b D E ha hb h6 (L.below (below_regrown w d os)))
theorem Zxa(w:World)(a2 a3:Option Addr)(c2 c3 n:Nat)(ls:List (List Rat))(fs:List Rat)(Dx Df:Nat)
  (hr:RdL w a2 (ls.map (List.map qs))) (hf:Rd w a3 (Kx fs)) (hlen:∀ l∈ls,l.length=n) (hfl:fs.length=ls.length) (hx:∀ l∈ls,∀ q∈l,Sm Dx q) (hfq:∀ q∈fs,Sm Df q)
  (hn:n≤1000) (hm:ls.length≤1000) (hD:3+(ls.length+1)*(Dx+Df+1)≤1000000) (L:Qb w) :
  Zh8 97 #[.int .i64 n,.slice a2 ls.length c2,.slice a3 fs.length c3] w (Zg6 n ls fs):=by
 unfold Zh8;have HL:=hd_ L;have Hr:=hd_ hr;have Hf:=hd_ hf;have Hlen:=hd_ hlen;have Hx:=hd_ hx;have Hfq:=hd_ hfq;have HD:=hd_ hD;have Hz:=hd_ (Ztx w n hn L);have Hfl:=hd_ hfl;have Hvl:=hd_ (Zfu n ls fs hlen hfl);rw[hfl];clear L hr hf hlen hx hfq hfl hD;generalize hmm:ls.length=m at *
 have Hm:=hd_ hmm;clear hmm;rw[Hvl.out];go_enter Tryz.func97,Tryz.ntmps97
 go_wp2_with fail
 refine cm_ Hz.out ?_;rintro e w1 ⟨a,c,rfl,hown,hb1⟩;rw[show (List.replicate n (0:Rat)).length=n from List.length_replicate]
 have Hown:=hd_ hown;have Hb1:=hd_ hb1;clear hown hb1 Hz
 go_wp2_with fail
 go_loopw [16] (fun i wr=>∃ k:Nat,k≤m∧i = .int .i64 k∧Hid (Zc3 wr w.heap.size a c (Zhj n ls fs k))∧Hid (Below w.heap.size w wr)) (fun i _=>m-(intOf i).toNat)
 case atStart=>exact⟨0,Nat.zero_le _,rfl,by rw[Zfv];exact Hown,Hb1⟩
 case round =>
  obtain⟨k,hk,rfl,Hown,Hb⟩:=hrel
  by_cases hlt:k<m
  ·have hlt':(k:Int)<m:=by omega
   have hkl:k<ls.length:=by rw[Hm.out];exact hlt
   rcases Hr.out with hnil|⟨b,off,rfl,hb,hcells⟩
   ·rw[List.map_eq_nil_iff] at hnil;rw[hnil] at hkl;exact absurd hkl (Nat.not_lt_zero _)
   obtain⟨a',c',cx,hrd⟩:=hcells k (by rw[List.length_map];exact hkl)
   have hgl:(ls.map (List.map qs)).getD k []=ls[k].map qs:=by rw[List.getD_eq_getElem?_getD,List.getElem?_map,List.getElem?_eq_getElem hkl];rfl
   have hlk:=Hlen.out _ (List.getElem_mem hkl);rw[← Hb.out.cell (p:=⟨b,off+k,none⟩) hb,hgl,List.length_map,hlk] at cx;rw[hgl] at hrd;have Hrd:=hd_ hrd;have Hlk:=hd_ hlk;have hk0:(0:Int)≤k:=by omega
   clear hgl hcells hrd hlk
   go_wp2_with fail
   have How:=hd_ Hb.out
   go_loopw [23] (fun j wr=>∃ i:Nat,i≤n∧j = .int .i64 i∧Hid (Zc3 wr w.heap.size a c (Zpo (Zhj n ls fs k) ls[k] (fs.getD k 0) i))∧Hid (Below w.heap.size w wr)) (fun j _=>n-(intOf j).toNat)
   case atStart=>exact⟨0,Nat.zero_le _,rfl,by rw[Zry];exact Hown,Hb⟩
   case round =>
    obtain⟨i,hi,rfl,Hown2,Hb2⟩:=hrel
    by_cases hli:i<n
    ·have hli':(i:Int)<n:=by omega
     have hacc:=Yx n ls fs Hlen.out (by rw[Hfl.out,Hm.out]) k (by omega)
     have hil:i<(ls[k]).length:=by rw[Hlk.out];exact hli
     have hia:i<(Zhj n ls fs k).length:=by rw[hacc];exact hli
     have hxl:(ls[k]).length=(Zhj n ls fs k).length:=by rw[hacc];exact Hlk.out
     have hkf:k<fs.length:=by rw[Hfl.out];exact hlt
     have hfk:fs.getD k 0=fs[k]:=by rw[List.getD_eq_getElem?_getD,List.getElem?_eq_getElem hkf];rfl
     -- the element of the row
     obtain⟨bx,ox,rfl,hbx,hcx⟩:=Hrd.out.open (by rw[Va,List.length_map,Hlk.out];omega)
     obtain⟨x0,x1⟩:=Ql hcx i (by rw[List.length_map];exact hil)
     rw[← Hb2.out.cell (p:=⟨bx,ox+i*2,none⟩) hbx,Qt _ i hil] at x0;rw[← Hb2.out.cell (p:=⟨bx,ox+i*2+1,none⟩) hbx,Qt _ i hil] at x1
     -- the factor
     obtain⟨bf,of,rfl,hbf,hcf⟩:=Hf.out.open (by rw[Ky];omega)
     obtain⟨y0,y1⟩:=Ql hcf k (by rw[List.length_map];exact hkf)
     rw[← Hb2.out.cell (p:=⟨bf,of+k*2,none⟩) hbf,Qt _ k hkf] at y0;rw[← Hb2.out.cell (p:=⟨bf,of+k*2+1,none⟩) hbf,Qt _ k hkf] at y1
     -- the sum so far
     have hml:=Zbz (Zhj n ls fs k) ls[k] (fs.getD k 0) i hxl (by omega)
     obtain⟨g,rfl,hBg,hgl,-,hco,hfr⟩:=Hown2.out.open (by rw[hml,hacc];omega)
     obtain⟨o0,o1⟩:=hco i (by rw[hml];exact hia)
     rw[Zur _ _ _ i hxl hia (by rw[hml];exact hia)] at o0 o1
     have f0:=hfr (i*2);have f1:=hfr (i*2+1);have sx:=Hx.out _ (List.getElem_mem hkl) _ (List.getElem_mem hil);have sf:=Hfq.out _ (List.getElem_mem hkf);have sa:=Zqz n ls fs Dx Df Hx.out Hfq.out (by rw[Hfl.out,Hm.out]) k (by omega) _ (List.getElem_mem hia)
     have hDk:(k+1)*(Dx+Df+1)≤(m+1)*(Dx+Df+1):=Nat.mul_le_mul_right _ (by omega)
     have hDk2:(k+1)*(Dx+Df+1)=k*(Dx+Df+1)+(Dx+Df+1):=by rw[Nat.add_mul,Nat.one_mul]
     have hDD:=HD.out;have hD1:(m+1)*(Dx+Df+1)=m*(Dx+Df+1)+(Dx+Df+1):=by rw[Nat.add_mul,Nat.one_mul]
     have HLr:=hd_ (HL.out.below Hb2.out);have Hset:=hd_ (Zuq (Zhj n ls fs k) ls[k] fs[k] i hxl hia);rw[hfk] at Hown2;have Hfk:=hd_ hfk;have HM:Hid (∀ W,Below wr.heap.size wr W→∀ d os,Calls Tryz.prog 47 #[fr (ls[k])[i],fr fs[k]] (Go.Sort.grow (redrawn W d) os) fun e w''=>e = .returned (fr ((ls[k])[i]*fs[k]))∧∃ p:Regrown,w''=Go.Sort.grow (redrawn W p.d) p.os):=fun W hW =>
      Zew W _ _ Dx Df sx sf (by omega) (HLr.out.below hW)
     have HA:Hid (∀ W,Below wr.heap.size wr W→∀ d os,Calls Tryz.prog 110 #[fr (Zhj n ls fs k)[i],fr ((ls[k])[i]*fs[k])] (Go.Sort.grow (redrawn W d) os) fun e w''=>e = .returned (fr ((Zhj n ls fs k)[i]+(ls[k])[i]*fs[k]))∧∃ p:Regrown,w''=Go.Sort.grow (redrawn W p.d) p.os):=fun W hW =>
      Zle W _ _ (1+k*(Dx+Df+1)) (Dx+Df) sa (sx.mul sf) (by omega) (HLr.out.below hW)
     unfold fr fv at HM HA;clear sx sf sa hDk hDk2 hDD hD1 hcx hcf hco hfr hfk hml;generalize (Zhj n ls fs k)[i]=oq at *
     generalize (ls[k])[i]=xq at *
     generalize fs[k]=fq at *
     simp only[qs] at x0 x1 y0 y1;have Hb0:=hd_ (Hb2.out.alloc Hb2.out.size (.cells #[.string (itx xq.num),.string (dec xq.den)] 42));have Hwr:=hd_ ((Below.refl wr.heap.size wr).alloc nr_ (.cells #[.string (itx xq.num),.string (dec xq.den)] 42));have Hnew:Hid ((wr.alloc (.cells #[.string (itx xq.num),.string (dec xq.den)] 42)).heap[wr.heap.size]?=some (.cells #[.string (itx xq.num),.string (dec xq.den)] 42 (0,0))):=heap_alloc_new wr _;have hM:=HM.out _ Hwr.out;have hA:=HA.out _ Hwr.out;have hown3:=Hown2.out.below Hwr.out nr_;have Ho0:=hd_ ((Hwr.out.cell (p:=⟨g,i*2,none⟩) hgl).trans o0);have Ho1:=hd_ ((Hwr.out.cell (p:=⟨g,i*2+1,none⟩) hgl).trans o1);have Hy0:=hd_ ((Hwr.out.cell (p:=⟨bf,of+k*2,none⟩) (Nat.lt_of_lt_of_le hbf Hb2.out.size)).trans y0);have Hy1:=hd_ ((Hwr.out.cell (p:=⟨bf,of+k*2+1,none⟩) (Nat.lt_of_lt_of_le hbf Hb2.out.size)).trans y1);have Hf0:=hd_ f0;have Hf1:=hd_ f1;have Hown3:=hd_ hown3;clear o0 o1 y0 y1 f0 f1 hown3 HM HA Hown2 Hb2
     go_wp2_with fail
     generalize wr.alloc (.cells #[.string (itx xq.num),.string (dec xq.den)] 42)=W0 at *
     obtain⟨k0,k1,-,-⟩:=Ka Hnew.out;have q0:=cell_regrown k0;have q1:=cell_regrown k1;have q2:=cell_regrown Ho0.out;have q3:=cell_regrown Ho1.out;have q4:=cell_regrown Hy0.out;have q5:=cell_regrown Hy1.out;clear k0 k1 x0 x1;refine Kv 13 (by kernel_rfl) (by kernel_rfl) ?_
     simp only[List.take_succ_cons,List.take_zero,List.drop_succ_cons,List.drop_zero]
     repeat (first | go_big_quiet_step (first | with_reducible exact hM _ _ | with_reducible exact hA _ _) | quiet_step (first | with_reducible exact hM _ _ | with_reducible exact hA _ _))
     refine wpQuiet_nil ?_;intro w8 hw8;obtain⟨⟨dq,osq⟩,rfl⟩:=hw8;have hb8:=below_regrown W0 dq osq;have c0:=(hb8.cell (p:=⟨g,i*2,none⟩) (block_lt_of_cell Ho0.out)).trans Ho0.out;have c1:=(hb8.cell (p:=⟨g,i*2+1,none⟩) (block_lt_of_cell Ho1.out)).trans Ho1.out;have Hown4:=hd_ (Hown3.out.below hb8 nr_);have Hb8:=hd_ (Hb0.out.trans (hb8.mono Hb0.out.size));clear hb8 hM hA q0 q1 q2 q3 q4 q5 Hb0 Hown3 Ho0 Ho1 Hy0 Hy1 Hnew;generalize Go.Sort.grow (redrawn W0 dq) osq=w8 at *
     have f0:w8.frozen? ⟨g,i*2,none⟩=false:=by
      obtain⟨g',hg',-,-,-,-,h5⟩:=Zc3.open Hown4.out (by rw[Zbz _ _ _ _ (by rw[Hlk.out];exact(Yx n ls fs Hlen.out (by rw[Hfl.out,Hm.out]) k (by omega)).symm) (by omega)];omega)
      simp only[Option.some.injEq,Addr.mk.injEq,and_true] at hg';rw[hg'];exact h5 _
     have f1:w8.frozen? ⟨g,i*2+1,none⟩=false:=by
      obtain⟨g',hg',-,-,-,-,h5⟩:=Zc3.open Hown4.out (by rw[Zbz _ _ _ _ (by rw[Hlk.out];exact(Yx n ls fs Hlen.out (by rw[Hfl.out,Hm.out]) k (by omega)).symm) (by omega)];omega)
      simp only[Option.some.injEq,Addr.mk.injEq,and_true] at hg';rw[hg'];exact h5 _
     go_wp2
     go_roundw
     case rel =>
      refine⟨i+1,by omega,by go_num,?_,?_⟩
      ·have:=Zc3.store Hown4.out i (by rw[Zbz _ _ _ _ (by rw[Hlk.out];exact(Yx n ls fs Hlen.out (by rw[Hfl.out,Hm.out]) k (by omega)).symm) (by omega)];omega) (oq+xq*fq)
       rw[Hset.out] at this;rw[Hfk.out];exact this
      ·exact(Hb8.out.setCell (p:=⟨g,i*2,none⟩) hBg _).setCell (p:=⟨g,i*2+1,none⟩) hBg _
     case measure=>simp[intOf];omega
    ·have hli':¬ (i:Int)<n:=by omega
     have hin:i=n:=by omega
     have Hown3:Hid (Zc3 wr w.heap.size a c (Zhj n ls fs (k+1))):=by
      have hacc:=Yx n ls fs Hlen.out (by rw[Hfl.out,Hm.out]) k (by omega)
      have hkf:k<fs.length:=by rw[Hfl.out];exact hlt
      have:=Hown2.out
      have hall:=Zus (Zhj n ls fs k) ls[k] (fs.getD k 0) (by rw[hacc];exact Hlk.out)
      rw[hacc] at hall;rw[hin,hall] at this
      show Zc3 _ _ _ _ _
      rw[Zfw n ls fs k hkl hkf];rw[List.getD_eq_getElem?_getD,List.getElem?_eq_getElem hkf] at this;exact this
     clear Hown2 hin;go_wp2
     go_roundw
     case rel=>exact⟨k+1,by omega,by go_num,Hown3,Hb2⟩
     case measure=>simp[intOf];omega
  ·have hlt':¬ (k:Int)<m:=by omega
   have Hown2:Hid (Zc3 wr w.heap.size a c (Zg6 n ls fs)):=by
    have:=Hown.out
    rw[Znl n ls fs k (by rw[Hm.out];omega)] at this
    exact this
   go_wp2;go_ret;exact⟨a,c,rfl,Hown2.out,Hb.out⟩
end Go.Proofs.YtnjedhgcfeoemaaGreatDoor

namespace Go.Proofs.YtnjedhgcfeoemaaGreatDoor.RP
open Go Go.Sort Go.Proofs.YtnjedhgcfeoemaaGreatDoor
section
variable {P:Program} {ops:Array Oper} {md:Region.Mode} {C:World→Prop}
def Zbc:Op→Bool
 | .move _ | .assign _ | .load _ _ | .fieldAddr _ _ _ | .indexAddr _ _ _ | .extract _ _ | .binOp _ _ _ _ _ | .convert _ _ _ | .slice _ _ _ _ _ | .unOp _ _ _ | .nilCheck _ | .pick _ _ _ | .build _ _=>true
 | .call c=>match c.callee with
  | .builtin .min | .builtin .max | .builtin .len=>true
  | _=>false
 | _=>false
theorem value_no_enter{s:Sem Value}{w w':World}{f:FuncId}{args:Array Value}(h:(do pure (Next.value (← s)):Sem Next).run P w = .ok (.enter f args) w'):False:=by
 simp only[Sem.run_bind,Sem.run_pure] at h;cases hs:s.run P w with
 | ok v w1=>rw[hs] at h;simp[Result.andThen] at h
 | halt x w1=>rw[hs] at h;simp[Result.andThen] at h
theorem Zit{s:Sem Bool}{x y:Value}{w w':World}{f:FuncId}{args:Array Value}(h:(do pure (Next.value (if ← s then x else y)):Sem Next).run P w = .ok (.enter f args) w'):False:=by
 simp only[Sem.run_bind,Sem.run_pure] at h;cases hs:s.run P w with
 | ok v w1=>rw[hs] at h;simp[Result.andThen] at h
 | halt x w1=>rw[hs] at h;simp[Result.andThen] at h
theorem Zkg(v:Value){w w':World}{f:FuncId}{args:Array Value} (h:((match v with
  | .pointer none | .nilIface | .nilFunc=>runtimePanic .nilDeref
  | .func (.method name) first captured =>
   match (first[0]?:Option Value) with
   | some .nilIface=>runtimePanic .nilDeref
   | some (.iface t w)=>do
    if (← nilAhead ((← program).types.size+Made.depth) t w name) != some false then
     unsupported (.noEntry "op/nilCheck.the method's receiver behind this interface value is a nil pointer, or cannot be seen to be none, and the arguments act or may panic (ledger 612)")
    pure (.value (.func (.method name) first captured))
   | _=>pure (.value (.func (.method name) first captured))
  | x=>pure (.value x):Sem Next)).run P w = .ok (.enter f args) w'):False:=by
 split at h
 all_goals first
  | (simp[Sem.run_pure] at h;done)
  | (cases h;done)
  | skip
 split at h
 ·cases h
 ·simp only[Sem.run_bind,Result.andThen] at h
  repeat' (split at h)
  all_goals first
   | (cases h;done)
   | (simp[Sem.run_pure,Sem.run_bind,Result.andThen] at h;done)
   | skip
 ·simp[Sem.run_pure] at h
theorem Zuk{o:Oper}{a:Act}{w w':World}{f:FuncId}{args:Array Value}(ho:Zbc o.op=true)(h:(execOp a.eval o).run P w = .ok (.enter f args) w'):False:=by
 have cases5:(∃ x,o.op = .move x)∨(∃ x,o.op = .assign x)∨(∃ t x,o.op = .load t x)∨(∃ t x k,o.op = .fieldAddr t x k)∨(∃ t x y,o.op = .indexAddr t x y)∨(∃ x k,o.op = .extract x k)∨(∃ b t x y r,o.op = .binOp b t x y r)∨(∃ s d x,o.op = .convert s d x)∨(∃ s x l h m,o.op = .slice s x l h m)∨(∃ u t x,o.op = .unOp u t x)∨(∃ x,o.op = .nilCheck x)∨(∃ c x y,o.op = .pick c x y)∨(∃ t p,o.op = .build t p)∨(∃ c,o.op = .call c):=by
  cases hop:o.op<;>rw[hop] at ho<;>first | (simp[Zbc] at ho;done) | simp
 rcases cases5 with⟨x,hop⟩|⟨x,hop⟩|⟨t,x,hop⟩|⟨t,x,k,hop⟩|⟨t,x,y,hop⟩|⟨x,k,hop⟩|⟨b,t,x,y,r,hop⟩|⟨s,d,x,hop⟩|⟨s,x,lo,hi,mx,hop⟩|⟨u,t,x,hop⟩|⟨x,hop⟩|⟨c,x,y,hop⟩|⟨t,p,hop⟩|⟨c,hop⟩
 ·rw[BigFrame.run_move x hop] at h;cases h
 ·rw[BigFrame.run_assign x hop] at h;cases h
 ·unfold execOp at h;rw[hop] at h;exact value_no_enter h
 ·unfold execOp at h;rw[hop] at h;exact value_no_enter h
 ·unfold execOp at h;rw[hop] at h;exact value_no_enter h
 ·unfold execOp at h;rw[hop] at h;exact value_no_enter h
 ·unfold execOp at h;rw[hop] at h;exact value_no_enter h
 ·unfold execOp at h;rw[hop] at h;exact value_no_enter h
 ·unfold execOp at h;rw[hop] at h;exact value_no_enter h
 ·unfold execOp at h;rw[hop] at h;exact value_no_enter h
 ·unfold execOp at h;rw[hop] at h;exact Zkg (a.eval x) h
 ·unfold execOp at h;rw[hop] at h;exact Zit h
 ·unfold execOp at h;rw[hop] at h;exact value_no_enter h
 ·rw[hop] at ho;unfold execOp at h;rw[hop] at h;unfold Zbc at ho;simp only at ho h;unfold resolve at h;cases hc:c.callee with
  | value x=>rw[hc] at ho;cases ho
  | invoke x y=>rw[hc] at ho;cases ho
  | builtin b =>
   rw[hc] at ho h;simp only[Sem.run_bind,Sem.run_pure,Result.andThen_ok,invoke] at h;cases b<;>first | (simp at ho;done) | (unfold builtin at h;exact value_no_enter h)
theorem Zg7{o:Oper}{a:Act}{w:World}{v:Value}(ho:Zbc o.op=true)(h:o.quietAt P a C w v){K:Act→World→Prop}(hk:K (a.put o.dst v) w):o.wp P a w K (fun _ _ _=>False):=by
 unfold Oper.quietAt at h;unfold Oper.wp;have hne:=@Zuk P o a w;generalize (execOp a.eval o).run P w=r at *
 cases r with
 | ok n w' =>
  cases n<;>simp only[Oper.quietUpon] at h<;>simp only[Oper.upon]
  case value u=>obtain⟨rfl,rfl⟩:=h;exact hk
  case skip=>obtain⟨rfl,rfl⟩:=h;exact hk
  case enter f args=>exact(hne ho rfl).elim
 | halt x w'=>simp only[Oper.quietUpon] at h
def Zc6 (C:World→Prop) (s:Nat) (listed:Array Bool) (w:World):Prop:=listed.getD s false=true∨C w
def Zyd (P:Program) (md:Region.Mode) (ops:Array Oper) (C:World→Prop) (s:Nat) (Q:Act→World→Prop):Nat→Array Bool→Act→World→Prop
 | 0,listed,a,w=>Region.ready md ops listed=[]∧Q a w
 | f+1,listed,a,w=>Region.ready md ops listed≠[]∧∀ i∈Region.ready md ops listed,
   wpOp P ops (fun _ _ _=>False) i (fun a' w'=>Zc6 C s (listed.setIfInBounds i true) w'∧Zyd P md ops C s Q f (listed.setIfInBounds i true) a' w') a w
theorem Zqm{o:Oper}{a:Act}{w:World}{K:Act→World→Prop}{Q':Exit→Act→World→Prop}(h:o.wp P a w K (fun _ _ _=>False)):o.wp P a w K Q':=by
 unfold Oper.wp at *
 generalize (execOp a.eval o).run P w=r at *
 cases r with
 | ok n w' =>
  cases n<;>simp only[Oper.upon] at h ⊢ <;>
   first
    | exact h
    | exact cm_ h (fun e w'' he=>by cases e<;>first | exact he | exact he.elim | (obtain⟨_,_,hf⟩:=he;exact hf.elim))
    | exact Rows.mono h (fun _ _ he=>he)
 | halt x w'=>cases x<;>simp only[Oper.upon] at h<;>exact h.elim
theorem Zlj{i:Nat}{a:Act}{w:World}{K K':Act→World→Prop}{Q':Exit→Act→World→Prop}(hk:∀ a w,K a w→K' a w)(h:wpOp P ops (fun _ _ _=>False) i K a w):wpOp P ops Q' i K' a w:=by
 unfold wpOp at *
 split
 ·rename_i ho;simp only[ho] at h;exact hk _ _ h
 ·rename_i o ho
  simp only[ho] at h;split
  ·rename_i hw
   simp only[hw,if_true] at h;rcases h with h|⟨_,_,_,hf⟩
   ·exact .inl (Oper.wp_mono hk (Zqm h))
   ·exact hf.elim
  ·rename_i hw;simp only[hw] at h;exact hk _ _ h
theorem wpOp_strong{i:Nat}{a:Act}{w:World}{K:Act→World→Prop}{Q':Exit→Act→World→Prop}(hq:∀ e a w,Q' e a w→e = .normal)(h:wpOp P ops Q' i K a w):wpOp P ops (fun _ _ _=>False) i K a w:=by
 have hout:¬ LetsOut Q':=fun ⟨a,w,h⟩=>by have:=hq _ _ _ h;cases this
 unfold wpOp at *
 split
 ·rename_i ho;simp only[ho] at h;exact h
 ·rename_i o ho
  simp only[ho] at h;split
  ·rename_i hw
   simp only[hw,if_true] at h;rcases h with h|⟨_,h⟩
   ·left;unfold Oper.wp at *
    generalize (execOp a.eval o).run P w=r at *
    cases r with
    | ok n w' =>
     cases n<;>simp only[Oper.upon] at h ⊢ <;>
      first
       | exact h
       | exact cm_ h (fun e w'' he=>by cases e<;>first | exact he | (have:=hq _ _ _ he;cases this) | exact absurd he hout)
       | exact Rows.mono h (fun _ _ he=>he)
    | halt x w'=>cases x<;>simp only[Oper.upon] at h<;>first | exact h.elim | (have:=hq _ _ _ h;cases this)
   ·exact absurd h hout
  ·rename_i hw;simp only[hw] at h;exact h
theorem Zjk{s:Nat}{Q:Act→World→Prop}{Q':Exit→Act→World→Prop}(hQ:∀ a w,Q a w→Q' .normal a w):
  ∀ (f:Nat) (listed:Array Bool) (a:Act) (w:World),Zyd P md ops C s Q f listed a w→wpAny P md ops Q' f listed a w
 | 0,_,_,_,h=>⟨h.1,hQ _ _ h.2⟩
 | f+1,_,_,_,h=>⟨fun h0=>absurd h0 h.1,fun i hi=>Zlj (fun a' w' h'=>Zjk hQ f _ a' w' h'.2) (h.2 i hi)⟩
structure RInv (md:Region.Mode) (ops:Array Oper) (listed:Array Bool):Prop where
 size:listed.size=ops.size
 closed:∀ j oj,ops[j]?=some oj→listed.getD j false=true→∀ e∈oj.after,Region.binds md e=true→listed.getD e.on false=true
theorem RInv.set{i:Nat}{listed:Array Bool}(inv:RInv md ops listed)(hi:i∈Region.ready md ops listed):RInv md ops (listed.setIfInBounds i true):=by
 obtain⟨_,oi,hoi,hall⟩:=mem_ready.1 hi;refine⟨by simp[inv.size],fun j oj hj hl e he hb=>?_⟩
 by_cases hij:i=j
 ·subst hij;have:oj=oi:=Option.some.inj (hj.symm.trans hoi)
  subst this;exact getD_set_true (hall e he hb)
 ·rw[getD_set_ne false hij] at hl;exact getD_set_true (inv.closed j oj hj hl e he hb)
def reachB (md:Region.Mode) (ops:Array Oper):Nat→Nat→Nat→Bool
 | 0,_,_=>false
 | f+1,s,i=>match ops[s]? with
  | some o=>o.after.any fun e=>Region.binds md e&&(e.on==i||reachB md ops f e.on i)
  | none=>false
theorem reach_listed{listed:Array Bool}(inv:RInv md ops listed):∀ (f s i:Nat),reachB md ops f s i=true→listed.getD s false=true→listed.getD i false=true
 | 0,_,_,h,_=>by cases h
 | f+1,s,i,h,hs=>by
  unfold reachB at h;split at h
  ·rename_i o ho
   obtain⟨e,he,hb⟩:=Array.any_eq_true'.1 h;simp only[Bool.and_eq_true,Bool.or_eq_true,beq_iff_eq] at hb;have hl:=inv.closed s o ho hs e he hb.1;rcases hb.2 with h2|h2
   ·rw[← h2];exact hl
   ·exact reach_listed inv f e.on i h2 hl
  ·cases h
def Zai (P:Program) (ops:Array Oper) (md:Region.Mode) (C:World→Prop) (s i:Nat) (o:Oper) (v:Value) (a:Act):Prop :=
 (reachB md ops 4 s i=true∧YieldsIn P ops C o v a)∨YieldsIn P ops (fun _=>True) o v a
theorem Zai.of_same{s i:Nat}{o:Oper}{v:Value}{a a':Act}(hy:Zai P ops md C s i o v a)(he:execOp a'.eval o=execOp a.eval o)
  (hw:Region.wanted o (yielded ops a'.tmps)=Region.wanted o (yielded ops a.tmps)):Zai P ops md C s i o v a' :=
 hy.imp (fun ⟨h1,h2⟩=>⟨h1,h2.of_same he hw⟩) (fun h=>h.of_same he hw)
theorem Zno{s i:Nat}{o:Oper}{v:Value}{a:Act}{w:World}{listed:Array Bool}(hi:ops[i]?=some o)(hne:Zbc o.op=true)(inv:RInv md ops listed)(hr:i∈Region.ready md ops listed)(hs:Zc6 C s listed w)
  (hy:Zai P ops md C s i o v a) {K:Act→World→Prop} (hk:K (a.put o.dst v) w):wpOp P ops (fun _ _ _=>False) i K a w:=by
 have key:∀ D:World→Prop,D w→YieldsIn P ops D o v a→wpOp P ops (fun _ _ _=>False) i K a w:=fun D hD h=>by
  unfold wpOp;simp only[hi];rcases h with⟨h1,h2⟩|⟨h1,rfl⟩
  ·simp only[h1,if_true];exact .inl (Zg7 hne (h2 w hD) hk)
  ·simp only[h1,Bool.false_eq_true,if_false];exact hk
 rcases hy with⟨hw,h⟩|h
 ·refine key C ?_ h;rcases hs with hs|hs
  ·have:=reach_listed inv 4 s i hw hs
   rw[getD_both (mem_ready.1 hr).1] at this;cases this
  ·exact hs
 ·exact key _ trivial h
theorem Zt0{j:Nat}{oi oj:Oper}{v:Value}(hj:ops[j]?=some oj)(hap:oi.apart ops oj=true)
  (hsi:∀ cs b,oi.op ≠ .select cs b) (hsj:∀ cs b,oj.op ≠ .select cs b) {s i:Nat} {K:Act→World→Prop} {a:Act} {w:World}
  (hy:Zai P ops md C s i oi v a) (h:wpOp P ops (fun _ _ _=>False) j K (a.put oi.dst v) w) :
  wpOp P ops (fun _ _ _=>False) j (fun a' w'=>Zai P ops md C s i oi v a'∧K (a'.put oi.dst v) w') a w:=by
 obtain⟨h1,h2,h3⟩:=Oper.apart_spec hap;have keep:∀ (a:Act),Zai P ops md C s i oi v a→∀ u,Zai P ops md C s i oi v (a.put oj.dst u):=fun a hy u =>
  hy.of_same (execOp_put oi hsi a oj.dst u h3) (wanted_put oi a oj.dst u h3)
 have keepd:∀ d,Zai P ops md C s i oi v ({ a with defers:=d::a.defers }:Act):=fun d=>hy.of_same rfl rfl
 unfold wpOp at *
 simp only[hj] at *
 rw[wanted_put oj a oi.dst v h1] at h;split
 ·rename_i hw
  simp only[hw,if_true] at h;left;rcases h with h|⟨_,_,_,hf⟩
  ·unfold Oper.wp at *
   rw[execOp_put oj hsj a oi.dst v h1] at h;generalize (execOp a.eval oj).run P w=r at *
   cases r with
   | ok n w' =>
    cases n<;>simp only[Oper.upon] at h ⊢
    case value u=>exact⟨keep a hy u,by rw[← Act.put_comm a v u h2];exact h⟩
    case skip=>exact⟨keep a hy undef,by rw[← Act.put_comm a v undef h2];exact h⟩
    case defer d =>
     refine⟨keep _ (keepd d) undef,?_⟩;rw[Act.put_defers] at h;rw[← Act.put_comm _ v undef h2];exact h
    case enter f args =>
     exact cm_ h (fun e w'' he=>by
      cases e
      case returned u=>exact⟨keep a hy u,by rw[← Act.put_comm a v u h2];exact he⟩
      case panicked c=>exact he
      case outgrown=>obtain⟨_,_,hf⟩:=he;exact hf.elim)
    case row row args=>exact Rows.mono h (fun u w'' he=>⟨keep a hy u,by rw[← Act.put_comm a v u h2];exact he⟩)
    all_goals exact h
   | halt x w'=>cases x<;>simp only[Oper.upon] at h<;>exact h.elim
  ·exact hf.elim
 ·rename_i hw
  simp only[hw] at h;exact⟨keep a hy _,by rw[← Act.put_comm a v undef h2];exact h⟩
theorem Zh6{s i:Nat}{oi:Oper}{v:Value}{Q:Act→World→Prop}(hi:ops[i]?=some oi)(his:i≠s)(hne:Zbc oi.op=true)(hsel:∀ (j:Nat) (o:Oper) cs b,ops[j]?=some o→o.op ≠ .select cs b):
  ∀ (f:Nat) (listed:Array Bool) (a:Act) (w:World),RInv md ops listed →
   (∀ j oj,ops[j]?=some oj→j≠i→listed.getD j true=false→(∀ e∈oj.after,Region.binds md e=true→e.on≠i)→oi.apart ops oj=true) →
   i∈Region.ready md ops listed→Zai P ops md C s i oi v a→Zc6 C s listed w →
   Zyd P md ops C s Q f (listed.setIfInBounds i true) (a.put oi.dst v) w→Zyd P md ops C s Q (f+1) listed a w:=by
 intro f
 induction f with
 | zero =>
  intro listed a w inv _ hr hy hs H;refine⟨fun h=>(by rw[h] at hr;cases hr),fun j hj=>?_⟩
  by_cases hji:j=i
  ·subst hji;exact Zno hi hne inv hr hs hy ⟨hs.imp (fun h=>getD_set_true h) id,H⟩
  ·have:=ready_mono hj hji
   rw[H.1] at this;cases this
 | succ f ih =>
  intro listed a w inv hfree hr hy hs H;have hun:=(mem_ready.1 hr).1;refine⟨fun h=>(by rw[h] at hr;cases hr),fun j hj=>?_⟩
  by_cases hji:j=i
  ·subst hji;exact Zno hi hne inv hr hs hy ⟨hs.imp (fun h=>getD_set_true h) id,H⟩
  ·have h1:=H.2 j (ready_mono hj hji);obtain⟨hjun,oj,hoj,hall⟩:=mem_ready.1 hj;have hnot:∀ e∈oj.after,Region.binds md e=true→e.on≠i:=fun e he hb heq=>by
    have h1:=hall e he hb;rw[heq,getD_both hun] at h1;cases h1
   have h2:=Zt0 hoj (hfree j oj hoj hji hjun hnot) (fun cs b=>hsel i oi cs b hi) (fun cs b=>hsel j oj cs b hoj) hy h1
   have hfree':∀ k ok,ops[k]?=some ok→k≠i→(listed.setIfInBounds j true).getD k true=false →
     (∀ e∈ok.after,Region.binds md e=true→e.on≠i)→oi.apart ops ok=true:=fun k ok hk hki hun hno=>by
    refine hfree k ok hk hki ?_ hno
    by_cases hjk:j=k
    ·subst hjk;exact hjun
    ·rw[getD_set_ne true hjk] at hun;exact hun
   have hr':=ready_mono hr (Ne.symm hji);refine wpOp_mono (fun a' w' h3=>?_) h2
   obtain⟨hy',hs',H'⟩:=h3;have hs2:Zc6 C s (listed.setIfInBounds j true) w':=by
    rcases hs' with h|h
    ·rw[Array.setIfInBounds_comm _ _ (Ne.symm hji),getD_set_ne false his] at h;exact .inl h
    ·exact .inr h
   refine⟨hs2,ih (listed.setIfInBounds j true) a' w' (inv.set hj) hfree' hr' hy' hs2 ?_⟩;rw[Array.setIfInBounds_comm _ _ hji];exact H'
def Zy2 (md:Region.Mode) (ops:Array Oper) (s:Nat):List (Nat×Nat)→Array Bool→Bool
 | [],listed=>(Region.ready md ops listed).isEmpty
 | (k,i)::l,listed =>
  (if k=0 then decide (Region.ready md ops listed=[i])
  else (Region.ready md ops listed).contains i&&Region.free md ops listed i&&(match ops[i]? with | some o=>Zbc o.op | none=>false)&&decide (i≠s)&&(k==2||reachB md ops 4 s i)) &&
  Zy2 md ops s l (listed.setIfInBounds i true)
def walkR (P:Program) (ops:Array Oper) (C:World→Prop) (s:Nat) (Q:Act→World→Prop):List (Nat×Nat)→Bool→Act→World→Prop
 | [],_,a,w=>Q a w
 | (k,i)::l,b,a,w =>
  if k=0 then wpList P ops (fun e a' w'=>e = .normal∧((b||i==s)=true∨C w')∧walkR P ops C s Q l (b||i==s) a' w') (ops[i]?).toList a w
  else if k=2 then wpQuiet P ops (fun _=>True) (fun a'=>walkR P ops C s Q l b a' w) (ops[i]?).toList a
  else wpQuiet P ops C (fun a'=>walkR P ops C s Q l b a' w) (ops[i]?).toList a
theorem qOp_of_list{i:Nat}{o:Oper}{a:Act}{D:World→Prop}{K:Act→Prop}(hi:ops[i]?=some o)(h:wpQuiet P ops D K (ops[i]?).toList a):qOp P ops D i K a:=by
 rw[hi] at h;unfold qOp;simp only[hi];exact h
theorem Zg0{s:Nat}{Q:Act→World→Prop}(hsel:Region.noSelect ops=true):
  ∀ (l:List (Nat×Nat)) (listed:Array Bool) (a:Act) (w:World),RInv md ops listed→Zc6 C s listed w→Zy2 md ops s l listed=true →
   walkR P ops C s Q l (listed.getD s false) a w→Zyd P md ops C s Q l.length listed a w
 | [],listed,a,w,_,_,hB,h=>⟨by simpa [Zy2] using hB,h⟩
 | (k,i)::l,listed,a,w,inv,hs,hB,h=>by
  simp only[Zy2,Bool.and_eq_true] at hB;obtain⟨hB1,hB2⟩:=hB
  by_cases hk:k=0
  ·subst hk;simp only[if_true,decide_eq_true_eq] at hB1;have hr:i∈Region.ready md ops listed:=by rw[hB1];exact List.mem_singleton.2 rfl
   have hgs:(listed.setIfInBounds i true).getD s false=(listed.getD s false||i==s):=by
    by_cases his:i=s
    ·subst his;obtain⟨hun,o,ho,_⟩:=mem_ready.1 hr;have hlt:i<listed.size:=by rw[inv.size];exact(Array.getElem?_eq_some_iff.1 ho).1
     simp[hlt]
    ·rw[getD_set_ne false his];simp[his]
   refine⟨by rw[hB1];simp,fun j hj=>?_⟩
   rw[hB1] at hj;obtain rfl:=List.mem_singleton.1 hj;obtain⟨hun,o,ho,_⟩:=mem_ready.1 hr;simp only[walkR,if_true,ho,Option.toList] at h;have h2:wpOp P ops (fun e a' w'=>e = .normal∧((listed.getD s false||j==s)=true∨C w')∧walkR P ops C s Q l (listed.getD s false||j==s) a' w') j (fun a' w'=>((listed.getD s false||j==s)=true∨C w')∧walkR P ops C s Q l (listed.getD s false||j==s) a' w') a w:=by
    unfold wpOp;simp only[ho];simp only[wpList,true_and] at h;exact h
   have h3:=wpOp_strong (fun e a' w' hq=>hq.1) h2
   refine wpOp_mono (fun a' w' h4=>?_) h3
   have hs2:Zc6 C s (listed.setIfInBounds j true) w':=by unfold Zc6;rw[hgs];exact h4.1
   exact⟨hs2,Zg0 hsel l _ a' w' (inv.set hr) hs2 hB2 (by rw[hgs];exact h4.2)⟩
  ·rw[if_neg hk] at hB1;simp only[Bool.and_eq_true,decide_eq_true_eq,Bool.or_eq_true,beq_iff_eq] at hB1;obtain⟨⟨⟨⟨hr,hf⟩,hne⟩,his⟩,hw⟩:=hB1;have hr':i∈Region.ready md ops listed:=by simpa using hr
   obtain⟨_,o,ho,_⟩:=mem_ready.1 hr';have hne':Zbc o.op=true:=by rw[ho] at hne;exact hne
   have hgs:(listed.setIfInBounds i true).getD s false=listed.getD s false:=getD_set_ne false his;have hs2:Zc6 C s (listed.setIfInBounds i true) w:=by unfold Zc6;rw[hgs];exact hs
   simp only[walkR,if_neg hk] at h;have hread:∃ v,Zai P ops md C s i o v a∧walkR P ops C s Q l (listed.getD s false) (a.put o.dst v) w:=by
    by_cases h2:k=2
    ·rw[if_pos h2] at h;obtain⟨v,hy,hK⟩:=yieldsIn_of_qOp ho (qOp_of_list ho h);exact⟨v,.inr hy,hK⟩
    ·rw[if_neg h2] at h;obtain⟨v,hy,hK⟩:=yieldsIn_of_qOp ho (qOp_of_list ho h);exact⟨v,.inl ⟨hw.resolve_left h2,hy⟩,hK⟩
   obtain⟨v,hy,hK⟩:=hread;exact Zh6 ho his hne' (Region.noSelect_spec hsel) l.length listed a w inv (Region.free_spec ho hf) hr' hy hs
    (Zg0 hsel l _ _ w (inv.set hr') hs2 hB2 (by rw[hgs];exact hK))
theorem pick_one:∀ (l:List Oper) (i:Nat),(l.toArray[i]?).toList=(l.drop i).take 1
 | [],i=>by simp
 | o::l,0=>by simp
 | o::l,i+1=>by
  have:=pick_one l i
  simpa using this
theorem walkR_read{s i:Nat}{Q:Act→World→Prop}{l:List (Nat×Nat)}{b:Bool}{a:Act}{w:World}{lo:List Oper}(h:wpQuiet P lo.toArray C (fun a'=>walkR P lo.toArray C s Q l b a' w) ((lo.drop i).take 1) a):walkR P lo.toArray C s Q ((1,i)::l) b a w:=by
 simp only[walkR,pick_one];exact h
theorem walkR_any{s i:Nat}{Q:Act→World→Prop}{l:List (Nat×Nat)}{b:Bool}{a:Act}{w:World}{lo:List Oper}(h:wpQuiet P lo.toArray (fun _=>True) (fun a'=>walkR P lo.toArray C s Q l b a' w) ((lo.drop i).take 1) a):walkR P lo.toArray C s Q ((2,i)::l) b a w:=by
 simp only[walkR,pick_one];exact h
theorem walkR_move{s i:Nat}{Q:Act→World→Prop}{l:List (Nat×Nat)}{b:Bool}{a:Act}{w:World}{lo:List Oper}
  (h:wpList P lo.toArray (fun e a' w'=>e = .normal∧((b||i==s)=true∨C w')∧walkR P lo.toArray C s Q l (b||i==s) a' w') ((lo.drop i).take 1) a w):walkR P lo.toArray C s Q ((0,i)::l) b a w:=by
 simp only[walkR,pick_one];exact h
theorem wp_region_readers{id:Nat}{Q:Exit→Act→World→Prop}{a:Act}{w:World}{l:List Oper}(s:Nat)(ord:List (Nat×Nat))(C:World→Prop)(hm:P.follows .mixedOrders=true)
  (hB:(Region.noSelect l.toArray&&decide (ord.length=l.length)&&Zy2 .any l.toArray s ord (Array.replicate l.length false))=true)
  (hC:C { w with drawn:=w.drawn+1 }) (h:walkR P l.toArray C s (fun a' w'=>Q .normal a' w') ord false a { w with drawn:=w.drawn+1 }):(Code.region id l.toArray true).wp P Q a w:=by
 simp only[Bool.and_eq_true,decide_eq_true_eq] at hB;obtain⟨⟨hsel,hlen⟩,hord⟩:=hB;refine wp_region_any hm ?_;have inv0:RInv .any l.toArray (Array.replicate l.length false):=⟨by simp,fun j oj _ hl=>(by rw[getD_replicate_false] at hl;cases hl)⟩
 have H:=Zg0 (md := .any) hsel ord _ a _ inv0 (.inr hC) hord (by rw[getD_replicate_false];exact h)
 have:=Zjk (Q':=Q) (fun a w h=>h) _ _ _ _ H
 rw[hlen] at this
 simpa using this
end
section
variable {P:Program} {ops:Array Oper} {md:Region.Mode} {C:World→Prop}
inductive Zce where
 | nil:Zce
 | rd:Nat→Nat→Zce→Zce
 | mv:Nat→Zce→Zce
 | two:Nat→Nat→Zce→Zce→Zce
def Zce.len:Zce→Nat
 | .nil=>0
 | .rd _ _ t=>t.len+1
 | .mv _ t=>t.len+1
 | .two _ _ t _=>t.len+1
def Ztt (md:Region.Mode) (ops:Array Oper) (s:Nat):Zce→Array Bool→Bool
 | .nil,listed=>(Region.ready md ops listed).isEmpty
 | .rd k i t,listed =>
  ((Region.ready md ops listed).contains i&&Region.free md ops listed i&&(match ops[i]? with | some o=>Zbc o.op | none=>false)&&decide (i≠s)&&(k==2||reachB md ops 4 s i)) &&
  Ztt md ops s t (listed.setIfInBounds i true)
 | .mv i t,listed=>decide (Region.ready md ops listed=[i])&&Ztt md ops s t (listed.setIfInBounds i true)
 | .two i j t u,listed=>(decide (Region.ready md ops listed=[i,j])&&decide (t.len=u.len))&&(Ztt md ops s t (listed.setIfInBounds i true)&&Ztt md ops s u (listed.setIfInBounds j true))
def walkT (P:Program) (ops:Array Oper) (C:World→Prop) (s:Nat) (Q:Act→World→Prop):Zce→Bool→Act→World→Prop
 | .nil,_,a,w=>Q a w
 | .rd k i t,b,a,w=>if k=2 then wpQuiet P ops (fun _=>True) (fun a'=>walkT P ops C s Q t b a' w) (ops[i]?).toList a else wpQuiet P ops C (fun a'=>walkT P ops C s Q t b a' w) (ops[i]?).toList a
 | .mv i t,b,a,w=>wpList P ops (fun e a' w'=>e = .normal∧((b||i==s)=true∨C w')∧walkT P ops C s Q t (b||i==s) a' w') (ops[i]?).toList a w
 | .two i j t u,b,a,w =>
  wpList P ops (fun e a' w'=>e = .normal∧((b||i==s)=true∨C w')∧walkT P ops C s Q t (b||i==s) a' w') (ops[i]?).toList a w ∧
  wpList P ops (fun e a' w'=>e = .normal∧((b||j==s)=true∨C w')∧walkT P ops C s Q u (b||j==s) a' w') (ops[j]?).toList a w
theorem Zfb{s i:Nat}{listed:Array Bool}(inv:RInv md ops listed)(hr:i∈Region.ready md ops listed):(listed.setIfInBounds i true).getD s false=(listed.getD s false||i==s):=by
 by_cases his:i=s
 ·subst his;obtain⟨hun,o,ho,_⟩:=mem_ready.1 hr;have hlt:i<listed.size:=by rw[inv.size];exact(Array.getElem?_eq_some_iff.1 ho).1
  simp[hlt]
 ·rw[getD_set_ne false his];simp[his]
theorem Zlo{s j:Nat}{K:Act→World→Prop}{listed:Array Bool}{a:Act}{w:World}(inv:RInv md ops listed)(hr:j∈Region.ready md ops listed)
  (h:wpList P ops (fun e a' w'=>e = .normal∧((listed.getD s false||j==s)=true∨C w')∧K a' w') (ops[j]?).toList a w) :
  wpOp P ops (fun _ _ _=>False) j (fun a' w'=>Zc6 C s (listed.setIfInBounds j true) w'∧K a' w') a w:=by
 obtain⟨hun,o,ho,_⟩:=mem_ready.1 hr;simp only[ho,Option.toList] at h;have h2:wpOp P ops (fun e a' w'=>e = .normal∧((listed.getD s false||j==s)=true∨C w')∧K a' w') j (fun a' w'=>((listed.getD s false||j==s)=true∨C w')∧K a' w') a w:=by
  unfold wpOp;simp only[ho];simp only[wpList,true_and] at h;exact h
 have h3:=wpOp_strong (fun e a' w' hq=>hq.1) h2
 refine wpOp_mono (fun a' w' h4=>⟨?_,h4.2⟩) h3
 unfold Zc6;rw[Zfb inv hr];exact h4.1
theorem Zcq{s:Nat}{Q:Act→World→Prop}(hsel:Region.noSelect ops=true):
  ∀ (l:Zce) (listed:Array Bool) (a:Act) (w:World),RInv md ops listed→Zc6 C s listed w→Ztt md ops s l listed=true →
   walkT P ops C s Q l (listed.getD s false) a w→Zyd P md ops C s Q l.len listed a w
 | .nil,listed,a,w,_,_,hB,h=>⟨by simpa [Ztt] using hB,h⟩
 | .mv i t,listed,a,w,inv,hs,hB,h=>by
  simp only[Ztt,Bool.and_eq_true,decide_eq_true_eq] at hB;obtain⟨hB1,hB2⟩:=hB;have hr:i∈Region.ready md ops listed:=by rw[hB1];exact List.mem_singleton.2 rfl
  refine⟨by rw[hB1];simp,fun j hj=>?_⟩
  rw[hB1] at hj;obtain rfl:=List.mem_singleton.1 hj;refine wpOp_mono (fun a' w' h4=>⟨h4.1,Zcq hsel t _ a' w' (inv.set hr) h4.1 hB2 ?_⟩) (Zlo inv hr h)
  rw[Zfb inv hr];exact h4.2
 | .two i k t u,listed,a,w,inv,hs,hB,h=>by
  simp only[Ztt,Bool.and_eq_true,decide_eq_true_eq] at hB;obtain⟨⟨hB1,hlen⟩,hB2,hB3⟩:=hB;have hr:i∈Region.ready md ops listed:=by rw[hB1];simp
  have hr2:k∈Region.ready md ops listed:=by rw[hB1];simp
  refine⟨by rw[hB1];simp,fun j hj=>?_⟩
  rw[hB1] at hj;simp only[List.mem_cons,List.not_mem_nil,or_false] at hj
  by_cases hji:j=i
  ·subst hji;refine wpOp_mono (fun a' w' h4=>⟨h4.1,Zcq hsel t _ a' w' (inv.set hr) h4.1 hB2 ?_⟩) (Zlo inv hr h.1)
   rw[Zfb inv hr];exact h4.2
  ·have hjk:j=k:=hj.resolve_left hji;subst hjk;have:=wpOp_mono (fun a' w' (h4:Zc6 C s (listed.setIfInBounds j true) w'∧walkT P ops C s Q u (listed.getD s false||j==s) a' w')=>(⟨h4.1,Zcq hsel u _ a' w' (inv.set hr2) h4.1 hB3 (by rw[Zfb inv hr2];exact h4.2)⟩:Zc6 C s (listed.setIfInBounds j true) w'∧Zyd P md ops C s Q u.len (listed.setIfInBounds j true) a' w')) (Zlo inv hr2 h.2)
   rw[← hlen] at this;exact this
 | .rd k i t,listed,a,w,inv,hs,hB,h=>by
  simp only[Ztt,Bool.and_eq_true] at hB;obtain⟨hB1,hB2⟩:=hB;simp only[decide_eq_true_eq,Bool.or_eq_true,beq_iff_eq] at hB1;obtain⟨⟨⟨⟨hr,hf⟩,hne⟩,his⟩,hw⟩:=hB1;have hr':i∈Region.ready md ops listed:=by simpa using hr
  obtain⟨_,o,ho,_⟩:=mem_ready.1 hr';have hne':Zbc o.op=true:=by rw[ho] at hne;exact hne
  have hgs:(listed.setIfInBounds i true).getD s false=listed.getD s false:=getD_set_ne false his;have hs2:Zc6 C s (listed.setIfInBounds i true) w:=by unfold Zc6;rw[hgs];exact hs
  simp only[walkT] at h;have hread:∃ v,Zai P ops md C s i o v a∧walkT P ops C s Q t (listed.getD s false) (a.put o.dst v) w:=by
   by_cases h2:k=2
   ·rw[if_pos h2] at h;obtain⟨v,hy,hK⟩:=yieldsIn_of_qOp ho (qOp_of_list ho h);exact⟨v,.inr hy,hK⟩
   ·rw[if_neg h2] at h;obtain⟨v,hy,hK⟩:=yieldsIn_of_qOp ho (qOp_of_list ho h);exact⟨v,.inl ⟨hw.resolve_left h2,hy⟩,hK⟩
  obtain⟨v,hy,hK⟩:=hread;exact Zh6 ho his hne' (Region.noSelect_spec hsel) t.len listed a w inv (Region.free_spec ho hf) hr' hy hs
   (Zcq hsel t _ _ w (inv.set hr') hs2 hB2 (by rw[hgs];exact hK))
theorem walkT_read{s i:Nat}{Q:Act→World→Prop}{l:Zce}{b:Bool}{a:Act}{w:World}{lo:List Oper}(h:wpQuiet P lo.toArray C (fun a'=>walkT P lo.toArray C s Q l b a' w) ((lo.drop i).take 1) a):walkT P lo.toArray C s Q (.rd 1 i l) b a w:=by
 simp only[walkT,pick_one];exact h
theorem walkT_any{s i:Nat}{Q:Act→World→Prop}{l:Zce}{b:Bool}{a:Act}{w:World}{lo:List Oper}(h:wpQuiet P lo.toArray (fun _=>True) (fun a'=>walkT P lo.toArray C s Q l b a' w) ((lo.drop i).take 1) a):walkT P lo.toArray C s Q (.rd 2 i l) b a w:=by
 simp only[walkT,pick_one];exact h
theorem walkT_move{s i:Nat}{Q:Act→World→Prop}{l:Zce}{b:Bool}{a:Act}{w:World}{lo:List Oper}
  (h:wpList P lo.toArray (fun e a' w'=>e = .normal∧((b||i==s)=true∨C w')∧walkT P lo.toArray C s Q l (b||i==s) a' w') ((lo.drop i).take 1) a w):walkT P lo.toArray C s Q (.mv i l) b a w:=by
 simp only[walkT,pick_one];exact h
theorem walkT_two{s i j:Nat}{Q:Act→World→Prop}{l m:Zce}{b:Bool}{a:Act}{w:World}{lo:List Oper}
  (h1:wpList P lo.toArray (fun e a' w'=>e = .normal∧((b||i==s)=true∨C w')∧walkT P lo.toArray C s Q l (b||i==s) a' w') ((lo.drop i).take 1) a w)
  (h2:wpList P lo.toArray (fun e a' w'=>e = .normal∧((b||j==s)=true∨C w')∧walkT P lo.toArray C s Q m (b||j==s) a' w') ((lo.drop j).take 1) a w):walkT P lo.toArray C s Q (.two i j l m) b a w:=by
 simp only[walkT,pick_one];exact⟨h1,h2⟩
theorem wp_region_tree{id:Nat}{Q:Exit→Act→World→Prop}{a:Act}{w:World}{l:List Oper}(s:Nat)(ord:Zce)(C:World→Prop)(hm:P.follows .mixedOrders=true)
  (hB:(Region.noSelect l.toArray&&decide (ord.len=l.length)&&Ztt .any l.toArray s ord (Array.replicate l.length false))=true)
  (hC:C { w with drawn:=w.drawn+1 }) (h:walkT P l.toArray C s (fun a' w'=>Q .normal a' w') ord false a { w with drawn:=w.drawn+1 }):(Code.region id l.toArray true).wp P Q a w:=by
 simp only[Bool.and_eq_true,decide_eq_true_eq] at hB;obtain⟨⟨hsel,hlen⟩,hord⟩:=hB;refine wp_region_any hm ?_;have inv0:RInv .any l.toArray (Array.replicate l.length false):=⟨by simp,fun j oj _ hl=>(by rw[getD_replicate_false] at hl;cases hl)⟩
 have H:=Zcq (md := .any) hsel ord _ a _ inv0 (.inr hC) hord (by rw[getD_replicate_false];exact h)
 have:=Zjk (Q':=Q) (fun a w h=>h) _ _ _ _ H
 rw[hlen] at this
 simpa using this
end
end Go.Proofs.YtnjedhgcfeoemaaGreatDoor.RP

namespace Go.Proofs.YtnjedhgcfeoemaaGreatDoor
open Go.RowKit
def Qc (l:List Rat):Nat:=l.foldl (fun d q=>Nat.lcm d q.den) 1
def Vo (D:Nat) (ps:List Int) (l:List Rat):List (Int×Int) :=
 (ps.zip l).filterMap fun x=>if x.2.num=0 then none else some (x.1,x.2.num*((D/x.2.den:Nat):Int))
theorem Zft(l:List Rat)(k:Nat)(h:k<l.length):Qc (l.take (k+1))=Nat.lcm (Qc (l.take k)) l[k].den:=by
 unfold Qc;rw[List.take_add_one,List.getElem?_eq_getElem h,List.foldl_append];rfl
theorem Zid(l:List Rat):∀ k,k≤l.length→0<Qc (l.take k)
 | 0,_=>Nat.one_pos
 | k+1,h=>by
  rw[Zft l k (by omega)]
  exact Nat.lcm_pos (Zid l k (by omega)) l[k].den_pos
theorem Zie(l:List Rat)(D:Nat)(hs:∀ q∈l,Sm D q):∀ k,k≤l.length→Qc (l.take k)<10^(1+k*D)
 | 0,_=>by show 1<10^(1+0*D);rw[Nat.zero_mul];decide
 | k+1,h=>by
  rw[Zft l k (by omega)]
  have h1:=Zie l D hs k (by omega)
  have h2:=(hs _ (List.getElem_mem (show k<l.length by omega))).2
  have h3:=Qd h1 h2;have h4:Nat.lcm (Qc (l.take k)) l[k].den≤Qc (l.take k)*l[k].den:=Nat.le_of_dvd (Nat.mul_pos (Zid l k (by omega)) l[k].den_pos) (Nat.lcm_dvd_mul _ _)
  rw[show 1+(k+1)*D=1+k*D+D by rw[Nat.add_mul];omega]
  omega
theorem Zo2(D:Nat)(ps:List Int)(l:List Rat)(k:Nat)(h1:k<ps.length)(h2:k<l.length):
  Vo D (ps.take (k+1)) (l.take (k+1))=Vo D (ps.take k) (l.take k)++(if l[k].num=0 then [] else [(ps[k],l[k].num*((D/l[k].den:Nat):Int))]):=by
 unfold Vo;have e:∀ n,(ps.take n).zip (l.take n)=(ps.zip l).take n:=fun n=>(List.take_zipWith ..).symm
 rw[e,e,List.take_add_one,List.getElem?_eq_getElem (by rw[List.length_zip];omega),List.filterMap_append]
 congr 1;rw[List.getElem_zip]
 by_cases h:l[k].num=0
 ·rw[if_pos h]
  show List.filterMap _ [(ps[k],l[k])]=[]
  rw[List.filterMap_cons];rw[if_pos h];rfl
 ·rw[if_neg h]
  show List.filterMap _ [(ps[k],l[k])]=_
  rw[List.filterMap_cons];rw[if_neg h];rfl
theorem Zeu(D:Nat)(ps:List Int)(l:List Rat):(Vo D ps l).length≤l.length:=by
 unfold Vo;refine Nat.le_trans (List.length_filterMap_le _ _) ?_;rw[List.length_zip];omega
def Zdk (l:List ByteArray):List Value:=l.map Value.string
theorem Yy(l:List ByteArray):(Zdk l).length=l.length:=by simp[Zdk]
theorem Zln(l m:List ByteArray):Zdk (l++m)=Zdk l++Zdk m:=by simp[Zdk]
def Zqu (v1 v2:Value) (d:Nat):Value := .agg #[v1,v2,.string (dec d)]
def Znk (v1 v2:Value) (s:ByteArray):Obj := .cells #[v1,v2,.string s] 163
theorem Zzq:(Tryz.prog.info? 3).map (fun i=>(i.zero,i.size,i.bytes))=some (some (.int .i64 0),1,8):=by kernel_rfl
theorem Zzo:(Tryz.prog.info? 25).map (fun i=>(i.zero,i.size,i.bytes))=some (some (.string ⟨#[]⟩),1,16):=by kernel_rfl
theorem Kt{w:World}{g:Nat}{a b c:Value}{t:TypeId}(h:w.heap[g]?=some (.cells #[a,b,c] t (0,0))):
  w.cell? ⟨g,0,none⟩=some a∧w.cell? ⟨g,1,none⟩=some b∧w.cell? ⟨g,2,none⟩=some c∧(∀ j,w.frozen? ⟨g,j,none⟩=false):=by
 refine⟨by rw[cell_of_row w g 0 _ t (0,0) h];rfl,by rw[cell_of_row w g 1 _ t (0,0) h];rfl,by rw[cell_of_row w g 2 _ t (0,0) h];rfl,fun j=>?_⟩
 simp[World.frozen?,h]
theorem Zrn{w:World}{base n c:Nat}{e:TypeId}{a:Option Addr}{xs:List Value}(h:w.ownsRow base e 1 (.slice a n c) n xs):Rd w a xs:=by
 have hlen:=h.1
 by_cases hn:0<n
 ·obtain⟨g,cap,hv,h1,h2,h3,h4,h5⟩:=Vv h hn;simp only[Value.slice.injEq] at hv;obtain⟨rfl,-,rfl⟩:=hv;refine .inr ⟨g,0,rfl,h2,fun i v hi=>?_⟩
  rw[Nat.zero_add,h4 i (by have:=(List.getElem?_eq_some_iff.1 hi).1;omega)]
  exact hi
 ·exact .inl (List.eq_nil_of_length_eq_zero (by omega))
def Zv7 (w:World) (tl:List (Int×Int)) (D:Nat) (e:Ending) (w':World):Prop :=
 ∃ b1 d1 b2 d2,e = .returned (Zqu (.slice b1 tl.length d1) (.slice b2 tl.length d2) D)∧Rd w' b1 (Vc (tl.map Prod.fst))∧Rd w' b2 (Zdk (tl.map fun x=>itx x.2))∧Below w.heap.size w w'
theorem Zcl{w:World}{g:Nat}{cs:Array Value}{t:TypeId}(h:w.heap[g]?=some (.cells cs t (0,0)))(j:Nat)(x:Value):
  (w.setCell ⟨g,j,none⟩ x).heap[g]?=some (.cells (cs.setIfInBounds j x) t (0,0)):=by
 simp[World.setCell,Array.getElem?_modify,h]
theorem Zp{w:World}{g k:Nat}(h:g≠k)(j:Nat)(x:Value):(w.setCell ⟨g,j,none⟩ x).heap[k]?=w.heap[k]?:=by
 simp[World.setCell,Array.getElem?_modify,h]
structure TW (b5 g9:Nat) (v1 v2 v3 x0 x1:Value) (p:Addr) (vp:Value) where
 w:World
 h5:w.heap[b5]?=some (.cells #[v1,v2,v3] 163 (0,0))
 h9:w.heap[g9]?=some (.cells #[x0,x1] 42 (0,0))
 hp:w.cell? p=some vp
section
variable {b5 g9:Nat} {v1 v2 v3 x0 x1:Value} {p:Addr} {vp:Value}
theorem TW.q0(t:TW b5 g9 v1 v2 v3 x0 x1 p vp):t.w.cell? ⟨b5,0,none⟩=some v1:=(Kt t.h5).1
theorem TW.q1(t:TW b5 g9 v1 v2 v3 x0 x1 p vp):t.w.cell? ⟨b5,1,none⟩=some v2:=(Kt t.h5).2.1
theorem TW.q2(t:TW b5 g9 v1 v2 v3 x0 x1 p vp):t.w.cell? ⟨g9,0,none⟩=some x0:=(Ka t.h9).1
end
structure TT (w:World) (s1 s2:Value) (D:Nat) (V1:Value) (n1:Nat) (L1:List Value) (V2:Value) (n2:Nat) (L2:List Value) (wr:World):Prop where
 h4:wr.heap[w.heap.size]?=some (Znk (.slice none 0 0) (.slice none 0 0) ⟨#[]⟩)
 h5:wr.heap[w.heap.size+1]?=some (Znk s1 s2 (dec D))
 o1:wr.ownsRow (w.heap.size+2) 3 1 V1 n1 L1
 o2:wr.ownsRow (w.heap.size+2) 25 1 V2 n2 L2
 ap:∀ k,V1.ownBlock=some k→V2.ownBlock≠some k
 bel:Below w.heap.size w wr
 siz:w.heap.size+2≤wr.heap.size
section
variable {w:World} {s1 s2:Value} {D:Nat} {V1:Value} {n1:Nat} {L1:List Value} {V2:Value} {n2:Nat} {L2:List Value} {wr:World}
theorem TT.next{w':World}(h:TT w s1 s2 D V1 n1 L1 V2 n2 L2 wr)(hb:Below wr.heap.size wr w'):TT w s1 s2 D V1 n1 L1 V2 n2 L2 w' :=
 ⟨(hb.block _ (Array.getElem?_eq_some_iff.1 h.h4).1).trans h.h4,(hb.block _ (Array.getElem?_eq_some_iff.1 h.h5).1).trans h.h5,Vu h.o1 hb nr_,Vu h.o2 hb nr_,h.ap,h.bel.trans (hb.mono h.bel.size),Nat.le_trans h.siz hb.size⟩
theorem TT.grow1{w':World}(h:TT w s1 s2 D V1 n1 L1 V2 n2 L2 wr){V':Value}{n':Nat}{L':List Value}(own:w'.ownsRow (w.heap.size+2) 3 1 V' n' L')(hg:wr.grownBy w' V1.ownBlock)
  (hat:V'.ownBlock=V1.ownBlock∨V'.ownBlock=some wr.heap.size):TT w s1 s2 D V' n' L' V2 n2 L2 w':=by
 have hlow:∀ k,k<w.heap.size+2→w'.heap[k]?=wr.heap[k]?:=fun k hk=>hg.block k (by have:=h.siz;omega) (fun e=>by have:=(World.ownsRow.lt h.o1 k e.symm).1;omega)
 refine⟨(hlow _ (by omega)).trans h.h4,(hlow _ (by omega)).trans h.h5,own,?_,?_,?_,Nat.le_trans h.siz hg.size⟩
 ·refine World.ownsRow.kept h.o2 hg ?_;cases hv:V1.ownBlock with
  | none=>cases hv2:V2.ownBlock<;>simp
  | some k=>exact .inr (h.ap k hv)
 ·intro k hk;rcases hat with e|e
  ·exact h.ap k (by rw[← e];exact hk)
  ·intro h2;have h3:=(World.ownsRow.lt h.o2 k h2).2;rw[e] at hk;injection hk with hk
   omega
 ·exact h.bel.grown hg (by have:=h.siz;omega) (fun k hk=>by have:=(World.ownsRow.lt h.o1 k hk).1;omega)
theorem TT.grow2{w':World}(h:TT w s1 s2 D V1 n1 L1 V2 n2 L2 wr){V':Value}{n':Nat}{L':List Value}(own:w'.ownsRow (w.heap.size+2) 25 1 V' n' L')(hg:wr.grownBy w' V2.ownBlock)
  (hat:V'.ownBlock=V2.ownBlock∨V'.ownBlock=some wr.heap.size):TT w s1 s2 D V1 n1 L1 V' n' L' w':=by
 have hlow:∀ k,k<w.heap.size+2→w'.heap[k]?=wr.heap[k]?:=fun k hk=>hg.block k (by have:=h.siz;omega) (fun e=>by have:=(World.ownsRow.lt h.o2 k e.symm).1;omega)
 refine⟨(hlow _ (by omega)).trans h.h4,(hlow _ (by omega)).trans h.h5,?_,own,?_,?_,Nat.le_trans h.siz hg.size⟩
 ·refine World.ownsRow.kept h.o1 hg ?_;cases hv:V2.ownBlock with
  | none=>cases hv2:V1.ownBlock<;>simp
  | some k=>exact .inr (fun h1=>h.ap k h1 hv)
 ·intro k hk;rcases hat with e|e
  ·rw[e];exact h.ap k hk
  ·rw[e];intro h2;have h3:=(World.ownsRow.lt h.o1 k hk).2;injection h2 with h2
   omega
 ·exact h.bel.grown hg (by have:=h.siz;omega) (fun k hk=>by have:=(World.ownsRow.lt h.o2 k hk).1;omega)
theorem TT.store1(h:TT w s1 s2 D V1 n1 L1 V2 n2 L2 wr)(x:Value):TT w x s2 D V1 n1 L1 V2 n2 L2 (wr.setCell ⟨w.heap.size+1,0,none⟩ x):=by
 refine⟨(Zp (by omega) _ _).trans h.h4,(Zcl h.h5 0 x).trans rfl,?_,?_,h.ap,h.bel.setCell (p:=⟨w.heap.size+1,0,none⟩) (by simp) _,by simpa using h.siz⟩
 ·exact ownsRow_setCell_below h.o1 (by show w.heap.size+1<w.heap.size+2;omega) _
 ·exact ownsRow_setCell_below h.o2 (by show w.heap.size+1<w.heap.size+2;omega) _
theorem TT.store2(h:TT w s1 s2 D V1 n1 L1 V2 n2 L2 wr)(x:Value):TT w s1 x D V1 n1 L1 V2 n2 L2 (wr.setCell ⟨w.heap.size+1,1,none⟩ x):=by
 refine⟨(Zp (by omega) _ _).trans h.h4,(Zcl h.h5 1 x).trans rfl,?_,?_,h.ap,h.bel.setCell (p:=⟨w.heap.size+1,1,none⟩) (by simp) _,by simpa using h.siz⟩
 ·exact ownsRow_setCell_below h.o1 (by show w.heap.size+1<w.heap.size+2;omega) _
 ·exact ownsRow_setCell_below h.o2 (by show w.heap.size+1<w.heap.size+2;omega) _
end
abbrev TS (w:World) (tl:List (Int×Int)) (D:Nat) (b1:Option Addr) (d1:Nat) (b2:Option Addr) (d2:Nat) (wr:World):Prop :=
 TT w (.slice b1 tl.length d1) (.slice b2 tl.length d2) D (.slice b1 tl.length d1) tl.length (Vc (tl.map Prod.fst)) (.slice b2 tl.length d2) tl.length (Zdk (tl.map fun x=>itx x.2)) wr
theorem Zlm(w:World)(a1 a2:Option Addr)(c1 c2:Nat)(ps:List Int)(l:List Rat)(D:Nat)(hp:Rd w a1 (Vc ps))(hr:Rd w a2 (Kx l))(hpl:ps.length=l.length)
  (hs:∀ q∈l,Sm D q) (hl:l.length≤1000) (hD:3+(l.length+2)*D≤900000) (L:Qb w) :
  Calls Tryz.prog 100 #[.slice a1 ps.length c1,.slice a2 l.length c2] w (Zv7 w (Vo (Qc l) ps l) (Qc l)):=by
 have HL:=hd_ L;have Hs:=hd_ hs;have Hr:=hd_ hr;have Hp:=hd_ hp;have HD:=hd_ hD;have Hpl:=hd_ hpl;rw[hpl];clear hs hr hp L hD hpl;generalize hn:l.length=n at *
 have Hn:=hd_ hn;clear hn;go_enter Tryz.func100,Tryz.ntmps100
 go_wp2_with fail
 go_loopw [16] (fun i wr=>∃ k:Nat,k≤n∧i = .int .i64 k∧Hid (wr.heap[w.heap.size]?=some (Znk (.slice none 0 0) (.slice none 0 0) ⟨#[]⟩))∧Hid (wr.heap[w.heap.size+1]?=some (Znk (.slice none 0 0) (.slice none 0 0) (dec (Qc (l.take k)))))∧Hid (Below w.heap.size w wr)) (fun i _=>n-(intOf i).toNat)
 case atStart =>
  refine⟨0,Nat.zero_le _,rfl,?_,?_,?_⟩
  ·show _=_
   rw[Go.heap_alloc_old _ _ (by simp)]
   exact Go.heap_alloc_new _ _
  ·show _=_
   have:=Go.heap_alloc_new (w.alloc (Obj.cells #[Value.slice none 0 0,Value.slice none 0 0,Value.string { data := #[] }] 163)) (Obj.cells #[Value.slice none 0 0,Value.slice none 0 0,Value.string { data := #[49] }] 163)
   rw[World.size_alloc] at this;rw[this,show Qc (l.take 0)=1 from rfl,Vf];rfl
  ·exact((Below.refl w.heap.size w).alloc nr_ _).alloc (by simp) _
 case round =>
  obtain⟨k,hk,rfl,H4,H5,Hb⟩:=hrel
  by_cases hlt:k<n
  ·have hlt':(k:Int)<n:=by omega
   have hkl:k<l.length:=by rw[Hn.out];exact hlt
   obtain⟨b,off,rfl,hb,hcells⟩:=Hr.out.open (by rw[Ky];omega)
   obtain⟨c0,c1⟩:=Ql hcells k (by rw[List.length_map];exact hkl)
   rw[← Hb.out.cell (p:=⟨b,off+k*2,none⟩) hb,Qt _ k hkl] at c0;rw[← Hb.out.cell (p:=⟨b,off+k*2+1,none⟩) hb,Qt _ k hkl] at c1;have Hsucc:Hid (Qc (l.take (k+1))=Nat.lcm (Qc (l.take k)) l[k].den):=Zft l k hkl;have hsm:=Hs.out _ (List.getElem_mem hkl);have htl:=Zie l D Hs.out k (by omega)
   have hkD:k*D≤(n+2)*D:=Nat.mul_le_mul_right _ (by omega)
   have hDD:=HD.out;have hDpos:=hsm.pos;have hD1:1*D≤(n+2)*D:=Nat.mul_le_mul_right _ (by omega)
   have Hlc:Hid (∀ W,Below w.heap.size w W→Kc Tryz.prog 170 #[.string (dec (Qc (l.take k))),.string (dec l[k].den)] W (.string (dec (Nat.lcm (Qc (l.take k)) l[k].den)))):=fun W hW=>by
    have:=Zu2 W (Qc (l.take k):Int) (l[k].den:Int) (Ku htl (by omega) (by omega)) (Ku hsm.2 hDpos (by omega)) (HL.out.below hW)
    rw[Kj,Kj,Int.lcm_natCast_natCast] at this;exact this
   clear hcells hsm htl hkD hDD hDpos hD1;generalize l[k]=q at *
   generalize Qc (l.take k)=d at *
   generalize Nat.lcm d q.den=d2 at *
   simp only[qs] at c0 c1;have Hb0:=hd_ (Hb.out.alloc Hb.out.size (.cells #[.string (itx q.num),.string (dec q.den)] 42));have Hwr:=hd_ ((Below.refl wr.heap.size wr).alloc nr_ (.cells #[.string (itx q.num),.string (dec q.den)] 42));have Hnew:Hid ((wr.alloc (.cells #[.string (itx q.num),.string (dec q.den)] 42)).heap[wr.heap.size]?=some (.cells #[.string (itx q.num),.string (dec q.den)] 42 (0,0))):=heap_alloc_new wr _;have H5a:=hd_ ((Hwr.out.block _ (Array.getElem?_eq_some_iff.1 H5.out).1).trans H5.out);have H4a:=hd_ ((Hwr.out.block _ (Array.getElem?_eq_some_iff.1 H4.out).1).trans H4.out);obtain⟨k0,k1,-,-⟩:=Ka Hnew.out;obtain⟨m0,m1,m2,m3⟩:=Kt H5a.out;clear m3
   go_wp2_with fail
   generalize wr.alloc (.cells #[.string (itx q.num),.string (dec q.den)] 42)=W0 at *
   clear c0 c1 k0 k1 m0 m1 m2 Hnew H4 H5 Hwr;refine cm_ (Hlc.out _ Hb0.out) ?_;rintro e w1 ⟨rfl,hb1⟩;have H5b:=hd_ ((hb1.block _ (Array.getElem?_eq_some_iff.1 H5a.out).1).trans H5a.out);have H4b:=hd_ ((hb1.block _ (Array.getElem?_eq_some_iff.1 H4a.out).1).trans H4a.out);have Hb1:=hd_ (Hb0.out.trans (hb1.mono Hb0.out.size));clear hb1 Hlc Hb0 H5a H4a;obtain⟨m0,m1,m2,m3⟩:=Kt H5b.out;have f2:=m3 2;clear m3;go_wp2
   go_roundw
   case rel =>
    refine⟨k+1,by omega,by go_num,?_,?_,?_⟩
    ·show _=_
     rw[Zp (by omega)];exact H4b.out
    ·show _=_
     rw[Zcl H5b.out,Hsucc.out];rfl
    ·exact Hb1.out.setCell (p:=⟨w.heap.size+1,2,none⟩) (by simp) _
   case measure=>simp[intOf];omega
  ·have hlt':¬ (k:Int)<n:=by omega
   have hkn:k=n:=by omega
   subst hkn;rw[show l.take k=l by rw[← Hn.out,List.take_length]] at H5
   have Hts0:Hid (TS w (Vo (Qc l) (ps.take 0) (l.take 0)) (Qc l) none 0 none 0 wr) :=
    ⟨H4.out,H5.out,World.ownsRow_nil ..,World.ownsRow_nil ..,fun k hk=>by simp[Value.ownBlock] at hk,Hb.out,(Array.getElem?_eq_some_iff.1 H5.out).1⟩
   have Htl:=hd_ (fun j hj=>Zie l D Hs.out j hj)
   clear H4 H5 Hb
   go_wp2_with fail
   have hDp:=Zid l l.length nr_;rw[List.take_length] at hDp;have Hdp:=hd_ hDp;have Hdl:Hid (Qc l<10^(1+k*D)):=by
    show _<_
    have:=Htl.out l.length nr_
    rw[List.take_length,Hn.out] at this;exact this
   clear hDp Htl;have Hw0:=hd_ Hts0.out.bel
   go_loopw [29] (fun i wr=>∃ (j:Nat) (b1:Option Addr) (d1:Nat) (b2:Option Addr) (d2:Nat),j≤k∧i = .int .i64 j∧Hid (TS w (Vo (Qc l) (ps.take j) (l.take j)) (Qc l) b1 d1 b2 d2 wr)) (fun i _=>k-(intOf i).toNat)
   case atStart=>exact⟨0,none,0,none,0,Nat.zero_le _,rfl,Hts0⟩
   case round =>
    obtain⟨j,b1,d1,b2,d2,hj,rfl,Hts⟩:=hrel
    by_cases hlt2:j<k
    ·have hlt2':(j:Int)<k:=by omega
     have hjl:j<l.length:=by rw[Hn.out];exact hlt2
     have hjp:j<ps.length:=by rw[Hpl.out];exact hlt2
     obtain⟨b,off,rfl,hb,hcells⟩:=Hr.out.open (by rw[Ky];omega)
     obtain⟨c0,c1⟩:=Ql hcells j (by rw[List.length_map];exact hjl)
     rw[← Hts.out.bel.cell (p:=⟨b,off+j*2,none⟩) hb,Qt _ j hjl] at c0;rw[← Hts.out.bel.cell (p:=⟨b,off+j*2+1,none⟩) hb,Qt _ j hjl] at c1;have Hsucc:=hd_ (Zo2 (Qc l) ps l j hjp hjl);have hsm:=Hs.out _ (List.getElem_mem hjl);have hq:=Zgg l[j].num;obtain⟨bp,op,rfl,hbp,hcp⟩:=Hp.out.open (by rw[Qe];omega)
     have Hcp:Hid (w.cell? ⟨bp,op+j,none⟩=some (.int .i64 ps[j])):=hcp j _ (Yh ps j hjp);clear hcells hcp;generalize l[j]=q at *
     simp only[qs] at c0 c1;have Hwr:=hd_ ((Below.refl wr.heap.size wr).alloc nr_ (.cells #[.string (itx q.num),.string (dec q.den)] 42));have Hnew:Hid ((wr.alloc (.cells #[.string (itx q.num),.string (dec q.den)] 42)).heap[wr.heap.size]?=some (.cells #[.string (itx q.num),.string (dec q.den)] 42 (0,0))):=heap_alloc_new wr _;have Hts1:=hd_ (Hts.out.next Hwr.out);have Hlo1:=hd_ (fun k hk=>(World.ownsRow.lt Hts.out.o1 k hk).2)
     have Hlo2:=hd_ (fun k hk=>(World.ownsRow.lt Hts.out.o2 k hk).2)
     have Hmx:=hd_ (Zeu (Qc l) (ps.take j) (l.take j));obtain⟨k0,k1,-,-⟩:=Ka Hnew.out
     by_cases hz:q.num=0
     ·rw[if_pos hz,List.append_nil] at Hsucc;rw[decide_eq_true hz] at hq;clear hz Hnew Hwr Hts hsm;go_wp2
      go_roundw
      case rel=>exact⟨j+1,b1,d1,b2,d2,by omega,by go_num,by rw[Hsucc.out];exact Hts1⟩
      case measure=>simp[intOf];omega
     ·rw[if_neg hz] at Hsucc;rw[decide_eq_false hz] at hq;clear hz;obtain⟨m0,m1,m2,m3⟩:=Kt Hts1.out.h5;clear m3;have hDD:=HD.out;have hDpos:=hsm.pos;have hkD:(k+2)*D=k*D+2*D:=by rw[Nat.add_mul]
      have h10:10^(1+k*D)<10^(1+k*D+1):=Nat.pow_lt_pow_right (by decide) (by omega)
      have hdl:=Hdl.out;have Hdm:Hid (∀ W,Below w.heap.size w W→Kc Tryz.prog 163 #[.string (dec (Qc l)),.string (dec q.den)] W (.tuple #[.string (dec (Qc l/q.den)),.string (itx ((Qc l:Int)%(q.den:Int))),.int .i64 0])):=fun W hW=>by
       have:=Yc W (Qc l:Int) q.den (Ku hdl (by omega) (by omega)) (Ku hsm.2 hDpos (by omega)) q.den_pos (Ku (D:=1+k*D+1) (show (Qc l+1)<10^(1+k*D+1) by omega) (by omega) (by omega)) (HL.out.below hW)
       rw[Kj,← Int.natCast_ediv,Kj] at this;exact this
      have hdv:Qc l/q.den≤Qc l:=Nat.div_le_self _ _;have hpr:(q.num*((Qc l/q.den:Nat):Int)).natAbs<10^(D+(1+k*D)):=by
       rw[Int.natAbs_mul];exact Qd hsm.1 (Nat.lt_of_le_of_lt hdv hdl)
      have Hmu:Hid (∀ W,Below w.heap.size w W→Kc Tryz.prog 115 #[.string (itx q.num),.string (dec (Qc l/q.den))] W (.string (itx (q.num*((Qc l/q.den:Nat):Int))))):=fun W hW=>by
       have:=Yu W q.num ((Qc l/q.den:Nat):Int) (Ku hsm.1 hDpos (by omega)) (Ku (Nat.lt_of_le_of_lt hdv hdl) (by omega) (by omega)) (Ku hpr (by omega) (by omega)) (HL.out.below hW)
       rw[Kj] at this;exact this
      clear hDD hDpos hkD h10 hdl hdv hpr hsm;generalize hfq:q.num*((Qc l/q.den:Nat):Int)=fq at *
      have Hfq:=hd_ hfq;clear hfq;generalize dec (Qc l/q.den)=sq at *
      go_wp2_with fail
      generalize wr.alloc (.cells #[.string (itx q.num),.string (dec q.den)] 42)=W0 at *
      clear c0 c1 k0 k1 m0 m1 m2;refine cm_ (Hdm.out _ Hts1.out.bel) ?_;rintro e w1 ⟨rfl,hb1⟩;have Hnew1:=hd_ (Kk Hnew.out hb1);have Hts2:=hd_ (Hts1.out.next hb1);clear hb1 Hdm Hts1 Hnew Hwr Hts;obtain⟨k0,k1,-,-⟩:=Ka Hnew1.out;obtain⟨m0,m1,m2,m3⟩:=Kt Hts2.out.h5;have f0:=m3 0;have f1:=m3 1;clear m3
      go_wp2_with fail
      have Hcq:Hid (w1.cell? ⟨bp,op+j,none⟩=some (.int .i64 ps[j])):=(Hts2.out.bel.cell (p:=⟨bp,op+j,none⟩) hbp).trans Hcp.out;generalize ps[j]=pj at *
      refine RP.wp_region_readers 17 [(1,0),(1,1),(1,2),(1,3),(1,4),(1,5),(1,8),(1,9),(1,10),(1,11),(2,12),(0,6),(0,7),(2,16),(0,13),(0,14),(0,15),(0,17),(2,18),(0,19)]
       (fun w'=>∃ p:TW (w.heap.size+1) wr.heap.size (.slice b1 (Vo (Qc l) (ps.take j) (l.take j)).length d1) (.slice b2 (Vo (Qc l) (ps.take j) (l.take j)).length d2) (.string (dec (Qc l))) (.string (itx q.num)) (.string (dec q.den)) ⟨bp,op+j,none⟩ (.int .i64 pj),w'=p.w)
       (by kernel_rfl) (by kernel_rfl) ?_ ?_
      ·exact⟨⟨{ w1 with drawn:=w1.drawn+1 },Hts2.out.h5,Hnew1.out,Hcq.out⟩,rfl⟩
      have q0:=@TW.q0;have q1:=@TW.q1;have q2:=@TW.q2;have q3:=@TW.hp;have hne:Nonempty (TW (w.heap.size+1) wr.heap.size (.slice b1 (Vo (Qc l) (ps.take j) (l.take j)).length d1) (.slice b2 (Vo (Qc l) (ps.take j) (l.take j)).length d2) (.string (dec (Qc l))) (.string (itx q.num)) (.string (dec q.den)) ⟨bp,op+j,none⟩ (.int .i64 pj)):=⟨⟨w1,Hts2.out.h5,Hnew1.out,Hcq.out⟩⟩
      iterate 10 (refine RP.walkR_read ?_;simp only[Kh,dz_,Kg,tz_];go_big_quiet_step (fail);refine wpQuiet_nil ?_)
      refine RP.walkR_any ?_;simp only[Kh,dz_,Kg,tz_]
      go_big_quiet_step (fail)
      refine wpQuiet_nil ?_;clear q0 q1 q2 q3 hne;refine RP.walkR_move ?_;simp only[Kh,dz_,Kg,tz_]
      go_wp2_with fail
      have Hts3:=hd_ (Hts2.out.next (w':=(w1.alloc (Obj.cells #[Value.int IntKind.i64 pj] 3)).drew) ((Below.refl w1.heap.size w1).alloc nr_ _).drew);have Hb13:=hd_ ((((Below.refl w1.heap.size w1).alloc nr_ (Obj.cells #[Value.int IntKind.i64 pj] 3)).drew));have Hnew3:=hd_ (Kk Hnew1.out Hb13.out);have Hone:Hid (∀ jj u,[Value.int IntKind.i64 pj][jj]?=some u→((w1.alloc (Obj.cells #[Value.int IntKind.i64 pj] 3)).drew).cell? ((⟨w1.heap.size,0,none⟩:Addr).add jj)=some u):=fun jj u hj=>cell_one_new w1 _ _ jj u hj
      have hgl:wr.heap.size<w1.heap.size:=(Array.getElem?_eq_some_iff.1 Hnew1.out).1;have Hsz13:Hid (w1.heap.size<((w1.alloc (Obj.cells #[Value.int IntKind.i64 pj] 3)).drew).heap.size):=by show _<_;show w1.heap.size<(w1.alloc _).heap.size;simp
      have Hcq3:Hid (((w1.alloc (Obj.cells #[Value.int IntKind.i64 pj] 3)).drew).cell? ⟨bp,op+j,none⟩=some (.int .i64 pj)):=(Hb13.out.cell (p:=⟨bp,op+j,none⟩) (block_lt_of_cell Hcq.out)).trans Hcq.out;generalize (w1.alloc (Obj.cells #[Value.int IntKind.i64 pj] 3)).drew=w3 at *
      refine⟨⟨⟨w3,Hts3.out.h5,Hnew3.out,Hcq3.out⟩,rfl⟩,?_⟩;refine RP.walkR_move ?_;simp only[Kh,dz_,Kg,tz_];obtain⟨iP,hi,hz0,hz1,hz2⟩:=info_parts Zzq;refine wpList_append_own_at w3 rfl (.tmp 47) (.tmp 52) 36 rfl (w.heap.size+2) 3 iP (.int .i64 0) 1 8 Tryz.underlying36 hi hz0 hz1 hz2 rfl (by decide) _ _ _ rfl Hts3.out.o1 ⟨w1.heap.size,0,none⟩ 1 1 [.int .i64 pj] rfl rfl Hone.out (by simp[Value.oneCell']) (by have:=Hmx.out;rw[List.length_take] at this;unfold maxLen;omega) (by have:=Hmx.out;rw[List.length_take] at this;omega) Hts3.out.siz ?_
      intro v' w4 own4 hg4 hnil4 hat4;have Hts4:=hd_ (Hts3.out.grow1 own4 hg4 hat4);obtain⟨e1,f1c,rfl⟩:=Qj own4;have Hnew4:Hid (w4.heap[wr.heap.size]?=some (.cells #[.string (itx q.num),.string (dec q.den)] 42 (0,0))):=by
       show _=_
       rw[hg4.block _ (Array.getElem?_eq_some_iff.1 Hnew3.out).1 (fun e=>by have:=Hlo1.out _ e.symm;omega)]
       exact Hnew3.out
      have Hcq4:Hid (w4.cell? ⟨bp,op+j,none⟩=some (.int .i64 pj)):=(Hts4.out.bel.cell (p:=⟨bp,op+j,none⟩) hbp).trans Hcp.out;clear own4 hg4 hnil4 hat4
      go_wp2_with fail
      refine⟨⟨⟨w4,Hts4.out.h5,Hnew4.out,Hcq4.out⟩,rfl⟩,?_⟩;refine RP.walkR_any ?_;simp only[Kh,dz_,Kg,tz_]
      go_big_quiet_step (fail)
      refine wpQuiet_nil ?_
      -- the factor
      refine RP.walkR_move ?_;simp only[Kh,dz_,Kg,tz_]
      go_wp2_with fail
      refine cm_ (Hmu.out _ Hts4.out.bel) ?_;rintro e w5 ⟨rfl,hb5⟩;have Hts5:=hd_ (Hts4.out.next hb5);have Hnew5:=hd_ (Kk Hnew4.out hb5);have Hcq5:Hid (w5.cell? ⟨bp,op+j,none⟩=some (.int .i64 pj)):=(Hts5.out.bel.cell (p:=⟨bp,op+j,none⟩) hbp).trans Hcp.out;clear hb5 Hmu
      go_wp2_with fail
      refine⟨⟨⟨w5,Hts5.out.h5,Hnew5.out,Hcq5.out⟩,rfl⟩,?_⟩;refine RP.walkR_move ?_;simp only[Kh,dz_,Kg,tz_]
      go_wp2_with fail
      have Hb56:=hd_ ((Below.refl w5.heap.size w5).alloc nr_ (Obj.cells #[Value.string (itx fq)] 25));have Hts6:=hd_ (Hts5.out.next Hb56.out);have Hnew6:=hd_ (Kk Hnew5.out Hb56.out);have Hone6:Hid (∀ jj u,[Value.string (itx fq)][jj]?=some u→(w5.alloc (Obj.cells #[Value.string (itx fq)] 25)).cell? ((⟨w5.heap.size,0,none⟩:Addr).add jj)=some u):=fun jj u hj=>cell_one_new w5 _ _ jj u hj
      have Hcq6:Hid ((w5.alloc (Obj.cells #[Value.string (itx fq)] 25)).cell? ⟨bp,op+j,none⟩=some (.int .i64 pj)):=(Hts6.out.bel.cell (p:=⟨bp,op+j,none⟩) hbp).trans Hcp.out;generalize w5.alloc (Obj.cells #[Value.string (itx fq)] 25)=w6 at *
      refine⟨⟨⟨w6,Hts6.out.h5,Hnew6.out,Hcq6.out⟩,rfl⟩,?_⟩;refine RP.walkR_move ?_;simp only[Kh,dz_,Kg,tz_];obtain⟨iZ,hiZ,hzZ0,hzZ1,hzZ2⟩:=info_parts Zzo;refine wpList_append_own_at w6 rfl (.tmp 55) (.tmp 60) 132 rfl (w.heap.size+2) 25 iZ (.string ⟨#[]⟩) 1 16 Tryz.underlying132 hiZ hzZ0 hzZ1 hzZ2 rfl (by decide) _ _ _ rfl Hts6.out.o2 ⟨w5.heap.size,0,none⟩ 1 1 [.string (itx fq)] rfl rfl Hone6.out (by simp[Value.oneCell']) (by have:=Hmx.out;rw[List.length_take] at this;unfold maxLen;omega) (by have:=Hmx.out;rw[List.length_take] at this;omega) Hts6.out.siz ?_
      intro v' w7 own7 hg7 hnil7 hat7;have Hts7:=hd_ (Hts6.out.grow2 own7 hg7 hat7);obtain⟨e2,f2c,rfl⟩:=Qj own7;have Hnew7:Hid (w7.heap[wr.heap.size]?=some (.cells #[.string (itx q.num),.string (dec q.den)] 42 (0,0))):=by
       show _=_
       rw[hg7.block _ (Array.getElem?_eq_some_iff.1 Hnew6.out).1 (fun e=>by have:=Hlo2.out _ e.symm;omega)]
       exact Hnew6.out
      have Hcq7:Hid (w7.cell? ⟨bp,op+j,none⟩=some (.int .i64 pj)):=(Hts7.out.bel.cell (p:=⟨bp,op+j,none⟩) hbp).trans Hcp.out;clear own7 hg7 hnil7 hat7
      go_wp2_with fail
      refine⟨⟨⟨w7,Hts7.out.h5,Hnew7.out,Hcq7.out⟩,rfl⟩,?_⟩
      -- the stores
      obtain⟨m0,m1,m2,m3⟩:=Kt Hts7.out.h5;have f0:=m3 0;have f1:=m3 1;clear m3;refine RP.walkR_move ?_;simp only[Kh,dz_,Kg,tz_]
      go_wp2_with fail
      have Hts8:=hd_ (Hts7.out.store1 (Value.slice e1 ((Vo (Qc l) (List.take j ps) (List.take j l)).length+1) f1c));clear m0 m1 m2 f0 f1;generalize w7.setCell { block:=w.heap.size+1,off:=0 } (Value.slice e1 ((Vo (Qc l) (List.take j ps) (List.take j l)).length+1) f1c)=w8 at *
      refine RP.walkR_any ?_;simp only[Kh,dz_,Kg,tz_]
      go_big_quiet_step (fail)
      refine wpQuiet_nil ?_;obtain⟨m0,m1,m2,m3⟩:=Kt Hts8.out.h5;have f0:=m3 0;have f1:=m3 1;clear m3;refine RP.walkR_move ?_;simp only[Kh,dz_,Kg,tz_]
      go_wp2_with fail
      have Hts9:=hd_ (Hts8.out.store2 (Value.slice e2 ((Vo (Qc l) (List.take j ps) (List.take j l)).length+1) f2c));clear m0 m1 m2 f0 f1;generalize w8.setCell { block:=w.heap.size+1,off:=1 } (Value.slice e2 ((Vo (Qc l) (List.take j ps) (List.take j l)).length+1) f2c)=w9 at *
      simp only[RP.walkR];go_wp2
      go_roundw
      case rel =>
       refine⟨j+1,e1,f1c,e2,f2c,by omega,by go_num,?_⟩
       show TS _ _ _ _ _ _ _ _
       rw[Hsucc.out];unfold TS;simp only[List.map_append,List.length_append,List.length_cons,List.length_nil,Zc,Zln,List.map_cons,List.map_nil];exact Hts9.out
      case measure=>simp[intOf];omega
    ·have hlt2':¬ (j:Int)<k:=by omega
     have hjk:j=k:=by omega
     subst hjk;have hfull:Vo (Qc l) (ps.take j) (l.take j)=Vo (Qc l) ps l:=by
      rw[show ps.take j=ps by rw[← Hpl.out,List.take_length],show l.take j=l by rw[← Hn.out,List.take_length]]
     rw[hfull] at Hts;clear hfull Hts0 Hdp Hdl Hw0;obtain⟨m0,m1,m2,m3⟩:=Kt Hts.out.h5;clear m3;obtain⟨r0,r1,r2,r3⟩:=Kt Hts.out.h4;have f0:=r3 0;have f1:=r3 1;have f2:=r3 2;clear r3
     go_wp2_with fail
     have h10:=Zcl (Zcl (Zcl Hts.out.h4 0 (Value.slice b1 (Vo (Qc l) ps l).length d1)) 1 (Value.slice b2 (Vo (Qc l) ps l).length d2)) 2 (.string (dec (Qc l)));have o1:=Zrn (ownsRow_setCell_below (ownsRow_setCell_below (ownsRow_setCell_below Hts.out.o1 (a:=⟨w.heap.size,0,none⟩) (by show w.heap.size<w.heap.size+2;omega) (Value.slice b1 (Vo (Qc l) ps l).length d1)) (a:=⟨w.heap.size,1,none⟩) (by show w.heap.size<w.heap.size+2;omega) (Value.slice b2 (Vo (Qc l) ps l).length d2)) (a:=⟨w.heap.size,2,none⟩) (by show w.heap.size<w.heap.size+2;omega) (.string (dec (Qc l))))
     have o2:=Zrn (ownsRow_setCell_below (ownsRow_setCell_below (ownsRow_setCell_below Hts.out.o2 (a:=⟨w.heap.size,0,none⟩) (by show w.heap.size<w.heap.size+2;omega) (Value.slice b1 (Vo (Qc l) ps l).length d1)) (a:=⟨w.heap.size,1,none⟩) (by show w.heap.size<w.heap.size+2;omega) (Value.slice b2 (Vo (Qc l) ps l).length d2)) (a:=⟨w.heap.size,2,none⟩) (by show w.heap.size<w.heap.size+2;omega) (.string (dec (Qc l))))
     have hbl:=((Hts.out.bel.setCell (p:=⟨w.heap.size,0,none⟩) nr_ (Value.slice b1 (Vo (Qc l) ps l).length d1)).setCell (p:=⟨w.heap.size,1,none⟩) nr_ (Value.slice b2 (Vo (Qc l) ps l).length d2)).setCell (p:=⟨w.heap.size,2,none⟩) nr_ (.string (dec (Qc l)));generalize ((wr.setCell { block:=w.heap.size,off:=0 } (Value.slice b1 (Vo (Qc l) ps l).length d1)).setCell { block:=w.heap.size,off:=1 } (Value.slice b2 (Vo (Qc l) ps l).length d2)).setCell { block:=w.heap.size,off:=2 } (Value.string (dec (Qc l)))=w10 at *
     obtain⟨t0,t1,t2,-⟩:=Kt (a:=Value.slice b1 (Vo (Qc l) ps l).length d1) (b:=Value.slice b2 (Vo (Qc l) ps l).length d2) (c := .string (dec (Qc l))) h10;exact bodyPost_ret (v:=Zqu (Value.slice b1 (Vo (Qc l) ps l).length d1) (Value.slice b2 (Vo (Qc l) ps l).length d2) (Qc l)) (by simp[Zqu,results,Tryz.results100,go_sem,t0,t1,t2]) rfl ⟨b1,d1,b2,d2,rfl,o1,o2,hbl⟩
end Go.Proofs.YtnjedhgcfeoemaaGreatDoor

namespace Go.Proofs.YtnjedhgcfeoemaaGreatDoor
open Go.RowKit Go.Shelf
attribute [local go_sem] Oper.semAt_some
abbrev Qa (b1:Option Addr) (d1:Nat) (b2:Option Addr) (d2 m D:Nat):Array Value := #[.slice b1 m d1,.slice b2 m d2,.string (dec D)]
theorem Ztm(w:World)(b1 b2:Option Addr)(d1 d2 m D:Nat):
  Calls Tryz.prog 211 #[.agg (Qa b1 d1 b2 d2 m D)] w fun e w' =>
   e = .returned (.func (.func 241) #[] #[.pointer (some ⟨w.heap.size,0,none⟩)])∧w'=w.alloc (.cells (Qa b1 d1 b2 d2 m D) 163):=by
 go_enter Tryz.func211,Tryz.ntmps211;go_wp2;go_ret;exact⟨rfl,rfl⟩
abbrev Qa8 (tl:List (Int×Int)) (x:{x // x∈tl}):Array Value := #[.int .i64 x.1.1,.string (itx x.1.2)]
def KT (n₀ Bn:Nat) (W W':World):Prop:=Below n₀ W W'∧W'.heap[Bn]?=W.heap[Bn]?
theorem Qa4{n₀ Bn:Nat}{A B C:World}(h:KT n₀ Bn A B)(k:KT n₀ Bn B C):KT n₀ Bn A C:=⟨h.1.trans k.1,k.2.trans h.2⟩
theorem Qa5{n₀ Bn:Nat}{w:World}(hn:n₀≤w.heap.size)(hB:Bn<w.heap.size)(W:World)(l:Nat)(o o':Obj)(hl:w.heap.size≤l)(h:W.heap[l]?=some o)(h1:o.isCells=false)(h2:o.isWalk=false):KT n₀ Bn W (W.putObj l o') :=
 ⟨belowK_b hn W l o o' hl h h1 h2,World.putObj_heap_other (by omega)⟩
theorem Zld(n:Nat)(hn:1≤n)(w00 w:World)(h00:Below w00.heap.size w00 w)(Bn:Nat)(b1 b2:Option Addr)(d1 d2 D:Nat)(tl:List (Int×Int))(hl:tl.length≤1000)
  (hB:w.heap[Bn]?=some (.cells (Qa b1 d1 b2 d2 tl.length D) 163 (0,0))) (hr1:Rd w00 b1 (Vc (tl.map Prod.fst))) (hr2:Rd w00 b2 (Zdk (tl.map fun x=>itx x.2))) :
  SeqStopsK Fence.wide n Tryz.prog 241 #[.pointer (some ⟨Bn,0,none⟩)] (Qa8 tl) (KT w00.heap.size Bn) (fun xs=>xs=tl.attach) (fun pre=>pre <+: tl.attach) tl.length w:=fun l J Jx W hW hJ hJx hY h0=>by
 have HB:=hd_ ((hW.block _ (Array.getElem?_eq_some_iff.1 hB).1).trans hB);have Hrd1:=hd_ hr1;have Hrd2:=hd_ hr2;have HW:=hd_ (h00.trans (hW.mono h00.size));clear hr1 hr2 hB hW h00;refine callsIn_of_wp Tryz.func241 rfl trivial ?_ rfl;simp only[Tryz.ntmps241,List.size_toArray,List.length_cons,List.length_nil,Nat.reduceAdd,Nat.reduceSub,Array.replicate_succ,Array.replicate_zero,List.push_toArray,List.append_toArray,List.nil_append,List.cons_append];obtain⟨m0,m1,m2,m3⟩:=Kt HB.out;clear m3
 gi_wp2
 gi_loopw [8] (fun p wr=>∃ k:Nat,k≤tl.length∧p = .int .i64 k∧J (tl.attach.take k) wr∧Hid (Below w00.heap.size w00 wr)∧Hid (wr.heap[Bn]?=some (.cells (Qa b1 d1 b2 d2 tl.length D) 163 (0,0))))
  (fun p wr=>tl.length-(intOf p).toNat)
 case atStart=>exact⟨0,Nat.zero_le _,rfl,h0,HW,HB⟩
 case round =>
  obtain⟨k,hk,rfl,hJk,Hb,HBk⟩:=hrel
  by_cases hlt:k<tl.length
  ·have hlt':(k:Int)<tl.length:=by omega
   have hk0:(0:Int)≤k:=by omega
   obtain⟨g1,o1,rfl,hg1,hc1⟩:=Hrd1.out.open (by rw[Qe,List.length_map];omega)
   obtain⟨g2,o2,rfl,hg2,hc2⟩:=Hrd2.out.open (by rw[Yy,List.length_map];omega)
   have x1:wr.cell? ⟨g1,o1+k,none⟩=some (.int .i64 (tl[k]).1):=by
    rw[Hb.out.cell (p:=⟨g1,o1+k,none⟩) hg1];refine hc1 k _ ?_;rw[Yh _ k (by rw[List.length_map];exact hlt),List.getElem_map]
   have x2:wr.cell? ⟨g2,o2+k,none⟩=some (.string (itx (tl[k]).2)):=by
    rw[Hb.out.cell (p:=⟨g2,o2+k,none⟩) hg2];refine hc2 k _ ?_;simp[Zdk,hlt]
   obtain⟨m0,m1,m2,m3⟩:=Kt HBk.out;clear m3 hc1 hc2;obtain⟨fn,tmps,assign,body,hy,hR⟩:=hY (tl.attach.take k) ⟨tl[k],List.getElem_mem hlt⟩ wr hJk (by rw[List.length_take,List.length_attach];omega)
   dsimp only[Qa8] at hy
   have Hnext:Hid (tl.attach.take k++[⟨tl[k],List.getElem_mem hlt⟩]=tl.attach.take (k+1)):=by
    show _=_
    rw[List.take_add_one,List.getElem?_eq_getElem (by rw[List.length_attach];exact hlt),List.getElem_attach];rfl
   have hn0:(tl.length:Int)≤1000:=by omega
   gi_wp2_with fail
   refine hR.mono ?_;rintro e W3 (⟨rfl,hJ3,hk3⟩|⟨rfl,hJx3⟩)
   ·rw[Hnext.out] at hJ3;have Hb3:=hd_ (Hb.out.trans hk3.1);have HB3:=hd_ (hk3.2.trans HBk.out);clear hk3 x1 x2 m0 m1 m2 hR hy
    gi_wp2
    go_roundw
    case rel=>exact⟨k+1,by omega,by go_num,hJ3,Hb3,HB3⟩
    case measure=>simp[intOf];omega
   ·rw[Hnext.out] at hJx3
    gi_wp2
    refine bodyPost_ret (results_none rfl _ _ _) rfl ?_;exact⟨⟨_,rfl⟩,.inr ⟨tl.attach.take (k+1),List.take_prefix _ _,hJx3⟩⟩
  ·have hlt':¬ (k:Int)<tl.length:=by omega
   have hall:tl.attach.take k=tl.attach:=List.take_of_length_le (by rw[List.length_attach];omega)
   rw[hall] at hJk
   gi_wp2
   go_end0
   exact⟨⟨_,rfl⟩,.inl hJk⟩
end Go.Proofs.YtnjedhgcfeoemaaGreatDoor

namespace Go.Proofs.YtnjedhgcfeoemaaGreatDoor
open Go.RowKit
def Zyj (p N a:Nat):Prop:=2^a≤p^N∧p^N<2^(a+1)
def Qz (unit:Nat) (s:Nat×Nat×Nat):Option (Nat×Nat×Nat) :=
 let low:=s.1*s.1/unit
 let high:=s.2.1*s.2.1/unit+1
 if 2*unit≤low then some (low/2,high/2+1,2*s.2.2+1)
 else if 2*unit≤high then none
 else some (low,high,2*s.2.2)
def Vm (p more:Nat):Nat→Option (Nat×Nat×Nat)
 | 0=>some (p*2^(more-p.log2),p*2^(more-p.log2),p.log2)
 | n+1=>(Vm p more n).bind (Qz (2^more))
structure Zts (p unit N:Nat) (s:Nat×Nat×Nat):Prop where
 lg:Zyj p N s.2.2
 lo:s.1*2^s.2.2≤unit*p^N
 hi:unit*p^N≤s.2.1*2^s.2.2
theorem Zm1{p unit N:Nat}{s t:Nat×Nat×Nat}(h0:0<unit)(h:Zts p unit N s)(hs:Qz unit s=some t):Zts p unit (2*N) t:=by
 obtain⟨l,h',o⟩:=s;obtain⟨⟨g1,g2⟩,lo,hi⟩:=h;simp only at g1 g2 lo hi;simp only[Qz] at hs;have hP:p^(2*N)=p^N*p^N:=by rw[Nat.two_mul,Nat.pow_add]
 have hO:2^(2*o)=2^o*2^o:=by rw[Nat.two_mul,Nat.pow_add]
 have hO1:2^(2*o+1)=2*(2^o*2^o):=by rw[Nat.pow_succ,hO,Nat.mul_comm]
 have hO2:2^(2*o+1+1)=4*(2^o*2^o):=by rw[Nat.pow_succ,hO1];omega
 have hq:=Nat.div_mul_le_self (l*l) unit;have hr:=Nat.lt_div_mul_add (a:=h'*h') h0;generalize hA:l*l/unit=A at *
 generalize hB:h'*h'/unit=B at *
 rw[Nat.pow_succ] at g2;generalize 2^o=T at *
 generalize p^N=P at *
 -- A * (T * T) ≤ unit * (P * P)
 have e1:A*(T*T)≤unit*(P*P):=by
  have h1:A*unit*(T*T)≤(l*l)*(T*T):=Nat.mul_le_mul_right _ hq;have h2:(l*T)*(l*T)≤(unit*P)*(unit*P):=Nat.mul_le_mul lo lo;have h3:unit*(A*(T*T))≤unit*(unit*(P*P)):=by
   calc unit*(A*(T*T))=A*unit*(T*T):=by ac_rfl
    _≤(l*l)*(T*T):=h1
    _=(l*T)*(l*T):=by ac_rfl
    _≤_:=h2
    _=unit*(unit*(P*P)):=by ac_rfl
  exact Nat.le_of_mul_le_mul_left h3 h0
 have e2:unit*(P*P)≤(B+1)*(T*T):=by
  have h1:h'*h'*(T*T)≤((B+1)*unit)*(T*T):=Nat.mul_le_mul_right _ (by rw[Nat.add_mul,Nat.one_mul];omega)
  have h2:(unit*P)*(unit*P)≤(h'*T)*(h'*T):=Nat.mul_le_mul hi hi;have h3:unit*(unit*(P*P))≤unit*((B+1)*(T*T)):=by
   calc unit*(unit*(P*P))=(unit*P)*(unit*P):=by ac_rfl
    _≤_:=h2
    _=h'*h'*(T*T):=by ac_rfl
    _≤_:=h1
    _=unit*((B+1)*(T*T)):=by ac_rfl
  exact Nat.le_of_mul_le_mul_left h3 h0
 have e3:T*T≤P*P:=Nat.mul_le_mul g1 g1;have e4:P*P<4*(T*T):=by
  have:=Nat.mul_lt_mul'' g2 g2
  have h4:T*2*(T*2)=4*(T*T):=by
   calc T*2*(T*2)=(2*2)*(T*T):=by ac_rfl
    _=_:=rfl
  omega
 by_cases hl:2*unit≤A
 ·rw[if_pos hl] at hs;cases hs
  have e5:unit*(2*(T*T))≤unit*(P*P):=by
   calc unit*(2*(T*T))=2*unit*(T*T):=by ac_rfl
    _≤A*(T*T):=Nat.mul_le_mul_right _ hl
    _≤_:=e1
  have e6:2*(T*T)≤P*P:=Nat.le_of_mul_le_mul_left e5 h0;refine⟨⟨?_,?_⟩,?_,?_⟩
  ·simp only;rw[hO1,hP];exact e6
  ·simp only;rw[hO2,hP];exact e4
  ·simp only;rw[hO1,hP];have h5:A/2*2*(T*T)≤A*(T*T):=Nat.mul_le_mul_right _ (by omega)
   rw[Nat.mul_assoc] at h5;exact Nat.le_trans h5 e1
  ·simp only;rw[hO1,hP];have h5:(B+1)*(T*T)≤((B+1)/2+1)*2*(T*T):=Nat.mul_le_mul_right _ (by omega)
   rw[Nat.mul_assoc] at h5;exact Nat.le_trans e2 h5
 ·rw[if_neg hl] at hs
  by_cases hh:2*unit≤B+1
  ·rw[if_pos hh] at hs;cases hs
  ·rw[if_neg hh] at hs;cases hs
   have e7:unit*(P*P)<unit*(2*(T*T)):=by
    have hT:0<T*T:=by
     rcases Nat.eq_zero_or_pos (T*T) with h|h
     ·omega
     ·exact h
    calc unit*(P*P)≤(B+1)*(T*T):=e2
     _<2*unit*(T*T):=Nat.mul_lt_mul_of_pos_right (by omega) hT
     _=unit*(2*(T*T)):=by ac_rfl
   have e8:P*P<2*(T*T):=Nat.lt_of_mul_lt_mul_left e7;refine⟨⟨?_,?_⟩,?_,?_⟩
   ·simp only;rw[hO,hP];exact e3
   ·simp only;rw[hO1,hP];exact e8
   ·simp only;rw[hO,hP];exact e1
   ·simp only;rw[hO,hP];exact e2
theorem Zdt(p more:Nat)(hp:0<p)(hm:p.log2≤more):∀ n s,Vm p more n=some s→Zts p (2^more) (2^n) s
 | 0,s,h=>by
  simp only[Vm,Option.some.injEq] at h;subst h;refine⟨⟨?_,?_⟩,?_,?_⟩
  ·simp only[Nat.pow_zero,Nat.pow_one];exact Nat.log2_self_le (by omega)
  ·simp only[Nat.pow_zero,Nat.pow_one];exact Nat.lt_log2_self
  all_goals
   simp only[Nat.pow_zero,Nat.pow_one];rw[Nat.mul_assoc,← Nat.pow_add,Nat.sub_add_cancel hm,Nat.mul_comm];exact Nat.le_refl _
 | n+1,s,h=>by
  simp only[Vm] at h;obtain⟨t,ht,hs⟩:=Option.bind_eq_some_iff.1 h;have:=Zm1 (Nat.two_pow_pos more) (Zdt p more hp hm n t ht) hs
  rw[Nat.pow_succ,Nat.mul_comm];exact this
theorem Zug(H b:Nat)(hb:b<4):(H*4) ||| b=H*4+b:=by
 have:=Nat.shiftLeft_add_eq_or_of_lt (b:=b) (i:=2) hb H
 rw[Nat.shiftLeft_eq] at this;exact this.symm
theorem Zop(H L:Nat)(hH:H<4611686018427387904)(hL:L<18446744073709551616):bits .or .u64 ((H:Int)*4) ((L:Int)/4611686018427387904)=((H*4+L/4611686018427387904:Nat):Int):=by
 have h:=(bits_nat .u64 64 (by decide) (fun n h0 h1=>by rw[IntKind.wrap_u64];omega) (H*4) (L/4611686018427387904) (by omega) (by omega)).2
 rw[Zug H _ (by omega)] at h
 simpa using h
theorem Zen(p:Nat)(hp:0<p)(hp2:p≤97):Lib.bitLen p=p.log2+1:=by
 have key:∀ q,q<98→0<q→Lib.bitLen q=q.log2+1:=by decide +kernel
 exact key p (by omega) hp
structure Zz9 (j:Nat) (s:Nat×Nat×Nat):Prop where
 lo:s.1<9223372036854775808
 hi:s.2.1<9223372036854775808
 out:s.2.2+1≤7*2^j
theorem Zdu(p:Nat)(hp:2≤p)(hp2:p≤97):∀ j s,Vm p 62 j=some s→Zz9 j s
 | 0,s,h=>by
  simp only[Vm,Option.some.injEq] at h;subst h;have h1:p<2^(p.log2+1):=Nat.lt_log2_self;have h2:p.log2≤6:=by
   have:=(Nat.log2_lt (n:=p) (k:=7) (by omega)).2 (by omega)
   omega
  have h3:p*2^(62-p.log2)<2^(p.log2+1)*2^(62-p.log2):=Nat.mul_lt_mul_of_pos_right h1 (Nat.two_pow_pos _);rw[← Nat.pow_add,show p.log2+1+(62-p.log2)=63 by omega] at h3
  exact⟨h3,h3,by simp;omega⟩
 | j+1,s,h=>by
  simp only[Vm] at h;obtain⟨t,ht,hs⟩:=Option.bind_eq_some_iff.1 h;obtain⟨f1,f2,f3⟩:=Zdu p hp hp2 j t ht;obtain⟨l,g,o⟩:=t;simp only at f1 f2 f3;simp only[Qz] at hs;have q1:l*l≤9223372036854775807*9223372036854775807:=Nat.mul_le_mul (by omega) (by omega)
  have q2:g*g≤9223372036854775807*9223372036854775807:=Nat.mul_le_mul (by omega) (by omega)
  have e:2^(j+1)=2*2^j:=by rw[Nat.pow_succ];omega
  rw[show (2:Nat)^62=4611686018427387904 from rfl] at hs
  by_cases h1:2*4611686018427387904≤l*l/4611686018427387904
  ·rw[if_pos h1] at hs;cases hs
   exact⟨by simp only;omega,by simp only;omega,by simp only;omega⟩
  ·rw[if_neg h1] at hs
   by_cases h2:2*4611686018427387904≤g*g/4611686018427387904+1
   ·rw[if_pos h2] at hs;cases hs
   ·rw[if_neg h2] at hs;cases hs
    exact⟨by simp only;omega,by simp only;omega,by simp only;omega⟩
def Zgi (p:Nat):Value:=match Vm p 62 26 with
 | some s => .tuple #[.int .i64 s.2.2,.bool true]
 | none => .tuple #[.int .i64 0,.bool false]
theorem Zvg(w:World)(p:Nat)(hp:2≤p)(hp2:p≤97):Kc Tryz.prog 240 #[.int .i64 p] w (Zgi p):=by
 unfold Kc;have hln:=hd_ (Tryz.bits_Len p w (by omega) (by omega))
 rw[show ((p:Nat):Int).toNat=p from rfl,Zen p (by omega) hp2] at hln
 have hk:p.log2≤6:=by
  have:=(Nat.log2_lt (n:=p) (k:=7) (by omega)).2 (by omega)
  omega
 have hw1:IntKind.i64.wrap (((p.log2+1:Nat):Int)-1)=(p.log2:Int):=by rw[show ((p.log2+1:Nat):Int)-1=(p.log2:Int) by omega];exact iw_ _ (by omega)
 have hw2:IntKind.u64.wrap (p:Int)=p:=IntWalk.u64_in _ (by omega)
 have hw3:IntKind.i64.wrap (62-(p.log2:Int))=((62-p.log2:Nat):Int):=by rw[show 62-(p.log2:Int)=((62-p.log2:Nat):Int) by omega];exact iw_ _ (by omega)
 go_enter Tryz.func240,Tryz.ntmps240
 go_wp2_with fail
 refine cm_ hln.out ?_;rintro e w1 ⟨rfl,rfl⟩;have hw4:IntKind.u64.wrap ((p:Int)*2^(62-p.log2))=((p*2^(62-p.log2):Nat):Int):=by
  have h0:=(Zdu p hp hp2 0 _ rfl).lo;simp only at h0;rw[show ((p*2^(62-p.log2):Nat):Int)=(p:Int)*2^(62-p.log2) by simp]
  rw[← show ((p*2^(62-p.log2):Nat):Int)=(p:Int)*2^(62-p.log2) by simp]
  exact IntWalk.u64_in _ (by omega)
 have H0:Hid (Vm p 62 0=some (p*2^(62-p.log2),p*2^(62-p.log2),p.log2)):=rfl;have Hfit:=hd_ (Zdu p hp hp2);have Hmul:=hd_ (fun x hx=>Tryz.bits_Mul64 x x hx hx w1)
 clear hln
 go_wp2_with fail
 go_loopw [5,6,7,21] (fun a b c i wr=>∃ (j lo hi o:Nat),j≤26∧Hid (Vm p 62 j=some (lo,hi,o))∧a = .int .u64 lo∧b = .int .u64 hi∧c = .int .i64 o∧i = .int .i64 j∧wr=w1) (fun _ _ _ i _=>26-(intOf i).toNat)
 case atStart=>exact⟨0,_,_,_,by omega,H0,rfl,rfl,rfl,rfl,rfl⟩
 case round =>
  obtain⟨j,lo,hi,o,hj,Hd,rfl,rfl,rfl,rfl,rfl⟩:=hrel
  by_cases hlt:j<26
  ·have hlt':(j:Int)<26:=by omega
   obtain⟨f1,f2,f3⟩:=Hfit.out j _ Hd.out;simp only at f1 f2 f3;have hpw:2^j≤2^26:=Nat.pow_le_pow_right (by decide) (by omega)
   rw[show (2:Nat)^26=67108864 from rfl] at hpw
   have ho:o≤469762048:=by omega
   have q1:lo*lo≤9223372036854775807*9223372036854775807:=Nat.mul_le_mul (by omega) (by omega)
   have q2:hi*hi≤9223372036854775807*9223372036854775807:=Nat.mul_le_mul (by omega) (by omega)
   have hm1:=Hmul.out lo (by omega)
   have hm2:=Hmul.out hi (by omega)
   have Hstep:Hid (Vm p 62 (j+1)=Qz (2^62) (lo,hi,o)):=by
    show _=_
    simp only[Vm,Hd.out,Option.bind_some]
   have hh1:lo*lo/18446744073709551616<4611686018427387904:=by omega
   have hl1:lo*lo%18446744073709551616<18446744073709551616:=Nat.mod_lt _ (by decide)
   have hx1:lo*lo/18446744073709551616*4+lo*lo%18446744073709551616/4611686018427387904=lo*lo/4611686018427387904:=by omega
   have hh2:hi*hi/18446744073709551616<4611686018427387904:=by omega
   have hl2:hi*hi%18446744073709551616<18446744073709551616:=Nat.mod_lt _ (by decide)
   have hx2:hi*hi/18446744073709551616*4+hi*hi%18446744073709551616/4611686018427387904=hi*hi/4611686018427387904:=by omega
   have hb1:=Zop _ _ hh1 hl1;have hb2:=Zop _ _ hh2 hl2;rw[hx1] at hb1;rw[hx2] at hb2;have hX1:lo*lo/4611686018427387904≤18446744073709551612:=by omega
   have hX2:hi*hi/4611686018427387904≤18446744073709551612:=by omega
   simp only[Qz] at Hstep;rw[show (2:Nat)^62=4611686018427387904 from rfl] at Hstep
   clear f3 hpw hx1 hx2 q1 q2;generalize lo*lo/18446744073709551616=H1 at *
   generalize lo*lo%18446744073709551616=L1 at *
   generalize hi*hi/18446744073709551616=H2 at *
   generalize hi*hi%18446744073709551616=L2 at *
   generalize lo*lo/4611686018427387904=X1 at *
   generalize hi*hi/4611686018427387904=X2 at *
   clear f1 f2;obtain⟨x1,hx1⟩:∃ x1:Int,(X1:Int)=x1:=⟨_,rfl⟩;obtain⟨x2,hx2⟩:∃ x2:Int,(X2:Int)+1=x2:=⟨_,rfl⟩;have hwX:IntKind.u64.wrap ((X2:Int)+1)=(X2:Int)+1:=IntWalk.u64_in _ (by omega)
   have hx2':(X2:Int)=x2-1:=by omega
   rw[hx1] at hb1;rw[hx2'] at hb2 hwX;have hwX2:IntKind.u64.wrap (x2-1+1)=x2:=by rw[hwX];omega
   have Hx1:=hd_ hx1;have Hx2:=hd_ hx2;have hx1b:0≤x1∧x1≤18446744073709551612:=by omega
   have hx2b:1≤x2∧x2≤18446744073709551613:=by omega
   clear hwX hx1 hx2 hx2';have hwH1:IntKind.u64.wrap ((H1:Int)*4)=(H1:Int)*4:=IntWalk.u64_in _ (by omega)
   have hwH2:IntKind.u64.wrap ((H2:Int)*4)=(H2:Int)*4:=IntWalk.u64_in _ (by omega)
   clear hX1 hX2 hh1 hh2 hl1 hl2
   go_wp2_with fail
   refine cm_ hm1 ?_;rintro e w2 ⟨rfl,rfl⟩;clear hm1
   go_wp2_with fail
   refine cm_ hm2 ?_;rintro e w2 ⟨rfl,rfl⟩;clear hm2
   go_wp2_with fail
   ·rename_i hc1
    have Hst:Hid (Vm p 62 (j+1)=some (X1/2,(X2+1)/2+1,2*o+1)):=by
     show _=_
     rw[Hstep.out,if_pos (by have:=Hx1.out;omega)]
    go_roundw
    case rel=>exact⟨j+1,X1/2,(X2+1)/2+1,2*o+1,by omega,Hst,by rw[← Hx1.out];go_num,by rw[← Hx2.out];go_num,by go_num,by go_num,trivial⟩
    case measure=>simp[intOf];omega
   ·rename_i hc1 hc2
    have Hst:Hid (Vm p 62 (j+1)=none):=by
     show _=_
     rw[Hstep.out,if_neg (by have:=Hx1.out;omega),if_pos (by have:=Hx2.out;omega)]
    have Hnone:Hid (Zgi p = .tuple #[.int .i64 0,.bool false]):=by
     have key:∀ m,Vm p 62 (j+1+m)=none:=fun m=>by
      induction m with
      | zero=>exact Hst.out
      | succ m ih=>rw[← Nat.add_assoc];show (Vm p 62 (j+1+m)).bind _=none;rw[ih];rfl
     show _=_
     unfold Zgi;have:=key (25-j)
     rw[show j+1+(25-j)=26 by omega] at this
     rw[this]
    go_ret2
    exact⟨by rw[Hnone.out];rfl,Below.refl _ _⟩
   ·rename_i hc1 hc2
    have Hst:Hid (Vm p 62 (j+1)=some (X1,X2+1,2*o)):=by
     show _=_
     rw[Hstep.out,if_neg (by have:=Hx1.out;omega),if_neg (by have:=Hx2.out;omega)]
    go_roundw
    case rel=>exact⟨j+1,X1,X2+1,2*o,by omega,Hst,by rw[← Hx1.out],by rw[← Hx2.out];go_num,by go_num,by go_num,trivial⟩
    case measure=>simp[intOf];omega
  ·have hlt':¬ (j:Int)<26:=by omega
   have hj26:j=26:=by omega
   subst hj26;have Hsome:Hid (Zgi p = .tuple #[.int .i64 o,.bool true]):=by
    show _=_
    unfold Zgi;rw[Hd.out]
   go_wp2
   go_ret2
   exact⟨by rw[Hsome.out];rfl,Below.refl _ _⟩
end Go.Proofs.YtnjedhgcfeoemaaGreatDoor

namespace Go.Proofs.YtnjedhgcfeoemaaGreatDoor
open Go Go.Sort
section
variable {P:Program} {ops:Array Oper} {md:Region.Mode} {cs:List (Nat×(World→Prop))}
def Za3:Op→Bool
 | .move _ | .assign _ | .load _ _ | .fieldAddr _ _ _ | .indexAddr _ _ _ | .binOp _ _ _ _ _=>true
 | .call c=>match c.callee with
  | .builtin .min | .builtin .max | .builtin .len=>true
  | _=>false
 | _=>false
theorem Zrs{o:Oper}{a:Act}{w w':World}{f:FuncId}{args:Array Value}(ho:Za3 o.op=true)(h:(execOp a.eval o).run P w = .ok (.enter f args) w'):False:=by
 have cases5:(∃ x,o.op = .move x)∨(∃ x,o.op = .assign x)∨(∃ t x,o.op = .load t x)∨(∃ t x k,o.op = .fieldAddr t x k)∨(∃ t x y,o.op = .indexAddr t x y)∨(∃ b t x y r,o.op = .binOp b t x y r)∨(∃ c,o.op = .call c):=by
  cases hop:o.op<;>rw[hop] at ho<;>first | (simp[Za3] at ho;done) | simp
 rcases cases5 with⟨x,hop⟩|⟨x,hop⟩|⟨t,x,hop⟩|⟨t,x,k,hop⟩|⟨t,x,y,hop⟩|⟨b,t,x,y,r,hop⟩|⟨c,hop⟩
 ·rw[BigFrame.run_move x hop] at h;cases h
 ·rw[BigFrame.run_assign x hop] at h;cases h
 ·unfold execOp at h;rw[hop] at h;exact RP.value_no_enter h
 ·unfold execOp at h;rw[hop] at h;exact RP.value_no_enter h
 ·unfold execOp at h;rw[hop] at h;exact RP.value_no_enter h
 ·unfold execOp at h;rw[hop] at h;exact RP.value_no_enter h
 ·rw[hop] at ho;unfold execOp at h;rw[hop] at h;unfold Za3 at ho;simp only at ho h;unfold resolve at h;cases hc:c.callee with
  | value x=>rw[hc] at ho;cases ho
  | invoke x y=>rw[hc] at ho;cases ho
  | builtin b =>
   rw[hc] at ho h;simp only[Sem.run_bind,Sem.run_pure,Result.andThen_ok,invoke] at h;cases b<;>first | (simp at ho;done) | (unfold builtin at h;exact RP.value_no_enter h)
theorem Zfx{D:World→Prop}{o:Oper}{a:Act}{w:World}{v:Value}(ho:Za3 o.op=true)(h:o.quietAt P a D w v){K:Act→World→Prop}(hk:K (a.put o.dst v) w):o.wp P a w K (fun _ _ _=>False):=by
 unfold Oper.quietAt at h;unfold Oper.wp;have hne:=@Zrs P o a w;generalize (execOp a.eval o).run P w=r at *
 cases r with
 | ok n w' =>
  cases n<;>simp only[Oper.quietUpon] at h<;>simp only[Oper.upon]
  case value u=>obtain⟨rfl,rfl⟩:=h;exact hk
  case skip=>obtain⟨rfl,rfl⟩:=h;exact hk
  case enter f args=>exact(hne ho rfl).elim
 | halt x w'=>simp only[Oper.quietUpon] at h
def Yr:List (Nat×(World→Prop))→(Nat→Bool)→World→Prop
 | [],_,_=>True
 | c::cs,b,w=>(b c.1=true∨c.2 w)∧Yr cs b w
theorem Yr.get:∀ {cs:List (Nat×(World→Prop))} {b:Nat→Bool} {w:World},Yr cs b w→∀ c∈cs,b c.1=true∨c.2 w
 | [],_,_,_,c,hc=>by cases hc
 | d::cs,b,w,h,c,hc=>by
  rcases List.mem_cons.1 hc with rfl|hc
  ·exact h.1
  ·exact Yr.get h.2 c hc
theorem Yr.mono:∀ {cs:List (Nat×(World→Prop))} {b b':Nat→Bool} {w:World},(∀ s,b s=true→b' s=true)→Yr cs b w→Yr cs b' w
 | [],_,_,_,_,_=>trivial
 | _::_,_,_,_,hb,h=>⟨h.1.imp (hb _) id,Yr.mono hb h.2⟩
theorem Yr.congr{cs:List (Nat×(World→Prop))}{b b':Nat→Bool}{w:World}(hb:∀ s,b s=b' s)(h:Yr cs b w):Yr cs b' w:=h.mono (fun s hs=>by rw[← hb s];exact hs)
def upB (listed:Array Bool) (s:Nat):Bool:=listed.getD s false
def Zqg (P:Program) (md:Region.Mode) (ops:Array Oper) (cs:List (Nat×(World→Prop))) (Q:Act→World→Prop):Nat→Array Bool→Act→World→Prop
 | 0,listed,a,w=>Region.ready md ops listed=[]∧Q a w
 | f+1,listed,a,w=>Region.ready md ops listed≠[]∧∀ i∈Region.ready md ops listed,
   wpOp P ops (fun _ _ _=>False) i (fun a' w'=>Yr cs (upB (listed.setIfInBounds i true)) w'∧Zqg P md ops cs Q f (listed.setIfInBounds i true) a' w') a w
def Zr (P:Program) (ops:Array Oper) (md:Region.Mode) (cs:List (Nat×(World→Prop))) (i:Nat) (o:Oper) (v:Value) (a:Act):Prop :=
 (∃ c∈cs,RP.reachB md ops 4 c.1 i=true∧YieldsIn P ops c.2 o v a)∨YieldsIn P ops (fun _=>True) o v a
theorem Zr.of_same{i:Nat}{o:Oper}{v:Value}{a a':Act}(hy:Zr P ops md cs i o v a)(he:execOp a'.eval o=execOp a.eval o)
  (hw:Region.wanted o (yielded ops a'.tmps)=Region.wanted o (yielded ops a.tmps)):Zr P ops md cs i o v a' :=
 hy.imp (fun ⟨c,hc,h1,h2⟩=>⟨c,hc,h1,h2.of_same he hw⟩) (fun h=>h.of_same he hw)
theorem Zj5{i:Nat}{o:Oper}{v:Value}{a:Act}{w:World}{listed:Array Bool}(hi:ops[i]?=some o)(hne:Za3 o.op=true)(inv:RP.RInv md ops listed)(hr:i∈Region.ready md ops listed)(hs:Yr cs (upB listed) w)
  (hy:Zr P ops md cs i o v a) {K:Act→World→Prop} (hk:K (a.put o.dst v) w):wpOp P ops (fun _ _ _=>False) i K a w:=by
 have key:∀ D:World→Prop,D w→YieldsIn P ops D o v a→wpOp P ops (fun _ _ _=>False) i K a w:=fun D hD h=>by
  unfold wpOp;simp only[hi];rcases h with⟨h1,h2⟩|⟨h1,rfl⟩
  ·simp only[h1,if_true];exact .inl (Zfx hne (h2 w hD) hk)
  ·simp only[h1,Bool.false_eq_true,if_false];exact hk
 rcases hy with⟨c,hc,hw,h⟩|h
 ·refine key c.2 ?_ h;rcases hs.get c hc with hs|hs
  ·have:=RP.reach_listed inv 4 c.1 i hw hs
   rw[getD_both (mem_ready.1 hr).1] at this;cases this
  ·exact hs
 ·exact key _ trivial h
theorem Zqn{j:Nat}{oi oj:Oper}{v:Value}(hj:ops[j]?=some oj)(hap:oi.apart ops oj=true)
  (hsi:∀ cs b,oi.op ≠ .select cs b) (hsj:∀ cs b,oj.op ≠ .select cs b) {i:Nat} {K:Act→World→Prop} {a:Act} {w:World}
  (hy:Zr P ops md cs i oi v a) (h:wpOp P ops (fun _ _ _=>False) j K (a.put oi.dst v) w) :
  wpOp P ops (fun _ _ _=>False) j (fun a' w'=>Zr P ops md cs i oi v a'∧K (a'.put oi.dst v) w') a w:=by
 obtain⟨h1,h2,h3⟩:=Oper.apart_spec hap;have keep:∀ (a:Act),Zr P ops md cs i oi v a→∀ u,Zr P ops md cs i oi v (a.put oj.dst u):=fun a hy u =>
  hy.of_same (execOp_put oi hsi a oj.dst u h3) (wanted_put oi a oj.dst u h3)
 have keepd:∀ d,Zr P ops md cs i oi v ({ a with defers:=d::a.defers }:Act):=fun d=>hy.of_same rfl rfl
 unfold wpOp at *
 simp only[hj] at *
 rw[wanted_put oj a oi.dst v h1] at h;split
 ·rename_i hw
  simp only[hw,if_true] at h;left;rcases h with h|⟨_,_,_,hf⟩
  ·unfold Oper.wp at *
   rw[execOp_put oj hsj a oi.dst v h1] at h;generalize (execOp a.eval oj).run P w=r at *
   cases r with
   | ok n w' =>
    cases n<;>simp only[Oper.upon] at h ⊢
    case value u=>exact⟨keep a hy u,by rw[← Act.put_comm a v u h2];exact h⟩
    case skip=>exact⟨keep a hy undef,by rw[← Act.put_comm a v undef h2];exact h⟩
    case defer d =>
     refine⟨keep _ (keepd d) undef,?_⟩;rw[Act.put_defers] at h;rw[← Act.put_comm _ v undef h2];exact h
    case enter f args =>
     exact cm_ h (fun e w'' he=>by
      cases e
      case returned u=>exact⟨keep a hy u,by rw[← Act.put_comm a v u h2];exact he⟩
      case panicked c=>exact he
      case outgrown=>obtain⟨_,_,hf⟩:=he;exact hf.elim)
    case row row args=>exact Rows.mono h (fun u w'' he=>⟨keep a hy u,by rw[← Act.put_comm a v u h2];exact he⟩)
    all_goals exact h
   | halt x w'=>cases x<;>simp only[Oper.upon] at h<;>exact h.elim
  ·exact hf.elim
 ·rename_i hw
  simp only[hw] at h;exact⟨keep a hy _,by rw[← Act.put_comm a v undef h2];exact h⟩
theorem Znd{i:Nat}{oi:Oper}{v:Value}{Q:Act→World→Prop}(hi:ops[i]?=some oi)(his:∀ c∈cs,i≠c.1)(hne:Za3 oi.op=true)(hsel:∀ (j:Nat) (o:Oper) cs b,ops[j]?=some o→o.op ≠ .select cs b):
  ∀ (f:Nat) (listed:Array Bool) (a:Act) (w:World),RP.RInv md ops listed →
   (∀ j oj,ops[j]?=some oj→j≠i→listed.getD j true=false→(∀ e∈oj.after,Region.binds md e=true→e.on≠i)→oi.apart ops oj=true) →
   i∈Region.ready md ops listed→Zr P ops md cs i oi v a→Yr cs (upB listed) w →
   Zqg P md ops cs Q f (listed.setIfInBounds i true) (a.put oi.dst v) w→Zqg P md ops cs Q (f+1) listed a w:=by
 have hstep:∀ (listed:Array Bool) (w:World),Yr cs (upB listed) w→Yr cs (upB (listed.setIfInBounds i true)) w:=fun listed w h=>h.mono (fun s hs=>getD_set_true hs)
 have hback:∀ (cs':List (Nat×(World→Prop))),(∀ c∈cs',i≠c.1)→∀ (listed:Array Bool) (w:World),Yr cs' (upB (listed.setIfInBounds i true)) w→Yr cs' (upB listed) w:=by
  intro cs'
  induction cs' with
  | nil=>intro _ _ _ _;trivial
  | cons c cs' ih =>
   intro hi' listed w h;refine⟨h.1.imp (fun hb=>?_) id,ih (fun d hd=>hi' d (List.mem_cons_of_mem _ hd)) listed w h.2⟩
   unfold upB at hb ⊢;rw[getD_set_ne false (hi' c (List.mem_cons_self ..))] at hb;exact hb
 intro f
 induction f with
 | zero =>
  intro listed a w inv _ hr hy hs H;refine⟨fun h=>(by rw[h] at hr;cases hr),fun j hj=>?_⟩
  by_cases hji:j=i
  ·subst hji;exact Zj5 hi hne inv hr hs hy ⟨hstep _ _ hs,H⟩
  ·have:=ready_mono hj hji
   rw[H.1] at this;cases this
 | succ f ih =>
  intro listed a w inv hfree hr hy hs H;have hun:=(mem_ready.1 hr).1;refine⟨fun h=>(by rw[h] at hr;cases hr),fun j hj=>?_⟩
  by_cases hji:j=i
  ·subst hji;exact Zj5 hi hne inv hr hs hy ⟨hstep _ _ hs,H⟩
  ·have h1:=H.2 j (ready_mono hj hji);obtain⟨hjun,oj,hoj,hall⟩:=mem_ready.1 hj;have hnot:∀ e∈oj.after,Region.binds md e=true→e.on≠i:=fun e he hb heq=>by
    have h1:=hall e he hb;rw[heq,getD_both hun] at h1;cases h1
   have h2:=Zqn hoj (hfree j oj hoj hji hjun hnot) (fun cs b=>hsel i oi cs b hi) (fun cs b=>hsel j oj cs b hoj) hy h1
   have hfree':∀ k ok,ops[k]?=some ok→k≠i→(listed.setIfInBounds j true).getD k true=false →
     (∀ e∈ok.after,Region.binds md e=true→e.on≠i)→oi.apart ops ok=true:=fun k ok hk hki hun hno=>by
    refine hfree k ok hk hki ?_ hno
    by_cases hjk:j=k
    ·subst hjk;exact hjun
    ·rw[getD_set_ne true hjk] at hun;exact hun
   have hr':=ready_mono hr (Ne.symm hji);refine wpOp_mono (fun a' w' h3=>?_) h2
   obtain⟨hy',hs',H'⟩:=h3;have hs2:Yr cs (upB (listed.setIfInBounds j true)) w':=by
    rw[Array.setIfInBounds_comm _ _ (Ne.symm hji)] at hs';exact hback cs his _ _ hs'
   refine⟨hs2,ih (listed.setIfInBounds j true) a' w' (inv.set hj) hfree' hr' hy' hs2 ?_⟩;rw[Array.setIfInBounds_comm _ _ hji];exact H'
def Zpi (md:Region.Mode) (ops:Array Oper) (ss:List Nat):List (Nat×Nat)→Array Bool→Bool
 | [],listed=>(Region.ready md ops listed).isEmpty
 | (k,i)::l,listed =>
  (if k=0 then decide (Region.ready md ops listed=[i])
  else (Region.ready md ops listed).contains i&&Region.free md ops listed i&&(match ops[i]? with | some o=>Za3 o.op | none=>false)&&(ss.all fun s=>decide (i≠s))&&(k==1||RP.reachB md ops 4 (k-2) i)) &&
  Zpi md ops ss l (listed.setIfInBounds i true)
def Vq (P:Program) (ops:Array Oper) (cs:List (Nat×(World→Prop))) (Q:Act→World→Prop):List (Nat×Nat)→(Nat→Bool)→Act→World→Prop
 | [],_,a,w=>Q a w
 | (k,i)::l,b,a,w =>
  if k=0 then wpList P ops (fun e a' w'=>e = .normal∧Yr cs (fun s=>b s||i==s) w'∧Vq P ops cs Q l (fun s=>b s||i==s) a' w') (ops[i]?).toList a w
  else if k=1 then wpQuiet P ops (fun _=>True) (fun a'=>Vq P ops cs Q l b a' w) (ops[i]?).toList a
  else ∃ c∈cs,c.1=k-2∧wpQuiet P ops c.2 (fun a'=>Vq P ops cs Q l b a' w) (ops[i]?).toList a
theorem Yr.congr_on:∀ {cs:List (Nat×(World→Prop))} {b b':Nat→Bool} {w:World},(∀ c∈cs,b c.1=b' c.1)→Yr cs b w→Yr cs b' w
 | [],_,_,_,_,_=>trivial
 | c::cs,b,b',w,hb,h=>⟨h.1.imp (fun h1=>by rw[← hb c (List.mem_cons_self ..)];exact h1) id,Yr.congr_on (fun d hd=>hb d (List.mem_cons_of_mem _ hd)) h.2⟩
theorem Zeo{Q:Act→World→Prop}(hsel:Region.noSelect ops=true):
  ∀ (l:List (Nat×Nat)) (b:Nat→Bool) (listed:Array Bool) (a:Act) (w:World),(∀ c∈cs,b c.1=upB listed c.1)→RP.RInv md ops listed→Yr cs (upB listed) w→Zpi md ops (cs.map Prod.fst) l listed=true →
   Vq P ops cs Q l b a w→Zqg P md ops cs Q l.length listed a w
 | [],b,listed,a,w,_,_,_,hB,h=>⟨by simpa [Zpi] using hB,h⟩
 | (k,i)::l,b,listed,a,w,hb,inv,hs,hB,h=>by
  simp only[Zpi,Bool.and_eq_true] at hB;obtain⟨hB1,hB2⟩:=hB
  by_cases hk:k=0
  ·subst hk;simp only[if_true,decide_eq_true_eq] at hB1;have hr:i∈Region.ready md ops listed:=by rw[hB1];exact List.mem_singleton.2 rfl
   obtain⟨hun,o,ho,_⟩:=mem_ready.1 hr;have hlt:i<listed.size:=by rw[inv.size];exact(Array.getElem?_eq_some_iff.1 ho).1
   have hgs:∀ c∈cs,(b c.1||i==c.1)=upB (listed.setIfInBounds i true) c.1:=fun c hc=>by
    rw[hb c hc];unfold upB
    by_cases his:i=c.1
    ·rw[his] at hlt ⊢;simp[hlt]
    ·rw[getD_set_ne false his];simp[his]
   refine⟨by rw[hB1];simp,fun j hj=>?_⟩
   rw[hB1] at hj;obtain rfl:=List.mem_singleton.1 hj;simp only[Vq,if_true,ho,Option.toList] at h;have h2:wpOp P ops (fun e a' w'=>e = .normal∧Yr cs (fun s=>b s||j==s) w'∧Vq P ops cs Q l (fun s=>b s||j==s) a' w') j (fun a' w'=>Yr cs (fun s=>b s||j==s) w'∧Vq P ops cs Q l (fun s=>b s||j==s) a' w') a w:=by
    unfold wpOp;simp only[ho];simp only[wpList,true_and] at h;exact h
   have h3:=RP.wpOp_strong (fun e a' w' hq=>hq.1) h2
   refine wpOp_mono (fun a' w' h4=>?_) h3
   have hs2:Yr cs (upB (listed.setIfInBounds j true)) w':=h4.1.congr_on hgs;exact⟨hs2,Zeo hsel l _ _ a' w' hgs (inv.set hr) hs2 hB2 h4.2⟩
  ·rw[if_neg hk] at hB1;simp only[Bool.and_eq_true,Bool.or_eq_true,beq_iff_eq,List.all_eq_true,decide_eq_true_eq] at hB1;obtain⟨⟨⟨⟨hr,hf⟩,hne⟩,his⟩,hw⟩:=hB1;have hr':i∈Region.ready md ops listed:=by simpa using hr
   obtain⟨_,o,ho,_⟩:=mem_ready.1 hr';have hne':Za3 o.op=true:=by rw[ho] at hne;exact hne
   have his':∀ c∈cs,i≠c.1:=fun c hc=>his c.1 (List.mem_map.2 ⟨c,hc,rfl⟩)
   have hs2:Yr cs (upB (listed.setIfInBounds i true)) w:=hs.mono (fun s hs=>getD_set_true hs)
   simp only[Vq,if_neg hk] at h;have hread:∃ v,Zr P ops md cs i o v a∧Vq P ops cs Q l b (a.put o.dst v) w:=by
    by_cases h2:k=1
    ·rw[if_pos h2] at h;obtain⟨v,hy,hK⟩:=yieldsIn_of_qOp ho (RP.qOp_of_list ho h);exact⟨v,.inr hy,hK⟩
    ·rw[if_neg h2] at h;obtain⟨c,hc,hck,h⟩:=h;obtain⟨v,hy,hK⟩:=yieldsIn_of_qOp ho (RP.qOp_of_list ho h);exact⟨v,.inl ⟨c,hc,by rw[hck];exact hw.resolve_left h2,hy⟩,hK⟩
   obtain⟨v,hy,hK⟩:=hread;have hb2:∀ c∈cs,b c.1=upB (listed.setIfInBounds i true) c.1:=fun c hc=>by
    rw[hb c hc];unfold upB;rw[getD_set_ne false (his' c hc)]
   exact Znd ho his' hne' (Region.noSelect_spec hsel) l.length listed a w inv (Region.free_spec ho hf) hr' hy hs
    (Zeo hsel l b _ _ w hb2 (inv.set hr') hs2 hB2 hK)
theorem Zyx{ord:List (Nat×Nat)}{l:List Oper}{a:Act}{w:World}{Q:Act→World→Prop}(hsel:Region.noSelect l.toArray=true)(hord:Zpi .any l.toArray (cs.map Prod.fst) ord (Array.replicate l.length false)=true)
  (hC:Yr cs (fun _=>false) w) (h:Vq P l.toArray cs Q ord (fun _=>false) a w):Zqg P .any l.toArray cs Q ord.length (Array.replicate l.length false) a w:=by
 have hf:∀ s,upB (Array.replicate l.length false) s=false:=fun s=>getD_replicate_false _ _
 refine Zeo hsel ord _ _ a w (fun c _=>(hf c.1).symm) ⟨by simp,fun j oj _ hl=>(by rw[getD_replicate_false] at hl;cases hl)⟩ (hC.congr_on (fun c _=>(hf c.1).symm)) hord h
theorem Zg5{i l0 n:Nat}{a:Act}{w:World}{K K':Act→World→Prop}{Q':Exit→Act→World→Prop}(hnd:∀ o c,ops[i]?=some o→o.op ≠ .defer c)(_hnr:∀ o c,ops[i]?=some o→o.op ≠ .go c)(hk:∀ a w,K a w→K' a w)
  (h:wpOp P ops (fun _ _ _=>False) i K a w):wpOpIn (Fence.wide.inRound l0) n P ops Q' i K' a w:=by
 unfold wpOp at h;unfold wpOpIn;split
 ·rename_i ho;simp only[ho] at h;exact hk _ _ h
 ·rename_i o ho
  simp only[ho] at h;split
  ·rename_i hw
   simp only[hw,if_true] at h;rcases h with h|⟨_,_,_,hf⟩
   ·refine⟨fun _ _=>trivial,?_⟩
    unfold Oper.wp at h;rw[show (Fence.wide.inRound l0).round=some l0 from rfl,Oper.semAt_some l0 _ _ (fun c=>hnd o c ho)]
    generalize (execOp a.eval o).run P w=r at *
    cases r with
    | ok x w' =>
     cases x<;>simp only[Oper.upon,Oper.uponIn] at h ⊢
     case value=>exact hk _ _ h
     case skip=>exact hk _ _ h
     case defer=>exact hk _ _ h
     case enter f args =>
      refine⟨fun hd=>(by cases hd),?_⟩
      have h2:=Calls.mono h (R':=fun e w''=>match e,w'' with
       | .returned v,w''=>K' (a.put o.dst v) w''
       | .panicked chain,w''=>Q' (.panic chain) a w''
       | .outgrown,_=>LetsOut Q') (fun e w'' he=>by cases e<;>first | exact hk _ _ he | exact he.elim | (obtain⟨_,_,hf⟩:=he;exact hf.elim))
      exact CallsIn.inRound l0 (callsIn_wide.2 h2)
     case row row args=>exact⟨fun hd=>(by cases hd),fun c cs _=>let ⟨v,w',r,s⟩:=h c cs;⟨v,w',hk _ _ r,stepsIn_wide.2 s⟩⟩
    | halt x w'=>cases x<;>simp only[Oper.upon] at h<;>exact h.elim
   ·exact hf.elim
  ·rename_i hw;simp only[hw] at h;exact⟨fun _ _=>trivial,hk _ _ h⟩
def Zis (ops:Array Oper):Bool:=ops.all fun o=>match o.op with | .defer _ | .go _=>false | _=>true
theorem Zdm{ops:Array Oper}(h:Zis ops=true){i:Nat}{o:Oper}(hi:ops[i]?=some o):(∀ c,o.op ≠ .defer c)∧(∀ c,o.op ≠ .go c):=by
 have hm:o∈ops:=Array.mem_of_getElem? hi;have:=Array.all_eq_true'.1 h o hm
 refine⟨fun c hc=>?_,fun c hc=>?_⟩<;>rw[hc] at this<;>cases this
theorem Zg1{l0 n:Nat}{Q:Act→World→Prop}{Q':Exit→Act→World→Prop}(hpl:Zis ops=true)(hQ:∀ a w,Q a w→Q' .normal a w):
  ∀ (f:Nat) (listed:Array Bool) (a:Act) (w:World),Zqg P md ops cs Q f listed a w→wpAnyIn (Fence.wide.inRound l0) n P md ops Q' f listed a w
 | 0,_,_,_,h=>⟨h.1,hQ _ _ h.2⟩
 | f+1,_,_,_,h=>⟨fun h0=>absurd h0 h.1,fun i hi=>Zg5 (fun _ c ho=>(Zdm hpl ho).1 c) (fun _ c ho=>(Zdm hpl ho).2 c) (fun a' w' h'=>Zg1 hpl hQ f _ a' w' h'.2) (h.2 i hi)⟩
theorem Qn{id l0 n:Nat}{Q:Exit→Act→World→Prop}{a:Act}{w:World}{l:List Oper}(ord:List (Nat×Nat))(cs:List (Nat×(World→Prop)))(hm:P.follows .mixedOrders=true)
  (hB:(Region.noSelect l.toArray&&decide (ord.length=l.length)&&Zis l.toArray&&Zpi .any l.toArray (cs.map Prod.fst) ord (Array.replicate l.length false))=true)
  (hC:Yr cs (fun _=>false) { w with drawn:=w.drawn+1 }) (h:Vq P l.toArray cs (fun a' w'=>Q .normal a' w') ord (fun _=>false) a { w with drawn:=w.drawn+1 }):(Code.region id l.toArray true).wpIn (Fence.wide.inRound l0) n P Q a w:=by
 simp only[Bool.and_eq_true,decide_eq_true_eq] at hB;obtain⟨⟨⟨hsel,hlen⟩,hpl⟩,hord⟩:=hB;refine wpIn_region_any hm ?_;have:=Zg1 (l0:=l0) (n:=n) (Q':=Q) hpl (fun a w h=>h) _ _ _ _ (Zyx hsel hord hC h)
 rw[hlen] at this
 simpa using this
theorem Qw{s i:Nat}{Q:Act→World→Prop}{l:List (Nat×Nat)}{b:Nat→Bool}{a:Act}{w:World}{lo:List Oper}(c:Nat×(World→Prop))(hc:c∈cs)(hs:c.1=s)(h:wpQuiet P lo.toArray c.2 (fun a'=>Vq P lo.toArray cs Q l b a' w) ((lo.drop i).take 1) a):Vq P lo.toArray cs Q ((s+2,i)::l) b a w:=by
 simp only[Vq,RP.pick_one];rw[if_neg (by omega),if_neg (by omega)]
 exact⟨c,hc,by omega,h⟩
theorem Vh{i:Nat}{Q:Act→World→Prop}{l:List (Nat×Nat)}{b:Nat→Bool}{a:Act}{w:World}{lo:List Oper}(h:wpQuiet P lo.toArray (fun _=>True) (fun a'=>Vq P lo.toArray cs Q l b a' w) ((lo.drop i).take 1) a):Vq P lo.toArray cs Q ((1,i)::l) b a w:=by
 simp only[Vq,RP.pick_one];exact h
theorem Kz{i:Nat}{Q:Act→World→Prop}{l:List (Nat×Nat)}{b:Nat→Bool}{a:Act}{w:World}{lo:List Oper}
  (h:wpList P lo.toArray (fun e a' w'=>e = .normal∧Yr cs (fun s=>b s||i==s) w'∧Vq P lo.toArray cs Q l (fun s=>b s||i==s) a' w') ((lo.drop i).take 1) a w):Vq P lo.toArray cs Q ((0,i)::l) b a w:=by
 simp only[Vq,RP.pick_one];exact h
end
end Go.Proofs.YtnjedhgcfeoemaaGreatDoor
