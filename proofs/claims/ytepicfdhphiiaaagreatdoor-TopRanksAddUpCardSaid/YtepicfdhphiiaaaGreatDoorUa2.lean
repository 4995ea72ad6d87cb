/- Lemmas for the laws of this seat, part 2. -/
import Derived.StillTail
import Derived.Lib.QuietBelow
import Derived.BigQuiet
import Derived.Maps.AppendAt
import Derived.Laws.BitsLemmas
import Derived.RangeFuncNested
import Derived.RangeFuncBound
import Derived.RangeFuncCalls
import Derived.RangeFuncLeaves
import Derived.Shelf.Abstract
import Derived.Shelf.RegionOpen
import Derived.OwnWalkIn
import Derived.TacticsInMore
import Derived.LoopNIn
import Derived.LoopIn
import Derived.Laws.Bits64
import Derived.RegionIn
import Derived.BigRegionIn
import Derived.WalkMore
import Derived.Scope
import Derived.Great.BuildSlice
import Derived.Laws.StructEq
import Derived.Lib.Join
import Derived.Shelf.Strings.OnBuilder
import Derived.Test.YtepicfdhphiiaaaGreatDoorUa1
set_option maxRecDepth 100000
set_option maxHeartbeats 16000000
namespace Go.Proofs.YtepicfdhphiiaaaGreatDoor
open Go.RowKit
theorem jz_same(a b:Int)(h:decide (a<0)=decide (b<0)):jz (decide (a<0)) (a.natAbs+b.natAbs)=a+b:=by
 unfold jz
 by_cases h1:a<0
 ·rw[decide_eq_true h1] at h ⊢;have h2:b<0:=by simpa using h.symm
  rw[if_pos rfl];omega
 ·rw[decide_eq_false h1] at h ⊢;have h2:¬ b<0:=by simpa using h.symm
  rw[if_neg (by decide)];omega
theorem jz_diff(a b:Int)(h:¬ decide (a<0)=decide (b<0))(h2:¬ a.natAbs<b.natAbs):jz (decide (a<0)) (a.natAbs-b.natAbs)=a+b:=by
 unfold jz
 by_cases h1:a<0
 ·rw[decide_eq_true h1] at h ⊢;have h3:¬ b<0:=fun hb=>h (by rw[decide_eq_true hb])
  rw[if_pos rfl];omega
 ·rw[decide_eq_false h1] at h ⊢;have h3:b<0:=by
   rcases Int.lt_or_le b 0 with hb|hb
   ·exact hb
   ·exact absurd (by rw[decide_eq_false (by omega)]) h
  rw[if_neg (by decide)];omega
theorem addz_any(w:World)(a b:Int)(ha:ZNum a)(hb:ZNum b)(hab:Num (a.natAbs+b.natAbs))(L:Laid w):
  Gives Tryz.prog 81 #[.string (itx a),.string (itx b)] w (.string (itx (a+b))):=by
 unfold Gives;have Hl1:=hd_ (fun W=>littlez_any W a ha 18 (by decide));have Hl2:=hd_ (fun W=>littlez_any W b hb 18 (by decide));have Hsa:=hd_ (fun W=>split_any W a);have Hsb:=hd_ (fun W=>split_any W b);have Had:Hid (∀ W,Below w.heap.size w W→Gives Tryz.prog 120 #[.string (dec a.natAbs),.string (dec b.natAbs)] W (.string (dec (a.natAbs+b.natAbs)))):=fun W hW=>add_any W a.natAbs b.natAbs ha hb (L.below hW)
 have Hcm:=hd_ (fun W=>compareS_any W a.natAbs b.natAbs (Nat.le_trans ha (by decide)) (Nat.le_trans hb (by decide)));have Hsu:Hid (∀ W,Below w.heap.size w W→¬ a.natAbs<b.natAbs→Gives Tryz.prog 121 #[.string (dec a.natAbs),.string (dec b.natAbs)] W (.tuple #[.string (dec (a.natAbs-b.natAbs)),.int .i64 0])):=fun W hW h=>by
  have:=sub_any W a.natAbs b.natAbs ha hb (L.below hW)
  rw[if_neg h] at this;exact this
 have Hsv:Hid (∀ W,Below w.heap.size w W→¬ b.natAbs<a.natAbs→Gives Tryz.prog 121 #[.string (dec b.natAbs),.string (dec a.natAbs)] W (.tuple #[.string (dec (b.natAbs-a.natAbs)),.int .i64 0])):=fun W hW h=>by
  have:=sub_any W b.natAbs a.natAbs hb ha (L.below hW)
  rw[if_neg h] at this;exact this
 have Hj1:Hid (decide (a<0)=decide (b<0)→∀ W,Gives Tryz.prog 119 #[.bool (decide (a<0)),.string (dec (a.natAbs+b.natAbs))] W (.string (itx (a+b)))):=fun h W=>by
  have:=join_any W (decide (a<0)) (a.natAbs+b.natAbs) hab
  rw[jz_same a b h] at this;exact this
 have Hj2:Hid (¬ decide (a<0)=decide (b<0)→¬ a.natAbs<b.natAbs→∀ W,Gives Tryz.prog 119 #[.bool (decide (a<0)),.string (dec (a.natAbs-b.natAbs))] W (.string (itx (a+b)))):=fun h h2 W=>by
  have:=join_any W (decide (a<0)) (a.natAbs-b.natAbs) (hab.le (by omega))
  rw[jz_diff a b h h2] at this;exact this
 have Hj3:Hid (¬ decide (a<0)=decide (b<0)→¬ b.natAbs<a.natAbs→∀ W,Gives Tryz.prog 119 #[.bool (decide (b<0)),.string (dec (b.natAbs-a.natAbs))] W (.string (itx (a+b)))):=fun h h2 W=>by
  have:=join_any W (decide (b<0)) (b.natAbs-a.natAbs) (hab.le (by omega))
  rw[jz_diff b a (fun e=>h e.symm) h2,Int.add_comm b a] at this;exact this
 by_cases h1:(itx a).size≤18
 ·rw[if_pos h1] at Hl1
  by_cases h2:(itx b).size≤18
  ·rw[if_pos h2] at Hl2;have q1:=itx_lim a 18 (by decide) h1;have q2:=itx_lim b 18 (by decide) h2;have q4 : -9223372036854775808≤a+b∧a+b≤9223372036854775807:=by omega
   have hwr:IntKind.i64.wrap (a+b)=a+b:=iw_ _ q4;have Hof:Hid (∀ W,Below w.heap.size w W→Gives Tryz.prog 83 #[.int .i64 (a+b)] W (.string (itx (a+b)))):=fun W hW=>ofz_any W (a+b) q4.1 q4.2 (L.below hW)
   clear L q1 q2 Hj1 Hj2 Hj3 Had Hsu Hsv Hsa Hsb Hcm;generalize itx a=s at *;generalize itx b=t at *;go_enter Tryz.func81,Tryz.ntmps81;go_wp2_with fail;refine cm_ (Hl1.out w) ?_;rintro e w1 ⟨rfl,hb1⟩;have Hb1:=hd_ hb1;clear hb1 Hl1;go_wp2_with fail;refine cm_ (Hl2.out w1) ?_;rintro e w2 ⟨rfl,hb2⟩;have Hb2:=bt_ Hb1 hb2;clear hb2 Hb1 Hl2;go_wp2_with fail;refine cm_ (Hof.out w2 Hb2.out) ?_;rintro e w3 ⟨rfl,hb3⟩;have Hb3:=bt_ Hb2 hb3;clear hb3 Hb2 Hof;go_wp2;go_ret;exact⟨rfl,Hb3.out⟩
  ·rw[if_neg h2] at Hl2;clear L
   by_cases hs:decide (a<0)=decide (b<0)
   ·have Hj:=hd_ (Hj1.out hs);clear Hj1 Hj2 Hj3 Hcm Hsu Hsv;rw[← hs] at Hsb;clear hs;generalize itx a=s at *;generalize itx b=t at *;generalize dec (a.natAbs+b.natAbs)=pa at *;generalize dec (a.natAbs-b.natAbs)=ps at *;generalize dec (b.natAbs-a.natAbs)=pt at *;generalize dec a.natAbs=sm at *;generalize dec b.natAbs=tm at *;generalize decide (a<0)=na at *;go_enter Tryz.func81,Tryz.ntmps81;go_wp2_with fail;refine cm_ (Hl1.out w) ?_;rintro e w1 ⟨rfl,hb1⟩;have Hb1:=hd_ hb1;clear hb1 Hl1;go_wp2_with fail;refine cm_ (Hl2.out w1) ?_;rintro e w2 ⟨rfl,hb2⟩;have Hb2:=bt_ Hb1 hb2;clear hb2 Hb1 Hl2;go_wp2_with fail;refine cm_ (Hsa.out w2) ?_;rintro e w3 ⟨rfl,hb3⟩;have Hb3:=bt_ Hb2 hb3;clear hb3 Hb2 Hsa;go_wp2_with fail;refine cm_ (Hsb.out w3) ?_;rintro e w4 ⟨rfl,hb4⟩;have Hb4:=bt_ Hb3 hb4;clear hb4 Hb3 Hsb;go_wp2_with fail;refine cm_ (Had.out w4 Hb4.out) ?_;rintro e w5 ⟨rfl,hb5⟩;have Hb5:=bt_ Hb4 hb5;clear hb5 Hb4 Had;go_wp2_with fail;refine cm_ (Hj.out w5) ?_;rintro e w6 ⟨rfl,hb6⟩;have Hb6:=bt_ Hb5 hb6;clear hb6 Hb5 Hj;go_wp2;go_ret;exact⟨rfl,Hb6.out⟩
   ·by_cases hc:a.natAbs<b.natAbs
    ·have Hj:=hd_ (Hj3.out hs (by omega));have Hss:=hd_ (fun W hW=>Hsv.out W hW (by omega));have hcv:cmpN a.natAbs b.natAbs = -1:=by unfold cmpN;rw[if_pos hc]
     rw[hcv] at Hcm;have hnb:(decide (a<0)==decide (b<0))=false:=by rw[beq_eq_false_iff_ne];exact hs
     clear Hj1 Hj2 Hj3 Had Hsu Hsv hcv hs hc;generalize itx a=s at *;generalize itx b=t at *;generalize dec (a.natAbs+b.natAbs)=pa at *;generalize dec (a.natAbs-b.natAbs)=ps at *;generalize dec (b.natAbs-a.natAbs)=pt at *;generalize dec a.natAbs=sm at *;generalize dec b.natAbs=tm at *;generalize decide (a<0)=na at *;generalize decide (b<0)=nb at *;go_enter Tryz.func81,Tryz.ntmps81;go_wp2_with fail;refine cm_ (Hl1.out w) ?_;rintro e w1 ⟨rfl,hb1⟩;have Hb1:=hd_ hb1;clear hb1 Hl1;go_wp2_with fail;refine cm_ (Hl2.out w1) ?_;rintro e w2 ⟨rfl,hb2⟩;have Hb2:=bt_ Hb1 hb2;clear hb2 Hb1 Hl2;go_wp2_with fail;refine cm_ (Hsa.out w2) ?_;rintro e w3 ⟨rfl,hb3⟩;have Hb3:=bt_ Hb2 hb3;clear hb3 Hb2 Hsa;go_wp2_with fail;refine cm_ (Hsb.out w3) ?_;rintro e w4 ⟨rfl,hb4⟩;have Hb4:=bt_ Hb3 hb4;clear hb4 Hb3 Hsb;go_wp2_with fail;refine cm_ (Hcm.out w4) ?_;rintro e w5 ⟨rfl,hb5⟩;have Hb5:=bt_ Hb4 hb5;clear hb5 Hb4 Hcm;go_wp2_with fail;refine cm_ (Hss.out w5 Hb5.out) ?_;rintro e w6 ⟨rfl,hb6⟩;have Hb6:=bt_ Hb5 hb6;clear hb6 Hb5 Hss;go_wp2_with fail;refine cm_ (Hj.out w6) ?_;rintro e w7 ⟨rfl,hb7⟩;have Hb7:=bt_ Hb6 hb7;clear hb7 Hb6 Hj;go_wp2;go_ret;exact⟨rfl,Hb7.out⟩
    ·have Hj:=hd_ (Hj2.out hs hc);have Hss:=hd_ (fun W hW=>Hsu.out W hW hc);have hcn:¬ cmpN a.natAbs b.natAbs<0:=by unfold cmpN;rw[if_neg hc];split<;>omega
     have hnb:(decide (a<0)==decide (b<0))=false:=by rw[beq_eq_false_iff_ne];exact hs
     clear Hj1 Hj2 Hj3 Had Hsu Hsv hs hc;generalize cmpN a.natAbs b.natAbs=cn at *;generalize itx a=s at *;generalize itx b=t at *;generalize dec (a.natAbs+b.natAbs)=pa at *;generalize dec (a.natAbs-b.natAbs)=ps at *;generalize dec (b.natAbs-a.natAbs)=pt at *;generalize dec a.natAbs=sm at *;generalize dec b.natAbs=tm at *;generalize decide (a<0)=na at *;generalize decide (b<0)=nb at *;go_enter Tryz.func81,Tryz.ntmps81;go_wp2_with fail;refine cm_ (Hl1.out w) ?_;rintro e w1 ⟨rfl,hb1⟩;have Hb1:=hd_ hb1;clear hb1 Hl1;go_wp2_with fail;refine cm_ (Hl2.out w1) ?_;rintro e w2 ⟨rfl,hb2⟩;have Hb2:=bt_ Hb1 hb2;clear hb2 Hb1 Hl2;go_wp2_with fail;refine cm_ (Hsa.out w2) ?_;rintro e w3 ⟨rfl,hb3⟩;have Hb3:=bt_ Hb2 hb3;clear hb3 Hb2 Hsa;go_wp2_with fail;refine cm_ (Hsb.out w3) ?_;rintro e w4 ⟨rfl,hb4⟩;have Hb4:=bt_ Hb3 hb4;clear hb4 Hb3 Hsb;go_wp2_with fail;refine cm_ (Hcm.out w4) ?_;rintro e w5 ⟨rfl,hb5⟩;have Hb5:=bt_ Hb4 hb5;clear hb5 Hb4 Hcm;go_wp2_with fail;refine cm_ (Hss.out w5 Hb5.out) ?_;rintro e w6 ⟨rfl,hb6⟩;have Hb6:=bt_ Hb5 hb6;clear hb6 Hb5 Hss;go_wp2_with fail;refine cm_ (Hj.out w6) ?_;rintro e w7 ⟨rfl,hb7⟩;have Hb7:=bt_ Hb6 hb7;clear hb7 Hb6 Hj;go_wp2;go_ret;exact⟨rfl,Hb7.out⟩
 ·rw[if_neg h1] at Hl1;clear L Hl2
  by_cases hs:decide (a<0)=decide (b<0)
  ·have Hj:=hd_ (Hj1.out hs);clear Hj1 Hj2 Hj3 Hcm Hsu Hsv;rw[← hs] at Hsb;clear hs;generalize itx a=s at *;generalize itx b=t at *;generalize dec (a.natAbs+b.natAbs)=pa at *;generalize dec (a.natAbs-b.natAbs)=ps at *;generalize dec (b.natAbs-a.natAbs)=pt at *;generalize dec a.natAbs=sm at *;generalize dec b.natAbs=tm at *;generalize decide (a<0)=na at *;go_enter Tryz.func81,Tryz.ntmps81;go_wp2_with fail;refine cm_ (Hl1.out w) ?_;rintro e w1 ⟨rfl,hb1⟩;have Hb1:=hd_ hb1;clear hb1 Hl1;go_wp2_with fail;refine cm_ (Hsa.out w1) ?_;rintro e w2 ⟨rfl,hb2⟩;have Hb2:=bt_ Hb1 hb2;clear hb2 Hb1 Hsa;go_wp2_with fail;refine cm_ (Hsb.out w2) ?_;rintro e w3 ⟨rfl,hb3⟩;have Hb3:=bt_ Hb2 hb3;clear hb3 Hb2 Hsb;go_wp2_with fail;refine cm_ (Had.out w3 Hb3.out) ?_;rintro e w4 ⟨rfl,hb4⟩;have Hb4:=bt_ Hb3 hb4;clear hb4 Hb3 Had;go_wp2_with fail;refine cm_ (Hj.out w4) ?_;rintro e w5 ⟨rfl,hb5⟩;have Hb5:=bt_ Hb4 hb5;clear hb5 Hb4 Hj;go_wp2;go_ret;exact⟨rfl,Hb5.out⟩
  ·by_cases hc:a.natAbs<b.natAbs
   ·have Hj:=hd_ (Hj3.out hs (by omega));have Hss:=hd_ (fun W hW=>Hsv.out W hW (by omega));have hcv:cmpN a.natAbs b.natAbs = -1:=by unfold cmpN;rw[if_pos hc]
    rw[hcv] at Hcm;have hnb:(decide (a<0)==decide (b<0))=false:=by rw[beq_eq_false_iff_ne];exact hs
    clear Hj1 Hj2 Hj3 Had Hsu Hsv hcv hs hc;generalize itx a=s at *;generalize itx b=t at *;generalize dec (a.natAbs+b.natAbs)=pa at *;generalize dec (a.natAbs-b.natAbs)=ps at *;generalize dec (b.natAbs-a.natAbs)=pt at *;generalize dec a.natAbs=sm at *;generalize dec b.natAbs=tm at *;generalize decide (a<0)=na at *;generalize decide (b<0)=nb at *;go_enter Tryz.func81,Tryz.ntmps81;go_wp2_with fail;refine cm_ (Hl1.out w) ?_;rintro e w1 ⟨rfl,hb1⟩;have Hb1:=hd_ hb1;clear hb1 Hl1;go_wp2_with fail;refine cm_ (Hsa.out w1) ?_;rintro e w2 ⟨rfl,hb2⟩;have Hb2:=bt_ Hb1 hb2;clear hb2 Hb1 Hsa;go_wp2_with fail;refine cm_ (Hsb.out w2) ?_;rintro e w3 ⟨rfl,hb3⟩;have Hb3:=bt_ Hb2 hb3;clear hb3 Hb2 Hsb;go_wp2_with fail;refine cm_ (Hcm.out w3) ?_;rintro e w4 ⟨rfl,hb4⟩;have Hb4:=bt_ Hb3 hb4;clear hb4 Hb3 Hcm;go_wp2_with fail;refine cm_ (Hss.out w4 Hb4.out) ?_;rintro e w5 ⟨rfl,hb5⟩;have Hb5:=bt_ Hb4 hb5;clear hb5 Hb4 Hss;go_wp2_with fail;refine cm_ (Hj.out w5) ?_;rintro e w6 ⟨rfl,hb6⟩;have Hb6:=bt_ Hb5 hb6;clear hb6 Hb5 Hj;go_wp2;go_ret;exact⟨rfl,Hb6.out⟩
   ·have Hj:=hd_ (Hj2.out hs hc);have Hss:=hd_ (fun W hW=>Hsu.out W hW hc);have hcn:¬ cmpN a.natAbs b.natAbs<0:=by unfold cmpN;rw[if_neg hc];split<;>omega
    have hnb:(decide (a<0)==decide (b<0))=false:=by rw[beq_eq_false_iff_ne];exact hs
    clear Hj1 Hj2 Hj3 Had Hsu Hsv hs hc;generalize cmpN a.natAbs b.natAbs=cn at *;generalize itx a=s at *;generalize itx b=t at *;generalize dec (a.natAbs+b.natAbs)=pa at *;generalize dec (a.natAbs-b.natAbs)=ps at *;generalize dec (b.natAbs-a.natAbs)=pt at *;generalize dec a.natAbs=sm at *;generalize dec b.natAbs=tm at *;generalize decide (a<0)=na at *;generalize decide (b<0)=nb at *;go_enter Tryz.func81,Tryz.ntmps81;go_wp2_with fail;refine cm_ (Hl1.out w) ?_;rintro e w1 ⟨rfl,hb1⟩;have Hb1:=hd_ hb1;clear hb1 Hl1;go_wp2_with fail;refine cm_ (Hsa.out w1) ?_;rintro e w2 ⟨rfl,hb2⟩;have Hb2:=bt_ Hb1 hb2;clear hb2 Hb1 Hsa;go_wp2_with fail;refine cm_ (Hsb.out w2) ?_;rintro e w3 ⟨rfl,hb3⟩;have Hb3:=bt_ Hb2 hb3;clear hb3 Hb2 Hsb;go_wp2_with fail;refine cm_ (Hcm.out w3) ?_;rintro e w4 ⟨rfl,hb4⟩;have Hb4:=bt_ Hb3 hb4;clear hb4 Hb3 Hcm;go_wp2_with fail;refine cm_ (Hss.out w4 Hb4.out) ?_;rintro e w5 ⟨rfl,hb5⟩;have Hb5:=bt_ Hb4 hb5;clear hb5 Hb4 Hss;go_wp2_with fail;refine cm_ (Hj.out w5) ?_;rintro e w6 ⟨rfl,hb6⟩;have Hb6:=bt_ Hb5 hb6;clear hb6 Hb5 Hj;go_wp2;go_ret;exact⟨rfl,Hb6.out⟩
theorem canon_itx(n:Nat):Canon (lb (dec n)):=by rw[lb_dec];exact dec_canon n
theorem checkz_any(w:World)(z:Int)(hz:ZNum z):
  Gives Tryz.prog 127 #[.string (itx z)] w (.int .i64 (if (dec z.natAbs).size≤400 then 0 else 2)):=by
 unfold Gives;have Hs:=hd_ (split_any w z);have Hc:=hd_ (fun W=>check_any W (dec z.natAbs) (Nat.le_trans hz (by decide)));have hzz:=is_zero z.natAbs;have hcan:=canon_itx z.natAbs
 by_cases h4:(dec z.natAbs).size≤400
 ·rw[if_pos ⟨hcan,h4⟩] at Hc;rw[if_pos h4];clear hcan h4
  by_cases hn:z<0
  ·rw[decide_eq_true hn] at Hs;rw[decide_eq_false (show ¬ z.natAbs=0 by omega)] at hzz;clear hn;generalize itx z=s at *;generalize dec z.natAbs=t at *;go_enter Tryz.func127,Tryz.ntmps127;go_wp2_with fail;refine cm_ (Hs.out) ?_;rintro e w1 ⟨rfl,hb1⟩;have Hb1:=hd_ hb1;clear hb1 Hs;go_wp2_with fail;refine cm_ (Hc.out w1) ?_;rintro e w2 ⟨rfl,hb2⟩;have Hb2:=bt_ Hb1 hb2;clear hb2 Hb1 Hc;go_wp2;go_ret;exact⟨rfl,Hb2.out⟩
  ·rw[decide_eq_false hn] at Hs;clear hn hzz;generalize itx z=s at *;generalize dec z.natAbs=t at *;go_enter Tryz.func127,Tryz.ntmps127;go_wp2_with fail;refine cm_ (Hs.out) ?_;rintro e w1 ⟨rfl,hb1⟩;have Hb1:=hd_ hb1;clear hb1 Hs;go_wp2_with fail;refine cm_ (Hc.out w1) ?_;rintro e w2 ⟨rfl,hb2⟩;have Hb2:=bt_ Hb1 hb2;clear hb2 Hb1 Hc;go_wp2;go_ret;exact⟨rfl,Hb2.out⟩
 ·rw[if_neg (fun h=>h4 h.2)] at Hc;rw[if_neg h4];clear hcan h4
  by_cases hn:z<0
  ·rw[decide_eq_true hn] at Hs;rw[decide_eq_false (show ¬ z.natAbs=0 by omega)] at hzz;clear hn;generalize itx z=s at *;generalize dec z.natAbs=t at *;go_enter Tryz.func127,Tryz.ntmps127;go_wp2_with fail;refine cm_ (Hs.out) ?_;rintro e w1 ⟨rfl,hb1⟩;have Hb1:=hd_ hb1;clear hb1 Hs;go_wp2_with fail;refine cm_ (Hc.out w1) ?_;rintro e w2 ⟨rfl,hb2⟩;have Hb2:=bt_ Hb1 hb2;clear hb2 Hb1 Hc;go_wp2;go_ret;exact⟨rfl,Hb2.out⟩
  ·rw[decide_eq_false hn] at Hs;clear hn hzz;generalize itx z=s at *;generalize dec z.natAbs=t at *;go_enter Tryz.func127,Tryz.ntmps127;go_wp2_with fail;refine cm_ (Hs.out) ?_;rintro e w1 ⟨rfl,hb1⟩;have Hb1:=hd_ hb1;clear hb1 Hs;go_wp2_with fail;refine cm_ (Hc.out w1) ?_;rintro e w2 ⟨rfl,hb2⟩;have Hb2:=bt_ Hb1 hb2;clear hb2 Hb1 Hc;go_wp2;go_ret;exact⟨rfl,Hb2.out⟩
theorem gcdi_any(w:World)(a b:Nat)(ha:a<9223372036854775808)(hb:b<9223372036854775808):
  Gives Tryz.prog 158 #[.int .i64 a,.int .i64 b] w (.int .i64 (Nat.gcd a b:Nat)):=by
 unfold Gives;go_enter Tryz.func158,Tryz.ntmps158;go_wp2_with fail
 go_loopw [0,1] (fun p q wr=>∃ x y:Nat,x<9223372036854775808∧y<9223372036854775808∧p = .int .i64 x∧q = .int .i64 y∧Hid (Nat.gcd x y=Nat.gcd a b)∧Hid (Below w.heap.size w wr)) (fun _ q _=>(intOf q).toNat)
 case atStart=>exact⟨a,b,ha,hb,rfl,rfl,rfl,Below.refl _ _⟩
 case round =>
  obtain⟨x,y,hx,hy,rfl,rfl,Hg,Hb⟩:=hrel
  by_cases h0:y=0
  ·have Hv:Hid (x=Nat.gcd a b):=by
    show _=_
    rw[← Hg.out,h0,Nat.gcd_zero_right]
   subst h0;go_wp2;go_ret;exact⟨by rw[← Hv.out];rfl,Hb.out⟩
  ·have hyz:((y:Int)==0)=false:=by rw[beq_eq_false_iff_ne];omega
   have htm:Int.tmod (x:Int) (y:Int)=((x%y:Nat):Int):=by rw[← Int.ofNat_tmod]
   have hlt:x%y<y:=Nat.mod_lt _ (by omega);have hwr:IntKind.i64.wrap ((x%y:Nat):Int)=((x%y:Nat):Int):=iw_ _ (by omega);have Hg2:Hid (Nat.gcd y (x%y)=Nat.gcd a b):=(gcd_step x y).trans Hg.out;have hyi:¬ (y:Int)=0:=by omega
   clear h0;generalize x%y=r at *;go_wp2_with fail
   go_quiet (fail)
   go_wp2
   go_roundw
   case rel=>exact⟨y,r,hy,by omega,rfl,rfl,Hg2,below_dn Hb.out _⟩
   case measure=>simp[intOf];omega
theorem littleD_any(w:World)(n:Nat)(hn:Num n)(most:Nat)(hm:most≤18):
  Gives Tryz.prog 117 #[.string (dec n),.int .i64 most] w (if (dec n).size≤most then .tuple #[.int .i64 n,.bool true] else .tuple #[.int .i64 0,.bool false]):=by
 have:=littlez_any w (n:Int) (by show Num _;exact hn) most hm
 rw[itx_nat] at this;exact this
theorem gcdz_any(w:World)(a b:Int)(ha:ZNum a)(hb:ZNum b)(L:Laid w):
  Gives Tryz.prog 128 #[.string (itx a),.string (itx b)] w (.string (dec (Int.gcd a b))):=by
 unfold Gives;have Ha:=hd_ (fun W=>abs_any W a);have Hb':=hd_ (fun W=>abs_any W b);have Hl1:=hd_ (fun W=>littleD_any W a.natAbs ha 18 (by decide));have Hl2:=hd_ (fun W=>littleD_any W b.natAbs hb 18 (by decide));have Hgd:Hid (∀ W,Below w.heap.size w W→Gives Tryz.prog 159 #[.string (dec a.natAbs),.string (dec b.natAbs)] W (.string (dec (Int.gcd a b)))):=fun W hW=>gcd_any W a.natAbs b.natAbs ha hb (L.below hW)
 by_cases h1:(dec a.natAbs).size≤18
 ·rw[if_pos h1] at Hl1
  by_cases h2:(dec b.natAbs).size≤18
  ·rw[if_pos h2] at Hl2;have q1:=(dec_small18 a.natAbs).1 h1;have q2:=(dec_small18 b.natAbs).1 h2;have hg:Int.gcd a b<9223372036854775808:=by
    show Nat.gcd a.natAbs b.natAbs<_
    rcases Nat.eq_zero_or_pos a.natAbs with h|h
    ·rw[h,Nat.gcd_zero_left];omega
    ·have:=Nat.gcd_le_left b.natAbs h;omega
   have Hgi:Hid (∀ W,Gives Tryz.prog 158 #[.int .i64 a.natAbs,.int .i64 b.natAbs] W (.int .i64 (Int.gcd a b:Nat))):=fun W=>gcdi_any W a.natAbs b.natAbs (by omega) (by omega)
   have Hof:Hid (∀ W,Below w.heap.size w W→Gives Tryz.prog 83 #[.int .i64 (Int.gcd a b:Nat)] W (.string (dec (Int.gcd a b)))):=fun W hW=>by
    have:=ofz_any W (Int.gcd a b:Nat) (by omega) (by omega) (L.below hW)
    rw[itx_nat] at this;exact this
   clear L Hgd hg;generalize itx a=s at *;generalize itx b=t at *;generalize dec (Int.gcd a b)=d at *;generalize dec a.natAbs=sm at *;generalize dec b.natAbs=tm at *;generalize Int.gcd a b=g at *;generalize a.natAbs=x at *;generalize b.natAbs=y at *;go_enter Tryz.func128,Tryz.ntmps128;go_wp2_with fail;refine cm_ (Ha.out w) ?_;rintro e w1 ⟨rfl,hb1⟩;have Hb1:=hd_ hb1;clear hb1 Ha;go_wp2_with fail;refine cm_ (Hb'.out w1) ?_;rintro e w2 ⟨rfl,hb2⟩;have Hb2:=bt_ Hb1 hb2;clear hb2 Hb1 Hb';go_wp2_with fail;refine cm_ (Hl1.out w2) ?_;rintro e w3 ⟨rfl,hb3⟩;have Hb3:=bt_ Hb2 hb3;clear hb3 Hb2 Hl1;go_wp2_with fail;refine cm_ (Hl2.out w3) ?_;rintro e w4 ⟨rfl,hb4⟩;have Hb4:=bt_ Hb3 hb4;clear hb4 Hb3 Hl2;go_wp2_with fail;refine cm_ (Hgi.out w4) ?_;rintro e w5 ⟨rfl,hb5⟩;have Hb5:=bt_ Hb4 hb5;clear hb5 Hb4 Hgi;go_wp2_with fail;refine cm_ (Hof.out w5 Hb5.out) ?_;rintro e w6 ⟨rfl,hb6⟩;have Hb6:=bt_ Hb5 hb6;clear hb6 Hb5 Hof;go_wp2;go_ret;exact⟨rfl,Hb6.out⟩
  ·rw[if_neg h2] at Hl2;clear L;generalize itx a=s at *;generalize itx b=t at *;generalize dec (Int.gcd a b)=d at *;generalize dec a.natAbs=sm at *;generalize dec b.natAbs=tm at *;go_enter Tryz.func128,Tryz.ntmps128;go_wp2_with fail;refine cm_ (Ha.out w) ?_;rintro e w1 ⟨rfl,hb1⟩;have Hb1:=hd_ hb1;clear hb1 Ha;go_wp2_with fail;refine cm_ (Hb'.out w1) ?_;rintro e w2 ⟨rfl,hb2⟩;have Hb2:=bt_ Hb1 hb2;clear hb2 Hb1 Hb';go_wp2_with fail;refine cm_ (Hl1.out w2) ?_;rintro e w3 ⟨rfl,hb3⟩;have Hb3:=bt_ Hb2 hb3;clear hb3 Hb2 Hl1;go_wp2_with fail;refine cm_ (Hl2.out w3) ?_;rintro e w4 ⟨rfl,hb4⟩;have Hb4:=bt_ Hb3 hb4;clear hb4 Hb3 Hl2;go_wp2_with fail;refine cm_ (Hgd.out w4 Hb4.out) ?_;rintro e w5 ⟨rfl,hb5⟩;have Hb5:=bt_ Hb4 hb5;clear hb5 Hb4 Hgd;go_wp2;go_ret;exact⟨rfl,Hb5.out⟩
 ·rw[if_neg h1] at Hl1;clear L Hl2;generalize itx a=s at *;generalize itx b=t at *;generalize dec (Int.gcd a b)=d at *;generalize dec a.natAbs=sm at *;generalize dec b.natAbs=tm at *;go_enter Tryz.func128,Tryz.ntmps128;go_wp2_with fail;refine cm_ (Ha.out w) ?_;rintro e w1 ⟨rfl,hb1⟩;have Hb1:=hd_ hb1;clear hb1 Ha;go_wp2_with fail;refine cm_ (Hb'.out w1) ?_;rintro e w2 ⟨rfl,hb2⟩;have Hb2:=bt_ Hb1 hb2;clear hb2 Hb1 Hb';go_wp2_with fail;refine cm_ (Hl1.out w2) ?_;rintro e w3 ⟨rfl,hb3⟩;have Hb3:=bt_ Hb2 hb3;clear hb3 Hb2 Hl1;go_wp2_with fail;refine cm_ (Hgd.out w3 Hb3.out) ?_;rintro e w4 ⟨rfl,hb4⟩;have Hb4:=bt_ Hb3 hb4;clear hb4 Hb3 Hgd;go_wp2;go_ret;exact⟨rfl,Hb4.out⟩
def cmpZ (a b:Int):Int:=if a<b then -1 else if a=b then 0 else 1
theorem cmp_neg(a b:Int)(ha:a<0)(hb:b<0):cmpN b.natAbs a.natAbs=cmpZ a b:=by
 unfold cmpN cmpZ
 by_cases h1:a<b
 ·rw[if_pos h1,if_pos (by omega)]
 ·rw[if_neg h1,if_neg (by omega)]
  by_cases h2:a=b
  ·rw[if_pos h2,if_pos (by omega)]
  ·rw[if_neg h2,if_neg (by omega)]
theorem cmp_pos(a b:Int)(ha:0≤a)(hb:0≤b):cmpN a.natAbs b.natAbs=cmpZ a b:=by
 unfold cmpN cmpZ
 by_cases h1:a<b
 ·rw[if_pos h1,if_pos (by omega)]
 ·rw[if_neg h1,if_neg (by omega)]
  by_cases h2:a=b
  ·rw[if_pos h2,if_pos (by omega)]
  ·rw[if_neg h2,if_neg (by omega)]
theorem sign_cases(a:Int):(a<0∧a.sign = -1)∨(a=0∧a.sign=0)∨(0<a∧a.sign=1):=by
 rcases Int.lt_trichotomy a 0 with h|h|h
 ·exact .inl ⟨h,Int.sign_eq_neg_one_of_neg h⟩
 ·subst h;exact .inr (.inl ⟨rfl,rfl⟩)
 ·exact .inr (.inr ⟨h,Int.sign_eq_one_of_pos h⟩)
theorem sign_less(a b:Int)(h:a.sign<b.sign):a<b:=by
 rcases sign_cases a with⟨h1,e1⟩|⟨h1,e1⟩|⟨h1,e1⟩<;>rcases sign_cases b with⟨h2,e2⟩|⟨h2,e2⟩|⟨h2,e2⟩<;>omega
theorem sign_same(a b:Int)(h:a.sign=b.sign):(a<0∧b<0)∨(0≤a∧0≤b):=by
 rcases sign_cases a with⟨h1,e1⟩|⟨h1,e1⟩|⟨h1,e1⟩<;>rcases sign_cases b with⟨h2,e2⟩|⟨h2,e2⟩|⟨h2,e2⟩<;>omega
theorem comparez_any(w:World)(a b:Int)(ha:ZNum a)(hb:ZNum b):
  Gives Tryz.prog 101 #[.string (itx a),.string (itx b)] w (.int .i64 (cmpZ a b)):=by
 unfold Gives;have Hg1:=hd_ (fun W=>sign_any W a);have Hg2:=hd_ (fun W=>sign_any W b);have Hsa:=hd_ (fun W=>split_any W a);have Hsb:=hd_ (fun W=>split_any W b);have ha':(dec a.natAbs).size≤10000000:=Nat.le_trans ha (by decide);have hb':(dec b.natAbs).size≤10000000:=Nat.le_trans hb (by decide);rcases Int.lt_trichotomy a.sign b.sign with hs|hs|hs
 ·have Hv:Hid (cmpZ a b = -1):=by
   show _=_
   unfold cmpZ;rw[if_pos (sign_less a b hs)]
  have hne:(a.sign != b.sign)=true:=by rw[bne_iff_ne];omega
  rw[Hv.out];clear Hsa Hsb;generalize a.sign=x at *;generalize b.sign=y at *;generalize itx a=s at *;generalize itx b=t at *;go_enter Tryz.func101,Tryz.ntmps101;go_wp2_with fail;refine cm_ (Hg1.out w) ?_;rintro e w1 ⟨rfl,hb1⟩;have Hb1:=hd_ hb1;clear hb1;go_wp2_with fail;refine cm_ (Hg2.out w1) ?_;rintro e w2 ⟨rfl,hb2⟩;have Hb2:=bt_ Hb1 hb2;clear hb2 Hb1;go_wp2;go_ret;exact⟨rfl,Hb2.out⟩
 ·rcases sign_same a b hs with⟨h1,h2⟩ | ⟨h1,h2⟩
  ·have Hcm:=hd_ (fun W=>compareS_any W b.natAbs a.natAbs hb' ha');rw[cmp_neg a b h1 h2] at Hcm;rw[decide_eq_true h1] at Hsa;have hne:(b.sign != b.sign)=false:=by simp
   rw[hs] at Hg1;clear hs h1 h2 ha' hb';generalize cmpZ a b=c at *;generalize b.sign=y at *;generalize itx a=s at *;generalize itx b=t at *;generalize dec a.natAbs=sm at *;generalize dec b.natAbs=tm at *;go_enter Tryz.func101,Tryz.ntmps101;go_wp2_with fail;refine cm_ (Hg1.out w) ?_;rintro e w1 ⟨rfl,hb1⟩;have Hb1:=hd_ hb1;clear hb1;go_wp2_with fail;refine cm_ (Hg2.out w1) ?_;rintro e w2 ⟨rfl,hb2⟩;have Hb2:=bt_ Hb1 hb2;clear hb2 Hb1;go_wp2_with fail;refine cm_ (Hsa.out w2) ?_;rintro e w3 ⟨rfl,hb3⟩;have Hb3:=bt_ Hb2 hb3;clear hb3 Hb2;go_wp2_with fail;refine cm_ (Hsb.out w3) ?_;rintro e w4 ⟨rfl,hb4⟩;have Hb4:=bt_ Hb3 hb4;clear hb4 Hb3;go_wp2_with fail;refine cm_ (Hcm.out w4) ?_;rintro e w5 ⟨rfl,hb5⟩;have Hb5:=bt_ Hb4 hb5;clear hb5 Hb4;go_wp2;go_ret;exact⟨rfl,Hb5.out⟩
  ·have Hcm:=hd_ (fun W=>compareS_any W a.natAbs b.natAbs ha' hb');rw[cmp_pos a b h1 h2] at Hcm;rw[decide_eq_false (show ¬ a<0 by omega)] at Hsa;have hne:(b.sign != b.sign)=false:=by simp
   rw[hs] at Hg1;clear hs h1 h2 ha' hb';generalize cmpZ a b=c at *;generalize b.sign=y at *;generalize itx a=s at *;generalize itx b=t at *;generalize dec a.natAbs=sm at *;generalize dec b.natAbs=tm at *;go_enter Tryz.func101,Tryz.ntmps101;go_wp2_with fail;refine cm_ (Hg1.out w) ?_;rintro e w1 ⟨rfl,hb1⟩;have Hb1:=hd_ hb1;clear hb1;go_wp2_with fail;refine cm_ (Hg2.out w1) ?_;rintro e w2 ⟨rfl,hb2⟩;have Hb2:=bt_ Hb1 hb2;clear hb2 Hb1;go_wp2_with fail;refine cm_ (Hsa.out w2) ?_;rintro e w3 ⟨rfl,hb3⟩;have Hb3:=bt_ Hb2 hb3;clear hb3 Hb2;go_wp2_with fail;refine cm_ (Hsb.out w3) ?_;rintro e w4 ⟨rfl,hb4⟩;have Hb4:=bt_ Hb3 hb4;clear hb4 Hb3;go_wp2_with fail;refine cm_ (Hcm.out w4) ?_;rintro e w5 ⟨rfl,hb5⟩;have Hb5:=bt_ Hb4 hb5;clear hb5 Hb4;go_wp2;go_ret;exact⟨rfl,Hb5.out⟩
 ·have Hv:Hid (cmpZ a b=1):=by
   show _=_
   have:=sign_less b a hs
   unfold cmpZ;rw[if_neg (by omega),if_neg (by omega)]
  have hne:(a.sign != b.sign)=true:=by rw[bne_iff_ne];omega
  rw[Hv.out];clear Hsa Hsb;generalize a.sign=x at *;generalize b.sign=y at *;generalize itx a=s at *;generalize itx b=t at *;go_enter Tryz.func101,Tryz.ntmps101;go_wp2_with fail;refine cm_ (Hg1.out w) ?_;rintro e w1 ⟨rfl,hb1⟩;have Hb1:=hd_ hb1;clear hb1;go_wp2_with fail;refine cm_ (Hg2.out w1) ?_;rintro e w2 ⟨rfl,hb2⟩;have Hb2:=bt_ Hb1 hb2;clear hb2 Hb1;go_wp2;go_ret;exact⟨rfl,Hb2.out⟩
theorem ediv_nat(n b:Nat):(n:Int)/(b:Int)=((n/b:Nat):Int)∧(n:Int)%(b:Int)=((n%b:Nat):Int):=⟨rfl,rfl⟩
theorem ediv_neg_exact(n b:Nat)(hb:0<b)(h:n%b=0): -(n:Int)/(b:Int) = -((n/b:Nat):Int) ∧ -(n:Int)%(b:Int)=0:=by
 rw[Int.ediv_emod_unique (by omega)];have h1:=Nat.div_add_mod n b;rw[h] at h1;have h2:((b*(n/b)+0:Nat):Int)=(n:Int):=congrArg Nat.cast h1;rw[Nat.add_zero,Int.natCast_mul] at h2;refine⟨?_,by omega,by omega⟩;rw[Int.mul_neg,h2];omega
theorem ediv_neg_rest(n b:Nat)(hb:0<b)(h:n%b≠0): -(n:Int)/(b:Int) = -((n/b:Nat):Int)-1 ∧ -(n:Int)%(b:Int)=(b:Int)-((n%b:Nat):Int):=by
 rw[Int.ediv_emod_unique (by omega)];have h1:=Nat.div_add_mod n b;have h3:=Nat.mod_lt n hb;have h2:((b*(n/b)+n%b:Nat):Int)=(n:Int):=congrArg Nat.cast h1;rw[Int.natCast_add,Int.natCast_mul] at h2;refine⟨?_,by omega,by omega⟩;rw[Int.mul_sub,Int.mul_neg,Int.mul_one];omega
theorem divmodz_any(w:World)(a:Int)(b:Nat)(ha:ZNum a)(hb:Num b)(hb0:0<b)(hab:Num (a.natAbs+1))(L:Laid w):
  Gives Tryz.prog 103 #[.string (itx a),.string (dec b)] w (.tuple #[.string (itx (a/(b:Int))),.string (itx (a%(b:Int))),.int .i64 0]):=by
 unfold Gives;have hz:=is_zero b;rw[decide_eq_false (show ¬ b=0 by omega)] at hz;have Hl1:=hd_ (fun W=>littlez_any W a ha 18 (by decide));have Hl2:=hd_ (fun W=>littleD_any W b hb 18 (by decide));have HL:=hd_ L;have Hsa:=hd_ (fun W=>split_any W a);have Hsb:Hid (∀ W,Gives Tryz.prog 118 #[.string (dec b)] W (.tuple #[.bool false,.string (dec b)])):=fun W=>by
  have:=split_any W (b:Int)
  rw[itx_nat,decide_eq_false (show ¬ (b:Int)<0 by omega)] at this;exact this
 have Hdm:Hid (∀ W,Below w.heap.size w W→Gives Tryz.prog 136 #[.string (dec a.natAbs),.string (dec b)] W (.tuple #[.string (dec (a.natAbs/b)),.string (dec (a.natAbs%b)),.int .i64 0])):=fun W hW=>by
  have:=divmod_any W a.natAbs b ha hb (HL.out.below hW)
  rw[if_neg (show ¬ b=0 by omega)] at this;exact this
 have big:∀ (P:Prop),((∀ W,Gives Tryz.prog 117 #[.string (itx a),.int .i64 18] W (.tuple #[.int .i64 0,.bool false]))→P)→(((itx a).size≤18∧¬ (dec b).size≤18)→P)→(((itx a).size≤18∧(dec b).size≤18)→P)→P:=fun P h1 h2 h3=>by
  by_cases q1:(itx a).size≤18
  ·by_cases q2:(dec b).size≤18
   ·exact h3 ⟨q1,q2⟩
   ·exact h2 ⟨q1,q2⟩
  ·rw[if_neg q1] at Hl1;exact h1 Hl1.out
 clear L;refine big _ (fun hl1=>?_) (fun hl=>?_) (fun hl=>?_)
 ·have Hl:=hd_ hl1;clear hl1 Hl1 Hl2 big
  by_cases hn:a<0
  ·rw[decide_eq_true hn] at Hsa;obtain⟨n,rfl⟩:∃ n:Nat,a = -(n:Int):=⟨a.natAbs,by omega⟩;have hN:Num n:=by
    have h:Num (-(n:Int)).natAbs:=ha;rw[show (-(n:Int)).natAbs=n by omega] at h;exact h
   rw[show (-(n:Int)).natAbs=n by omega] at *
   by_cases hr:n%b=0
   ·obtain⟨e1,e2⟩:=ediv_neg_exact n b hb0 hr;rw[e1,e2];have hzr:=is_zero (n%b);rw[decide_eq_true hr] at hzr;have Hj1:=hd_ (fun W=>join_any W true (n/b) (Num.le hN (Nat.div_le_self _ _)));have Hj2:=hd_ (fun W=>join_any W false (n%b) (Num.le hN (Nat.mod_le _ _)));rw[show jz true (n/b) = -((n/b:Nat):Int) from rfl] at Hj1;rw[show jz false (n%b)=((n%b:Nat):Int) from rfl,hr,show ((0:Nat):Int)=0 from rfl] at Hj2;rw[hr] at hzr Hdm;clear e1 e2 hr hn;generalize itx (-((n/b:Nat):Int))=r1 at *;generalize itx 0=r2 at *;generalize itx (-(n:Int))=s at *;generalize dec (n/b)=qd at *;generalize dec 0=rd at *;generalize dec n=sm at *;generalize dec b=tm at *;go_enter Tryz.func103,Tryz.ntmps103;go_wp2_with fail;refine cm_ (Hl.out w) ?_;rintro e w1 ⟨rfl,hb1⟩;have Hb1:=hd_ hb1;clear hb1 Hl;go_wp2_with fail;refine cm_ (Hsa.out w1) ?_;rintro e w2 ⟨rfl,hb2⟩;have Hb2:=bt_ Hb1 hb2;clear hb2 Hb1 Hsa;go_wp2_with fail;refine cm_ (Hsb.out w2) ?_;rintro e w3 ⟨rfl,hb3⟩;have Hb3:=bt_ Hb2 hb3;clear hb3 Hb2 Hsb;go_wp2_with fail;refine cm_ (Hdm.out w3 Hb3.out) ?_;rintro e w4 ⟨rfl,hb4⟩;have Hb4:=bt_ Hb3 hb4;clear hb4 Hb3 Hdm;go_wp2_with fail;refine cm_ (Hj1.out w4) ?_;rintro e w5 ⟨rfl,hb5⟩;have Hb5:=bt_ Hb4 hb5;clear hb5 Hb4 Hj1;go_wp2_with fail;refine cm_ (Hj2.out w5) ?_;rintro e w6 ⟨rfl,hb6⟩;have Hb6:=bt_ Hb5 hb6;clear hb6 Hb5 Hj2;go_wp2
    go_ret3
    exact⟨rfl,Hb6.out⟩
   ·obtain⟨e1,e2⟩:=ediv_neg_rest n b hb0 hr;have hml:=Nat.mod_lt n hb0;have e3 : -((n/b:Nat):Int)-1 = -((n/b+1:Nat):Int):=by omega
    have e4:(b:Int)-((n%b:Nat):Int)=((b-n%b:Nat):Int):=by omega
    rw[e1,e2,e3,e4];have hzr:=is_zero (n%b);rw[decide_eq_false hr] at hzr;have hn1:Num (n/b+1):=Num.le hab (Nat.succ_le_succ (Nat.div_le_self _ _));have Had:Hid (∀ W,Below w.heap.size w W→Gives Tryz.prog 120 #[.string (dec (n/b)),.string ⟨#[49]⟩] W (.string (dec (n/b+1)))):=fun W hW=>by
     have:=add_any W (n/b) 1 (Num.le hN (Nat.div_le_self _ _)) (Num.le hab (by omega)) (HL.out.below hW)
     rw[dec_one] at this;exact this
    have Hsu:Hid (∀ W,Below w.heap.size w W→Gives Tryz.prog 121 #[.string (dec b),.string (dec (n%b))] W (.tuple #[.string (dec (b-n%b)),.int .i64 0])):=fun W hW=>by
     have:=sub_any W b (n%b) hb (Num.le hN (Nat.mod_le _ _)) (HL.out.below hW)
     rw[if_neg (by omega)] at this;exact this
    have Hj1:=hd_ (fun W=>join_any W true (n/b+1) hn1);have Hj2:=hd_ (fun W=>join_any W false (b-n%b) (Num.le hb (Nat.sub_le _ _)));rw[show jz true (n/b+1) = -((n/b+1:Nat):Int) from rfl] at Hj1;rw[show jz false (b-n%b)=((b-n%b:Nat):Int) from rfl] at Hj2;clear e1 e2 e3 e4 hr hn hml;generalize itx (-((n/b+1:Nat):Int))=r1 at *;generalize itx ((b-n%b:Nat):Int)=r2 at *;generalize itx (-(n:Int))=s at *;generalize dec (n/b+1)=qe at *;generalize dec (b-n%b)=re at *;generalize dec (n/b)=qd at *;generalize dec (n%b)=rd at *;generalize dec n=sm at *;generalize dec b=tm at *;go_enter Tryz.func103,Tryz.ntmps103;go_wp2_with fail;refine cm_ (Hl.out w) ?_;rintro e w1 ⟨rfl,hb1⟩;have Hb1:=hd_ hb1;clear hb1 Hl;go_wp2_with fail;refine cm_ (Hsa.out w1) ?_;rintro e w2 ⟨rfl,hb2⟩;have Hb2:=bt_ Hb1 hb2;clear hb2 Hb1 Hsa;go_wp2_with fail;refine cm_ (Hsb.out w2) ?_;rintro e w3 ⟨rfl,hb3⟩;have Hb3:=bt_ Hb2 hb3;clear hb3 Hb2 Hsb;go_wp2_with fail;refine cm_ (Hdm.out w3 Hb3.out) ?_;rintro e w4 ⟨rfl,hb4⟩;have Hb4:=bt_ Hb3 hb4;clear hb4 Hb3 Hdm;go_wp2_with fail;refine cm_ (Had.out w4 Hb4.out) ?_;rintro e w5 ⟨rfl,hb5⟩;have Hb5:=bt_ Hb4 hb5;clear hb5 Hb4 Had;go_wp2_with fail;refine cm_ (Hsu.out w5 Hb5.out) ?_;rintro e w6 ⟨rfl,hb6⟩;have Hb6:=bt_ Hb5 hb6;clear hb6 Hb5 Hsu;go_wp2_with fail;refine cm_ (Hj1.out w6) ?_;rintro e w7 ⟨rfl,hb7⟩;have Hb7:=bt_ Hb6 hb7;clear hb7 Hb6 Hj1;go_wp2_with fail;refine cm_ (Hj2.out w7) ?_;rintro e w8 ⟨rfl,hb8⟩;have Hb8:=bt_ Hb7 hb8;clear hb8 Hb7 Hj2;go_wp2
    go_ret3
    exact⟨rfl,Hb8.out⟩
  ·rw[decide_eq_false hn] at Hsa;obtain⟨n,rfl⟩:∃ n:Nat,a=(n:Int):=⟨a.natAbs,by omega⟩;have hN:Num n:=ha;rw[show ((n:Int)).natAbs=n by omega] at *
   have Hj1:=hd_ (fun W=>join_any W false (n/b) (Num.le hN (Nat.div_le_self _ _)));have Hj2:=hd_ (fun W=>join_any W false (n%b) (Num.le hN (Nat.mod_le _ _)));rw[show jz false (n/b)=(n:Int)/(b:Int) from rfl] at Hj1;rw[show jz false (n%b)=(n:Int)%(b:Int) from rfl] at Hj2;clear hn;generalize itx ((n:Int)/(b:Int))=r1 at *;generalize itx ((n:Int)%(b:Int))=r2 at *;generalize itx (n:Int)=s at *;generalize dec (n/b)=qd at *;generalize dec (n%b)=rd at *;generalize dec n=sm at *;generalize dec b=tm at *;go_enter Tryz.func103,Tryz.ntmps103;go_wp2_with fail;refine cm_ (Hl.out w) ?_;rintro e w1 ⟨rfl,hb1⟩;have Hb1:=hd_ hb1;clear hb1 Hl;go_wp2_with fail;refine cm_ (Hsa.out w1) ?_;rintro e w2 ⟨rfl,hb2⟩;have Hb2:=bt_ Hb1 hb2;clear hb2 Hb1 Hsa;go_wp2_with fail;refine cm_ (Hsb.out w2) ?_;rintro e w3 ⟨rfl,hb3⟩;have Hb3:=bt_ Hb2 hb3;clear hb3 Hb2 Hsb;go_wp2_with fail;refine cm_ (Hdm.out w3 Hb3.out) ?_;rintro e w4 ⟨rfl,hb4⟩;have Hb4:=bt_ Hb3 hb4;clear hb4 Hb3 Hdm;go_wp2_with fail;refine cm_ (Hj1.out w4) ?_;rintro e w5 ⟨rfl,hb5⟩;have Hb5:=bt_ Hb4 hb5;clear hb5 Hb4 Hj1;go_wp2_with fail;refine cm_ (Hj2.out w5) ?_;rintro e w6 ⟨rfl,hb6⟩;have Hb6:=bt_ Hb5 hb6;clear hb6 Hb5 Hj2;go_wp2
   go_ret3
   exact⟨rfl,Hb6.out⟩
 ·rw[if_pos hl.1] at Hl1;rw[if_neg hl.2] at Hl2;clear hl big
  by_cases hn:a<0
  ·rw[decide_eq_true hn] at Hsa;obtain⟨n,rfl⟩:∃ n:Nat,a = -(n:Int):=⟨a.natAbs,by omega⟩;have hN:Num n:=by
    have h:Num (-(n:Int)).natAbs:=ha;rw[show (-(n:Int)).natAbs=n by omega] at h;exact h
   rw[show (-(n:Int)).natAbs=n by omega] at *
   by_cases hr:n%b=0
   ·obtain⟨e1,e2⟩:=ediv_neg_exact n b hb0 hr;rw[e1,e2];have hzr:=is_zero (n%b);rw[decide_eq_true hr] at hzr;have Hj1:=hd_ (fun W=>join_any W true (n/b) (Num.le hN (Nat.div_le_self _ _)));have Hj2:=hd_ (fun W=>join_any W false (n%b) (Num.le hN (Nat.mod_le _ _)));rw[show jz true (n/b) = -((n/b:Nat):Int) from rfl] at Hj1;rw[show jz false (n%b)=((n%b:Nat):Int) from rfl,hr,show ((0:Nat):Int)=0 from rfl] at Hj2;rw[hr] at hzr Hdm;clear e1 e2 hr hn;generalize itx (-((n/b:Nat):Int))=r1 at *;generalize itx 0=r2 at *;generalize itx (-(n:Int))=s at *;generalize dec (n/b)=qd at *;generalize dec 0=rd at *;generalize dec n=sm at *;generalize dec b=tm at *;go_enter Tryz.func103,Tryz.ntmps103;go_wp2_with fail;refine cm_ (Hl1.out w) ?_;rintro e w1 ⟨rfl,hb1⟩;have Hb1:=hd_ hb1;clear hb1 Hl1;go_wp2_with fail;refine cm_ (Hl2.out w1) ?_;rintro e w2 ⟨rfl,hb2⟩;have Hb2:=bt_ Hb1 hb2;clear hb2 Hb1 Hl2;go_wp2_with fail;refine cm_ (Hsa.out w2) ?_;rintro e w3 ⟨rfl,hb3⟩;have Hb3:=bt_ Hb2 hb3;clear hb3 Hb2 Hsa;go_wp2_with fail;refine cm_ (Hsb.out w3) ?_;rintro e w4 ⟨rfl,hb4⟩;have Hb4:=bt_ Hb3 hb4;clear hb4 Hb3 Hsb;go_wp2_with fail;refine cm_ (Hdm.out w4 Hb4.out) ?_;rintro e w5 ⟨rfl,hb5⟩;have Hb5:=bt_ Hb4 hb5;clear hb5 Hb4 Hdm;go_wp2_with fail;refine cm_ (Hj1.out w5) ?_;rintro e w6 ⟨rfl,hb6⟩;have Hb6:=bt_ Hb5 hb6;clear hb6 Hb5 Hj1;go_wp2_with fail;refine cm_ (Hj2.out w6) ?_;rintro e w7 ⟨rfl,hb7⟩;have Hb7:=bt_ Hb6 hb7;clear hb7 Hb6 Hj2;go_wp2
    go_ret3
    exact⟨rfl,Hb7.out⟩
   ·obtain⟨e1,e2⟩:=ediv_neg_rest n b hb0 hr;have hml:=Nat.mod_lt n hb0;have e3 : -((n/b:Nat):Int)-1 = -((n/b+1:Nat):Int):=by omega
    have e4:(b:Int)-((n%b:Nat):Int)=((b-n%b:Nat):Int):=by omega
    rw[e1,e2,e3,e4];have hzr:=is_zero (n%b);rw[decide_eq_false hr] at hzr;have hn1:Num (n/b+1):=Num.le hab (Nat.succ_le_succ (Nat.div_le_self _ _));have Had:Hid (∀ W,Below w.heap.size w W→Gives Tryz.prog 120 #[.string (dec (n/b)),.string ⟨#[49]⟩] W (.string (dec (n/b+1)))):=fun W hW=>by
     have:=add_any W (n/b) 1 (Num.le hN (Nat.div_le_self _ _)) (Num.le hab (by omega)) (HL.out.below hW)
     rw[dec_one] at this;exact this
    have Hsu:Hid (∀ W,Below w.heap.size w W→Gives Tryz.prog 121 #[.string (dec b),.string (dec (n%b))] W (.tuple #[.string (dec (b-n%b)),.int .i64 0])):=fun W hW=>by
     have:=sub_any W b (n%b) hb (Num.le hN (Nat.mod_le _ _)) (HL.out.below hW)
     rw[if_neg (by omega)] at this;exact this
    have Hj1:=hd_ (fun W=>join_any W true (n/b+1) hn1);have Hj2:=hd_ (fun W=>join_any W false (b-n%b) (Num.le hb (Nat.sub_le _ _)));rw[show jz true (n/b+1) = -((n/b+1:Nat):Int) from rfl] at Hj1;rw[show jz false (b-n%b)=((b-n%b:Nat):Int) from rfl] at Hj2;clear e1 e2 e3 e4 hr hn hml;generalize itx (-((n/b+1:Nat):Int))=r1 at *;generalize itx ((b-n%b:Nat):Int)=r2 at *;generalize itx (-(n:Int))=s at *;generalize dec (n/b+1)=qe at *;generalize dec (b-n%b)=re at *;generalize dec (n/b)=qd at *;generalize dec (n%b)=rd at *;generalize dec n=sm at *;generalize dec b=tm at *;go_enter Tryz.func103,Tryz.ntmps103;go_wp2_with fail;refine cm_ (Hl1.out w) ?_;rintro e w1 ⟨rfl,hb1⟩;have Hb1:=hd_ hb1;clear hb1 Hl1;go_wp2_with fail;refine cm_ (Hl2.out w1) ?_;rintro e w2 ⟨rfl,hb2⟩;have Hb2:=bt_ Hb1 hb2;clear hb2 Hb1 Hl2;go_wp2_with fail;refine cm_ (Hsa.out w2) ?_;rintro e w3 ⟨rfl,hb3⟩;have Hb3:=bt_ Hb2 hb3;clear hb3 Hb2 Hsa;go_wp2_with fail;refine cm_ (Hsb.out w3) ?_;rintro e w4 ⟨rfl,hb4⟩;have Hb4:=bt_ Hb3 hb4;clear hb4 Hb3 Hsb;go_wp2_with fail;refine cm_ (Hdm.out w4 Hb4.out) ?_;rintro e w5 ⟨rfl,hb5⟩;have Hb5:=bt_ Hb4 hb5;clear hb5 Hb4 Hdm;go_wp2_with fail;refine cm_ (Had.out w5 Hb5.out) ?_;rintro e w6 ⟨rfl,hb6⟩;have Hb6:=bt_ Hb5 hb6;clear hb6 Hb5 Had;go_wp2_with fail;refine cm_ (Hsu.out w6 Hb6.out) ?_;rintro e w7 ⟨rfl,hb7⟩;have Hb7:=bt_ Hb6 hb7;clear hb7 Hb6 Hsu;go_wp2_with fail;refine cm_ (Hj1.out w7) ?_;rintro e w8 ⟨rfl,hb8⟩;have Hb8:=bt_ Hb7 hb8;clear hb8 Hb7 Hj1;go_wp2_with fail;refine cm_ (Hj2.out w8) ?_;rintro e w9 ⟨rfl,hb9⟩;have Hb9:=bt_ Hb8 hb9;clear hb9 Hb8 Hj2;go_wp2
    go_ret3
    exact⟨rfl,Hb9.out⟩
  ·rw[decide_eq_false hn] at Hsa;obtain⟨n,rfl⟩:∃ n:Nat,a=(n:Int):=⟨a.natAbs,by omega⟩;have hN:Num n:=ha;rw[show ((n:Int)).natAbs=n by omega] at *
   have Hj1:=hd_ (fun W=>join_any W false (n/b) (Num.le hN (Nat.div_le_self _ _)));have Hj2:=hd_ (fun W=>join_any W false (n%b) (Num.le hN (Nat.mod_le _ _)));rw[show jz false (n/b)=(n:Int)/(b:Int) from rfl] at Hj1;rw[show jz false (n%b)=(n:Int)%(b:Int) from rfl] at Hj2;clear hn;generalize itx ((n:Int)/(b:Int))=r1 at *;generalize itx ((n:Int)%(b:Int))=r2 at *;generalize itx (n:Int)=s at *;generalize dec (n/b)=qd at *;generalize dec (n%b)=rd at *;generalize dec n=sm at *;generalize dec b=tm at *;go_enter Tryz.func103,Tryz.ntmps103;go_wp2_with fail;refine cm_ (Hl1.out w) ?_;rintro e w1 ⟨rfl,hb1⟩;have Hb1:=hd_ hb1;clear hb1 Hl1;go_wp2_with fail;refine cm_ (Hl2.out w1) ?_;rintro e w2 ⟨rfl,hb2⟩;have Hb2:=bt_ Hb1 hb2;clear hb2 Hb1 Hl2;go_wp2_with fail;refine cm_ (Hsa.out w2) ?_;rintro e w3 ⟨rfl,hb3⟩;have Hb3:=bt_ Hb2 hb3;clear hb3 Hb2 Hsa;go_wp2_with fail;refine cm_ (Hsb.out w3) ?_;rintro e w4 ⟨rfl,hb4⟩;have Hb4:=bt_ Hb3 hb4;clear hb4 Hb3 Hsb;go_wp2_with fail;refine cm_ (Hdm.out w4 Hb4.out) ?_;rintro e w5 ⟨rfl,hb5⟩;have Hb5:=bt_ Hb4 hb5;clear hb5 Hb4 Hdm;go_wp2_with fail;refine cm_ (Hj1.out w5) ?_;rintro e w6 ⟨rfl,hb6⟩;have Hb6:=bt_ Hb5 hb6;clear hb6 Hb5 Hj1;go_wp2_with fail;refine cm_ (Hj2.out w6) ?_;rintro e w7 ⟨rfl,hb7⟩;have Hb7:=bt_ Hb6 hb7;clear hb7 Hb6 Hj2;go_wp2
   go_ret3
   exact⟨rfl,Hb7.out⟩
 ·rw[if_pos hl.1] at Hl1;rw[if_pos hl.2] at Hl2;have q1:=itx_lim a 18 (by decide) hl.1;have q2:=(dec_small18 b).1 hl.2;clear hl big Hsa Hsb Hdm;have Hof:Hid (∀ W,Below w.heap.size w W→∀ z:Int,-9223372036854775808≤z→z≤9223372036854775807→Gives Tryz.prog 83 #[.int .i64 z] W (.string (itx z))):=fun W hW z h0 h1=>ofz_any W z h0 h1 (HL.out.below hW)
  have hbz:((b:Int)==0)=false:=by rw[beq_eq_false_iff_ne];omega
  have hbn:¬ (b:Int)<0:=by omega
  have hbi:¬ (b:Int)=0:=by omega
  by_cases hn:a<0
  ·obtain⟨n,rfl⟩:∃ n:Nat,a = -(n:Int):=⟨a.natAbs,by omega⟩;have hn1:n<1000000000000000000:=by omega
   have hdl:n/b≤n:=Nat.div_le_self _ _;have hml:n%b≤n:=Nat.mod_le _ _;have htd:Int.tdiv (-(n:Int)) (b:Int) = -((n/b:Nat):Int):=by rw[Int.neg_tdiv,← Int.ofNat_tdiv]
   have htm:Int.tmod (-(n:Int)) (b:Int) = -((n%b:Nat):Int):=by rw[Int.neg_tmod,← Int.ofNat_tmod]
   by_cases hr:n%b=0
   ·obtain⟨e1,e2⟩:=ediv_neg_exact n b hb0 hr;rw[e1,e2];rw[hr] at htm;rw[show -((0:Nat):Int)=0 from rfl] at htm;clear e1 e2 hr hml;generalize n/b=q at *;have hw1:IntKind.i64.wrap (-(q:Int)) = -(q:Int):=iw_ _ (by omega);have hw2:IntKind.i64.wrap 0=0:=iw_ _ (by omega);have hq1 : -9223372036854775808 ≤ -(q:Int):=by omega
    have hq2 : -(q:Int)≤9223372036854775807:=by omega
    have hr1:(-9223372036854775808:Int)≤0:=by omega
    have hr2:(0:Int)≤9223372036854775807:=by omega
    generalize itx (-(n:Int))=s at *;generalize dec b=tm at *;go_enter Tryz.func103,Tryz.ntmps103;go_wp2_with fail;refine cm_ (Hl1.out w) ?_;rintro e w1 ⟨rfl,hb1⟩;have Hb1:=hd_ hb1;clear hb1 Hl1;go_wp2_with fail;refine cm_ (Hl2.out w1) ?_;rintro e w2 ⟨rfl,hb2⟩;have Hb2:=bt_ Hb1 hb2;clear hb2 Hb1 Hl2;go_wp2_with fail
    go_quiet (fail)
    have Hb3:Hid (Below w.heap.size w (w2.drewN nq)):=below_dn Hb2.out _;clear Hb2;generalize w2.drewN nq=w3 at *;go_wp2_with fail;refine cm_ (Hof.out w3 Hb3.out _ (by omega) (by omega)) ?_;rintro e w4 ⟨rfl,hb4⟩;have Hb4:=bt_ Hb3 hb4;clear hb4 Hb3;go_wp2_with fail;refine cm_ (Hof.out w4 Hb4.out _ (by omega) (by omega)) ?_;rintro e w5 ⟨rfl,hb5⟩;have Hb5:=bt_ Hb4 hb5;clear hb5 Hb4;go_wp2
    go_ret3
    exact⟨rfl,Hb5.out⟩
   ·obtain⟨e1,e2⟩:=ediv_neg_rest n b hb0 hr;rw[e1,e2];have hmb:=Nat.mod_lt n hb0;have hr0:0<n%b:=by omega
    clear e1 e2 hr;generalize n/b=q at *;generalize n%b=r at *;have hw1:IntKind.i64.wrap (-(q:Int)) = -(q:Int):=iw_ _ (by omega);have hw2:IntKind.i64.wrap (-(r:Int)) = -(r:Int):=iw_ _ (by omega);have hw3:IntKind.i64.wrap (-(q:Int)-1) = -(q:Int)-1:=iw_ _ (by omega);have hw4:IntKind.i64.wrap (-(r:Int)+(b:Int)) = -(r:Int)+(b:Int):=iw_ _ (by omega);have hq1 : -9223372036854775808 ≤ -(q:Int)-1:=by omega
    have hq2 : -(q:Int)-1≤9223372036854775807:=by omega
    have hr1:(-9223372036854775808:Int) ≤ -(r:Int)+(b:Int):=by omega
    have hr2 : -(r:Int)+(b:Int)≤9223372036854775807:=by omega
    have hrz:(-(r:Int) != 0)=true:=by rw[bne_iff_ne];omega
    have hrn : -(r:Int)<0:=by omega
    rw[show (b:Int)-(r:Int) = -(r:Int)+(b:Int) by omega];generalize itx (-(n:Int))=s at *;generalize dec b=tm at *;go_enter Tryz.func103,Tryz.ntmps103;go_wp2_with fail;refine cm_ (Hl1.out w) ?_;rintro e w1 ⟨rfl,hb1⟩;have Hb1:=hd_ hb1;clear hb1 Hl1;go_wp2_with fail;refine cm_ (Hl2.out w1) ?_;rintro e w2 ⟨rfl,hb2⟩;have Hb2:=bt_ Hb1 hb2;clear hb2 Hb1 Hl2;go_wp2_with fail
    go_quiet (fail)
    have Hb3:Hid (Below w.heap.size w (w2.drewN nq)):=below_dn Hb2.out _;clear Hb2;generalize w2.drewN nq=w3 at *;go_wp2_with fail;refine cm_ (Hof.out w3 Hb3.out _ (by omega) (by omega)) ?_;rintro e w4 ⟨rfl,hb4⟩;have Hb4:=bt_ Hb3 hb4;clear hb4 Hb3;go_wp2_with fail;refine cm_ (Hof.out w4 Hb4.out _ (by omega) (by omega)) ?_;rintro e w5 ⟨rfl,hb5⟩;have Hb5:=bt_ Hb4 hb5;clear hb5 Hb4;go_wp2
    go_ret3
    exact⟨rfl,Hb5.out⟩
  ·obtain⟨n,rfl⟩:∃ n:Nat,a=(n:Int):=⟨a.natAbs,by omega⟩;have hn1:n<1000000000000000000:=by omega
   have hdl:n/b≤n:=Nat.div_le_self _ _;have hml:n%b≤n:=Nat.mod_le _ _;have htd:Int.tdiv (n:Int) (b:Int)=((n/b:Nat):Int):=by rw[← Int.ofNat_tdiv]
   have htm:Int.tmod (n:Int) (b:Int)=((n%b:Nat):Int):=by rw[← Int.ofNat_tmod]
   obtain⟨e1,e2⟩:=ediv_nat n b;rw[e1,e2];clear e1 e2;generalize n/b=q at *;generalize n%b=r at *;have hw1:IntKind.i64.wrap (q:Int)=(q:Int):=iw_ _ (by omega);have hw2:IntKind.i64.wrap (r:Int)=(r:Int):=iw_ _ (by omega);have hq1 : -9223372036854775808≤(q:Int):=by omega
   have hq2:(q:Int)≤9223372036854775807:=by omega
   have hr1:(-9223372036854775808:Int)≤(r:Int):=by omega
   have hr2:(r:Int)≤9223372036854775807:=by omega
   generalize itx (n:Int)=s at *;generalize dec b=tm at *;rcases Nat.eq_zero_or_pos r with hr0|hr0
   ·subst hr0;have hw5:IntKind.i64.wrap 0=0:=iw_ _ (by omega);go_enter Tryz.func103,Tryz.ntmps103;go_wp2_with fail;refine cm_ (Hl1.out w) ?_;rintro e w1 ⟨rfl,hb1⟩;have Hb1:=hd_ hb1;clear hb1 Hl1;go_wp2_with fail;refine cm_ (Hl2.out w1) ?_;rintro e w2 ⟨rfl,hb2⟩;have Hb2:=bt_ Hb1 hb2;clear hb2 Hb1 Hl2;go_wp2_with fail
    go_quiet (fail)
    have Hb3:Hid (Below w.heap.size w (w2.drewN nq)):=below_dn Hb2.out _;clear Hb2;generalize w2.drewN nq=w3 at *;go_wp2_with fail;refine cm_ (Hof.out w3 Hb3.out _ (by omega) (by omega)) ?_;rintro e w4 ⟨rfl,hb4⟩;have Hb4:=bt_ Hb3 hb4;clear hb4 Hb3;go_wp2_with fail;refine cm_ (Hof.out w4 Hb4.out _ (by omega) (by omega)) ?_;rintro e w5 ⟨rfl,hb5⟩;have Hb5:=bt_ Hb4 hb5;clear hb5 Hb4;go_wp2
    go_ret3
    exact⟨rfl,Hb5.out⟩
   ·have hrz:((r:Int) != 0)=true:=by rw[bne_iff_ne];omega
    have hrn:decide ((r:Int)<0)=false:=decide_eq_false (by omega);have hbn2:decide ((b:Int)<0)=false:=decide_eq_false (by omega);go_enter Tryz.func103,Tryz.ntmps103;go_wp2_with fail;refine cm_ (Hl1.out w) ?_;rintro e w1 ⟨rfl,hb1⟩;have Hb1:=hd_ hb1;clear hb1 Hl1;go_wp2_with fail;refine cm_ (Hl2.out w1) ?_;rintro e w2 ⟨rfl,hb2⟩;have Hb2:=bt_ Hb1 hb2;clear hb2 Hb1 Hl2;go_wp2_with fail
    go_quiet (fail)
    have Hb3:Hid (Below w.heap.size w (w2.drewN nq)):=below_dn Hb2.out _;clear Hb2;generalize w2.drewN nq=w3 at *;go_wp2_with fail;refine cm_ (Hof.out w3 Hb3.out _ (by omega) (by omega)) ?_;rintro e w4 ⟨rfl,hb4⟩;have Hb4:=bt_ Hb3 hb4;clear hb4 Hb3;go_wp2_with fail;refine cm_ (Hof.out w4 Hb4.out _ (by omega) (by omega)) ?_;rintro e w5 ⟨rfl,hb5⟩;have Hb5:=bt_ Hb4 hb5;clear hb5 Hb4;go_wp2
    go_ret3
    exact⟨rfl,Hb5.out⟩
end Go.Proofs.YtepicfdhphiiaaaGreatDoor

/- Lattices of integer rows, plain: the Hermite normal form is one; ranks; annihilators; join and meet. -/
namespace Go.Proofs.YtepicfdhphiiaaaGreatDoor

/-- Rows of integers, without an end. -/
abbrev Vc := Nat → Int
def vz : Vc := fun _ => 0
/-- The lattice that rows generate. -/
def Sp : List Vc → Vc → Prop
  | [], x => x = vz
  | r :: m, x => ∃ c : Int, Sp m fun i => x i - c * r i

theorem sp_zero : ∀ m, Sp m vz
  | [] => rfl
  | r :: m => ⟨0, by have e : (fun i => vz i - 0 * r i) = vz := by funext i; simp [vz]
                     rw [e]; exact sp_zero m⟩
theorem sp_lin (k : Int) : ∀ (m : List Vc) (x y : Vc), Sp m x → Sp m y → Sp m fun i => x i + k * y i
  | [], x, y, hx, hy => by
    show _ = _
    rw [show x = vz from hx, show y = vz from hy]
    funext i; simp [vz]
  | r :: m, x, y, ⟨a, ha⟩, ⟨b, hb⟩ => ⟨a + k * b, by
    have h := sp_lin k m _ _ ha hb
    have e : (fun i => x i + k * y i - (a + k * b) * r i) = fun i => (x i - a * r i) + k * (y i - b * r i) := by funext i; grind
    rw [e]; exact h⟩
theorem sp_mul (k : Int) {m : List Vc} {x : Vc} (h : Sp m x) : Sp m fun i => k * x i := by
  have := sp_lin k m _ _ (sp_zero m) h
  have e : (fun i => vz i + k * x i) = fun i => k * x i := by funext i; simp [vz]
  rwa [e] at this
theorem sp_tail {r : Vc} {m : List Vc} {x : Vc} (h : Sp m x) : Sp (r :: m) x := ⟨0, by
  have e : (fun i => x i - 0 * r i) = x := by funext i; omega
  rw [e]; exact h⟩
theorem sp_mem : ∀ {m : List Vc} {r : Vc}, r ∈ m → Sp m r
  | s :: m, r, h => by
    rcases List.mem_cons.1 h with rfl | h
    · refine ⟨1, ?_⟩
      have e : (fun i => r i - 1 * r i) = vz := by funext i; simp [vz]
      rw [e]; exact sp_zero m
    · exact sp_tail (sp_mem h)
theorem sp_le : ∀ {m m' : List Vc}, (∀ r ∈ m, Sp m' r) → ∀ {x}, Sp m x → Sp m' x
  | [], m', _, x, h => by rw [show x = vz from h]; exact sp_zero m'
  | r :: m, m', hr, x, ⟨c, hc⟩ => by
    have h1 := sp_le (fun s hs => hr s (List.mem_cons_of_mem _ hs)) hc
    have h2 := sp_lin c m' _ _ h1 (hr r List.mem_cons_self)
    have e : (fun i => x i - c * r i + c * r i) = x := by funext i; omega
    rwa [e] at h2
theorem sp_append {x : Vc} : ∀ {m m' : List Vc}, Sp (m ++ m') x ↔ ∃ y, Sp m y ∧ Sp m' fun i => x i - y i
  | [], m' => by
    constructor
    · intro h
      refine ⟨vz, rfl, ?_⟩
      have e : (fun i => x i - vz i) = x := by funext i; simp [vz]
      rw [e]; exact h
    · rintro ⟨y, hy, h⟩
      rw [show y = vz from hy] at h
      have e : (fun i => x i - vz i) = x := by funext i; simp [vz]
      rwa [e] at h
  | r :: m, m' => by
    constructor
    · rintro ⟨c, hc⟩
      obtain ⟨y, h1, h2⟩ := sp_append.1 hc
      refine ⟨fun i => y i + c * r i, ⟨c, ?_⟩, ?_⟩
      · have e : (fun i => y i + c * r i - c * r i) = y := by funext i; omega
        rw [e]; exact h1
      · have e : (fun i => x i - (y i + c * r i)) = fun i => x i - c * r i - y i := by funext i; omega
        rw [e]; exact h2
    · rintro ⟨y, ⟨c, hc⟩, h⟩
      refine ⟨c, sp_append.2 ⟨_, hc, ?_⟩⟩
      have e : (fun i => x i - c * r i - (y i - c * r i)) = fun i => x i - y i := by funext i; omega
      rw [e]; exact h

/-- r begins with zeros, and has a number that is not 0 at p. -/
def Piv (r : Vc) (p : Nat) : Prop := (∀ j, j < p → r j = 0) ∧ r p ≠ 0
theorem piv_one {r : Vc} {p q : Nat} (h1 : Piv r p) (h2 : Piv r q) : p = q := by
  rcases Nat.lt_trichotomy p q with h | h | h
  · exact absurd (h2.1 p h) h1.2
  · exact h
  · exact absurd (h1.1 q h) h2.2
/-- Echelon form. -/
def Ech : Nat → List Vc → Prop
  | _, [] => True
  | lo, r :: m => ∃ p, lo ≤ p ∧ (∀ j, j < p → r j = 0) ∧ 0 < r p ∧ Ech (p + 1) m
/-- Numbers above the pivots are reduced. -/
def Redu : List Vc → Prop
  | [] => True
  | r :: m => (∀ s ∈ m, ∀ q, Piv s q → 0 ≤ r q ∧ r q < s q) ∧ Redu m
theorem ech_lo : ∀ {m : List Vc} {lo : Nat}, Ech lo m → ∀ {x}, Sp m x → ∀ j, j < lo → x j = 0
  | [], lo, _, x, h, j, _ => by rw [show x = vz from h]; rfl
  | r :: m, lo, ⟨p, hp, h0, _, hm⟩, x, ⟨c, hc⟩, j, hj => by
    have h1 := ech_lo hm hc j (by omega)
    have h2 := h0 j (by omega)
    simp only [h2, Int.mul_zero, Int.sub_zero] at h1
    exact h1
theorem ech_mono : ∀ {m : List Vc} {lo lo' : Nat}, lo' ≤ lo → Ech lo m → Ech lo' m
  | [], _, _, _, _ => trivial
  | r :: m, lo, lo', h, ⟨p, hp, h0, h1, hm⟩ => ⟨p, by omega, h0, h1, hm⟩
/-- A row of the lattice with small numbers at all pivots is 0. -/
theorem ech_zero : ∀ {m : List Vc} {lo : Nat}, Ech lo m → ∀ {x}, Sp m x → (∀ s ∈ m, ∀ q, Piv s q → -(s q) < x q ∧ x q < s q) → x = vz
  | [], _, _, x, h, _ => h
  | r :: m, lo, ⟨p, hp, h0, h1, hm⟩, x, ⟨c, hc⟩, hs => by
    have hx := hs r List.mem_cons_self p ⟨h0, by omega⟩
    have h2 := ech_lo hm hc p (by omega)
    have h3 : x p = c * r p := by omega
    have hc0 : c = 0 := by
      rw [h3] at hx
      rcases Int.lt_trichotomy c 0 with h | h | h
      · have : c * r p ≤ -1 * r p := Int.mul_le_mul_of_nonneg_right (by omega) (by omega)
        omega
      · exact h
      · have : 1 * r p ≤ c * r p := Int.mul_le_mul_of_nonneg_right (by omega) (by omega)
        omega
    subst hc0
    have e : (fun i => x i - 0 * r i) = x := by funext i; omega
    rw [e] at hc
    exact ech_zero hm hc fun s hs' q hq => hs s (List.mem_cons_of_mem _ hs') q hq
theorem ech_pos : ∀ {m : List Vc} {lo : Nat}, Ech lo m → ∀ s ∈ m, ∀ q, Piv s q → 0 < s q ∧ lo ≤ q
  | r :: m, lo, ⟨p, hp, h0, h1, hm⟩, s, hs, q, hq => by
    rcases List.mem_cons.1 hs with rfl | hs
    · obtain rfl := piv_one hq ⟨h0, by omega⟩
      exact ⟨h1, hp⟩
    · have := ech_pos hm s hs q hq
      exact ⟨this.1, by omega⟩
theorem int_unit {a b c d : Int} (ha : 0 < a) (hb : 0 < b) (h1 : a = c * b) (h2 : b = d * a) : c = 1 := by
  have hc : 0 < c := by
    rcases Int.lt_trichotomy c 0 with h | h | h
    · have : c * b ≤ -1 * b := Int.mul_le_mul_of_nonneg_right (by omega) (by omega)
      omega
    · subst h; omega
    · exact h
  have hd : 0 < d := by
    rcases Int.lt_trichotomy d 0 with h | h | h
    · have : d * a ≤ -1 * a := Int.mul_le_mul_of_nonneg_right (by omega) (by omega)
      omega
    · subst h; omega
    · exact h
  have h3 : a ≤ b := by
    have : 1 * a ≤ d * a := Int.mul_le_mul_of_nonneg_right (by omega) (by omega)
    omega
  have h4 : b ≤ a := by
    have : 1 * b ≤ c * b := Int.mul_le_mul_of_nonneg_right (by omega) (by omega)
    omega
  have h5 : a = b := by omega
  subst h5
  rcases Int.lt_trichotomy c 1 with h | h | h
  · omega
  · exact h
  · have : 2 * a ≤ c * a := Int.mul_le_mul_of_nonneg_right (by omega) (by omega)
    omega
/-- The Hermite normal form of a lattice is one. -/
theorem hnf_one : ∀ {m m' : List Vc} {lo lo' : Nat}, Ech lo m → Ech lo' m' → Redu m → Redu m' → (∀ x, Sp m x ↔ Sp m' x) → m = m'
  | [], [], _, _, _, _, _, _, _ => rfl
  | [], r :: m', lo, lo', _, ⟨p, _, _, h1, _⟩, _, _, h => by
    have := (h r).2 (sp_mem List.mem_cons_self)
    rw [show r = vz from this] at h1
    exact absurd h1 (by simp [vz])
  | r :: m, [], lo, lo', ⟨p, _, _, h1, _⟩, _, _, _, h => by
    have := (h r).1 (sp_mem List.mem_cons_self)
    rw [show r = vz from this] at h1
    exact absurd h1 (by simp [vz])
  | r :: m, r' :: m', lo, lo', ⟨p, hp, h0, h1, hm⟩, ⟨p', hp', h0', h1', hm'⟩, hr, hr', h => by
    have q1 := (h r).1 (sp_mem List.mem_cons_self)
    have q2 := (h r').2 (sp_mem List.mem_cons_self)
    have e1 := ech_lo (show Ech p' (r' :: m') from ⟨p', Nat.le_refl _, h0', h1', hm'⟩) q1
    have e2 := ech_lo (show Ech p (r :: m) from ⟨p, Nat.le_refl _, h0, h1, hm⟩) q2
    have hpp : p = p' := by
      rcases Nat.lt_trichotomy p p' with hc | hc | hc
      · have := e1 p hc; omega
      · exact hc
      · have := e2 p' hc; omega
    subst hpp
    obtain ⟨c, hc⟩ := q1
    obtain ⟨d, hd⟩ := q2
    have c1 := ech_lo hm' hc p (by omega)
    have d1 := ech_lo hm hd p (by omega)
    have hc1 : c = 1 := int_unit h1 h1' (by omega) (by omega : r' p = d * r p)
    subst hc1
    have ht : ∀ x, Sp m x ↔ Sp m' x := by
      intro x
      constructor
      · intro hx
        obtain ⟨b, hb⟩ := (h x).1 (sp_tail hx)
        have b1 := ech_lo hm' hb p (by omega)
        have b2 := ech_lo hm hx p (by omega)
        simp only [b2] at b1
        have hb0 : b = 0 := by
          rcases Int.mul_eq_zero.1 (show b * r' p = 0 by omega) with h | h
          · exact h
          · omega
        subst hb0
        have e : (fun i => x i - 0 * r' i) = x := by funext i; omega
        rwa [e] at hb
      · intro hx
        obtain ⟨b, hb⟩ := (h x).2 (sp_tail hx)
        have b1 := ech_lo hm hb p (by omega)
        have b2 := ech_lo hm' hx p (by omega)
        simp only [b2] at b1
        have hb0 : b = 0 := by
          rcases Int.mul_eq_zero.1 (show b * r p = 0 by omega) with h | h
          · exact h
          · omega
        subst hb0
        have e : (fun i => x i - 0 * r i) = x := by funext i; omega
        rwa [e] at hb
    have hmm := hnf_one hm hm' hr.2 hr'.2 ht
    subst hmm
    have hz := ech_zero hm' hc fun s hs q hq => by
      have a1 := hr.1 s hs q hq
      have a2 := hr'.1 s hs q hq
      omega
    have : r = r' := by
      funext i
      have := congrFun hz i
      simp only [vz] at this
      omega
    rw [this]

/-- Rows that begin with zeros: those behind a column. -/
theorem ech_behind : ∀ {m : List Vc} {lo : Nat}, Ech lo m → ∀ (k : Nat), ∃ a b, m = a ++ b ∧ (∀ r ∈ a, ∃ p, p < k ∧ Piv r p) ∧ Ech k b ∧ ∀ x, (Sp m x ∧ ∀ j, j < k → x j = 0) ↔ Sp b x
  | [], lo, _, k => ⟨[], [], rfl, by simp, trivial, fun x => ⟨fun h => h.1, fun h => ⟨h, fun j _ => by rw [show x = vz from h]; rfl⟩⟩⟩
  | r :: m, lo, ⟨p, hp, h0, h1, hm⟩, k => by
    by_cases hk : p < k
    · obtain ⟨a, b, e, ha, hb, hx⟩ := ech_behind hm k
      refine ⟨r :: a, b, by rw [e]; rfl, fun s hs => ?_, hb, fun x => ?_⟩
      · rcases List.mem_cons.1 hs with rfl | hs
        · exact ⟨p, hk, h0, by omega⟩
        · exact ha s hs
      · constructor
        · rintro ⟨⟨c, hc⟩, hz⟩
          have h2 := ech_lo hm hc p (by omega)
          have h3 := hz p hk
          simp only [h3] at h2
          have hc0 : c = 0 := by
            rcases Int.mul_eq_zero.1 (show c * r p = 0 by omega) with h | h
            · exact h
            · omega
          subst hc0
          have e : (fun i => x i - 0 * r i) = x := by funext i; omega
          rw [e] at hc
          exact (hx x).1 ⟨hc, hz⟩
        · intro h
          obtain ⟨q1, q2⟩ := (hx x).2 h
          exact ⟨sp_tail q1, q2⟩
    · refine ⟨[], r :: m, rfl, by simp, ⟨p, by omega, h0, h1, hm⟩, fun x => ⟨fun h => h.1, fun h => ⟨h, fun j hj => ?_⟩⟩⟩
      exact ech_lo (show Ech p (r :: m) from ⟨p, Nat.le_refl _, h0, h1, hm⟩) h j (by omega)
/-! Existence of echelon bases. -/
/-- A lattice az a property: closed under sums with multiples. -/
structure IsLat (S : Vc → Prop) : Prop where
  z : S vz
  l : ∀ (k : Int) {x y}, S x → S y → S fun i => x i + k * y i
theorem sp_lat (m : List Vc) : IsLat (Sp m) := ⟨sp_zero m, fun k {_ _} hx hy => sp_lin k m _ _ hx hy⟩
theorem lmin_pos (P : Nat → Prop) : ∀ n, P n → ∃ d, P d ∧ ∀ e, e < d → ¬ P e := by
  intro n
  induction n using Nat.strongRecOn with
  | ind n ih =>
    intro h
    by_cases hc : ∃ e, e < n ∧ P e
    · obtain ⟨e, he, hp⟩ := hc
      exact ih e he hp
    · exact ⟨n, h, fun e he hp => hc ⟨e, he, hp⟩⟩
/-- Every lattice of rows with n elements has an echelon basis. -/
theorem ech_exists {S : Vc → Prop} (hS : IsLat S) (n : Nat) (hn : ∀ x, S x → ∀ i, n ≤ i → x i = 0) : ∀ d lo, lo + d = n → ∃ E, Ech lo E ∧ ∀ x, Sp E x ↔ S x ∧ ∀ j, j < lo → x j = 0
  | 0, lo, h => ⟨[], trivial, fun x => ⟨fun h => by rw [show x = vz from h]; exact ⟨hS.z, fun _ _ => rfl⟩, fun ⟨h1, h2⟩ => by
      show x = vz
      funext i
      rcases Nat.lt_or_ge i lo with h3 | h3
      · exact h2 i h3
      · exact hn x h1 i (by omega)⟩⟩
  | d + 1, lo, h => by
    obtain ⟨E, hE, hx⟩ := ech_exists hS n hn d (lo + 1) (by omega)
    by_cases hc : ∃ x, S x ∧ (∀ j, j < lo → x j = 0) ∧ x lo ≠ 0
    · obtain ⟨x0, s0, z0, n0⟩ := hc
      have hP : ∃ t : Nat, ∃ x, S x ∧ (∀ j, j < lo → x j = 0) ∧ 0 < x lo ∧ x lo = (t : Int) := by
        rcases Int.lt_trichotomy (x0 lo) 0 with hh | hh | hh
        · refine ⟨(-(x0 lo)).toNat, fun i => vz i + -1 * x0 i, hS.l _ hS.z s0, fun j hj => ?_, ?_, ?_⟩
          · show (0 : Int) + -1 * x0 j = 0; rw [z0 j hj]; rfl
          · show 0 < (0 : Int) + -1 * x0 lo; omega
          · show (0 : Int) + -1 * x0 lo = _; omega
        · exact absurd hh n0
        · exact ⟨(x0 lo).toNat, x0, s0, z0, hh, by omega⟩
      obtain ⟨t0, ht0⟩ := hP
      obtain ⟨t, ⟨r, sr, zr, pr, er⟩, hmin⟩ := lmin_pos (fun t : Nat => ∃ x, S x ∧ (∀ j, j < lo → x j = 0) ∧ 0 < x lo ∧ x lo = (t : Int)) t0 ht0
      refine ⟨r :: E, ⟨lo, Nat.le_refl _, zr, pr, hE⟩, fun x => ⟨?_, ?_⟩⟩
      · rintro ⟨c, hc⟩
        obtain ⟨h1, h2⟩ := (hx _).1 hc
        have h3 := hS.l c h1 sr
        have e : (fun i => x i - c * r i + c * r i) = x := by funext i; omega
        rw [e] at h3
        refine ⟨h3, fun j hj => ?_⟩
        have h4 := h2 j (by omega)
        rw [zr j hj, Int.mul_zero, Int.sub_zero] at h4
        exact h4
      · rintro ⟨sx, zx⟩
        refine ⟨x lo / r lo, (hx _).2 ⟨?_, fun j hj => ?_⟩⟩
        · have h3 := hS.l (-(x lo / r lo)) sx sr
          have e : (fun i => x i + -(x lo / r lo) * r i) = fun i => x i - x lo / r lo * r i := by funext i; rw [Int.neg_mul]; omega
          rwa [e] at h3
        · rcases Nat.lt_or_ge j lo with h4 | h4
          · show x j - x lo / r lo * r j = 0; rw [zx j h4, zr j h4, Int.mul_zero]; rfl
          · obtain rfl : j = lo := by omega
            have h5 := Int.emod_add_mul_ediv (x j) (r j)
            have h6 := Int.emod_nonneg (x j) (show r j ≠ 0 by omega)
            have h7 := Int.emod_lt_of_pos (x j) pr
            have h8 : x j - x j / r j * r j = x j % r j := by rw [Int.mul_comm]; omega
            show x j - x j / r j * r j = 0
            rw [h8]
            refine Decidable.byContradiction fun hne => ?_
            have h3 := hS.l (-(x j / r j)) sx sr
            have e : (fun i => x i + -(x j / r j) * r i) = fun i => x i - x j / r j * r i := by funext i; rw [Int.neg_mul]; omega
            rw [e] at h3
            refine hmin (x j % r j).toNat (by omega) ⟨_, h3, fun i hi => ?_, ?_, ?_⟩
            · show x i - x j / r j * r i = 0; rw [zx i hi, zr i hi, Int.mul_zero]; rfl
            · show 0 < x j - x j / r j * r j; omega
            · show x j - x j / r j * r j = _; omega
    · refine ⟨E, ech_mono (Nat.le_succ _) hE, fun x => ⟨fun h1 => ?_, fun ⟨h1, h2⟩ => (hx x).2 ⟨h1, fun j hj => ?_⟩⟩⟩
      · obtain ⟨h2, h3⟩ := (hx x).1 h1
        exact ⟨h2, fun j hj => h3 j (by omega)⟩
      · rcases Nat.lt_or_ge j lo with h4 | h4
        · exact h2 j h4
        · obtain rfl : j = lo := by omega
          exact Decidable.byContradiction fun hne => hc ⟨x, h1, h2, hne⟩

/-! Independence, and the number of elements of a basis. -/
/-- Linear combinations. -/
def lc : List Int → List Vc → Vc
  | c :: cs, r :: m => fun i => c * r i + lc cs m i
  | _, _ => vz
theorem sp_lc : ∀ {m : List Vc} {x : Vc}, Sp m x ↔ ∃ cs, cs.length = m.length ∧ x = lc cs m
  | [], x => ⟨fun h => ⟨[], rfl, h⟩, fun ⟨cs, hl, h⟩ => by rw [List.eq_nil_of_length_eq_zero hl] at h; exact h⟩
  | r :: m, x => by
    constructor
    · rintro ⟨c, hc⟩
      obtain ⟨cs, hl, h⟩ := sp_lc.1 hc
      refine ⟨c :: cs, by simp [hl], ?_⟩
      funext i
      have := congrFun h i
      show x i = c * r i + lc cs m i
      omega
    · rintro ⟨cs, hl, h⟩
      match cs, hl with
      | c :: cs, hl =>
        refine ⟨c, sp_lc.2 ⟨cs, by simpa using hl, ?_⟩⟩
        funext i
        have := congrFun h i
        have e : lc (c :: cs) (r :: m) i = c * r i + lc cs m i := rfl
        omega
/-- Not independent. -/
def Dep (m : List Vc) : Prop := ∃ cs, cs.length = m.length ∧ (∃ c ∈ cs, c ≠ 0) ∧ lc cs m = vz
theorem lc_append : ∀ (cs : List Int) (m : List Vc) (ds : List Int) (k : List Vc), cs.length = m.length → lc (cs ++ ds) (m ++ k) = fun i => lc cs m i + lc ds k i
  | [], [], ds, k, _ => by funext i; simp [lc, vz]
  | c :: cs, r :: m, ds, k, h => by
    funext i
    have := congrFun (lc_append cs m ds k (by simpa using h)) i
    show c * r i + lc (cs ++ ds) (m ++ k) i = c * r i + lc cs m i + lc ds k i
    omega
  | [], _ :: _, _, _, h => by simp at h
  | _ :: _, [], _, _, h => by simp at h
theorem lc_zero : ∀ m : List Vc, lc (List.replicate m.length 0) m = vz
  | [] => rfl
  | r :: m => by
    funext i
    have := congrFun (lc_zero m) i
    show 0 * r i + lc (List.replicate m.length 0) m i = 0
    have h : (vz : Vc) i = 0 := rfl
    omega
/-- Elimination: a times each row of m, less its own multiple of v. -/
theorem lc_elim (a : Int) (v : Vc) : ∀ (ds : List Int) (az : List Int) (m : List Vc), ds.length = m.length → az.length = m.length → lc ds (List.zipWith (fun b r => fun i => a * r i - b * v i) az m) = fun i => lc (ds.map fun d => d * a) m i - (List.zipWith (fun d b => d * b) ds az).sum * v i
  | [], [], [], _, _ => by funext i; simp [lc, vz]
  | d :: ds, b :: az, r :: m, h1, h2 => by
    funext i
    have := congrFun (lc_elim a v ds az m (by simpa using h1) (by simpa using h2)) i
    show d * (a * r i - b * v i) + lc ds (List.zipWith (fun b r => fun i => a * r i - b * v i) az m) i = d * a * r i + lc (ds.map fun d => d * a) m i - (d * b + (List.zipWith (fun d b => d * b) ds az).sum) * v i
    rw [this]
    grind
  | [], _, _ :: _, h, _ => by simp at h
  | _ :: _, _, [], h, _ => by simp at h
  | _, [], _ :: _, _, h => by simp at h
  | _, _ :: _, [], _, h => by simp at h
/-- More rows than generators are dependent. -/
theorem steinitz : ∀ (us vs : List Vc), us.length < vs.length → (∀ v ∈ vs, Sp us v) → Dep vs
  | [], vs, hl, h => by
    match vs, hl with
    | v :: vs, _ =>
      refine ⟨1 :: List.replicate vs.length 0, by simp, ⟨1, List.mem_cons_self, by decide⟩, ?_⟩
      funext i
      have e := congrFun (lc_zero vs) i
      have hv := congrFun (show v = vz from h v List.mem_cons_self) i
      show 1 * v i + lc (List.replicate vs.length 0) vs i = 0
      have h0 : (vz : Vc) i = 0 := rfl
      omega
  | u :: us, vs, hl, h => by
    by_cases hc : ∀ v ∈ vs, Sp us v
    · exact steinitz us vs (by simp at hl; omega) hc
    · have hc2 : ∃ v, v ∈ vs ∧ ¬ Sp us v := Classical.byContradiction fun hn => hc fun v hv => Classical.byContradiction fun hs => hn ⟨v, hv, hs⟩
      obtain ⟨v, hv, hns⟩ := hc2
      obtain ⟨xs, ys, rfl⟩ := List.append_of_mem hv
      obtain ⟨a, ha⟩ := h v hv
      have ha0 : a ≠ 0 := by
        rintro rfl
        have e : (fun i => v i - 0 * u i) = v := by funext i; omega
        rw [e] at ha
        exact hns ha
      have key : ∀ m : List Vc, (∀ r ∈ m, r ∈ xs ++ v :: ys) → ∃ az : List Int, az.length = m.length ∧ ∀ s ∈ List.zipWith (fun b r => fun i => a * r i - b * v i) az m, Sp us s := by
        intro m
        induction m with
        | nil => intro _; exact ⟨[], rfl, by simp⟩
        | cons r m ih =>
          intro hm
          obtain ⟨az, hla, hs⟩ := ih fun s hs => hm s (List.mem_cons_of_mem _ hs)
          obtain ⟨b, hb⟩ := h r (hm r List.mem_cons_self)
          refine ⟨b :: az, by simp [hla], fun s hs2 => ?_⟩
          rw [List.zipWith_cons_cons] at hs2
          rcases List.mem_cons.1 hs2 with rfl | hs2
          · have h1 := sp_lin (-b) us _ _ (sp_mul a hb) ha
            have e : (fun i => a * (r i - b * u i) + -b * (v i - a * u i)) = fun i => a * r i - b * v i := by funext i; grind
            rwa [e] at h1
          · exact hs s hs2
      obtain ⟨az, hla, hsa⟩ := key xs fun r hr => List.mem_append_left _ hr
      obtain ⟨bs, hlb, hsb⟩ := key ys fun r hr => List.mem_append_right _ (List.mem_cons_of_mem _ hr)
      have hlen : us.length < (List.zipWith (fun b r => fun i => a * r i - b * v i) az xs ++ List.zipWith (fun b r => fun i => a * r i - b * v i) bs ys).length := by
        simp only [List.length_append, List.length_zipWith, List.length_cons] at hl ⊢
        omega
      obtain ⟨cs, hlc, ⟨c, hcm, hcn⟩, hz⟩ := steinitz us _ hlen fun s hs => by
        rcases List.mem_append.1 hs with hs | hs
        · exact hsa s hs
        · exact hsb s hs
      obtain ⟨ds, es, rfl, hld, hle⟩ : ∃ ds es, cs = ds ++ es ∧ ds.length = xs.length ∧ es.length = ys.length := by
        refine ⟨cs.take xs.length, cs.drop xs.length, (List.take_append_drop _ _).symm, ?_, ?_⟩
        · simp only [List.length_append, List.length_zipWith] at hlc
          rw [List.length_take]; omega
        · simp only [List.length_append, List.length_zipWith] at hlc
          rw [List.length_drop]; omega
      rw [lc_append _ _ _ _ (by simp only [List.length_zipWith]; omega), lc_elim a v ds az xs hld hla, lc_elim a v es bs ys hle hlb] at hz
      refine ⟨ds.map (fun d => d * a) ++ (-((List.zipWith (fun d b => d * b) ds az).sum + (List.zipWith (fun d b => d * b) es bs).sum)) :: es.map (fun d => d * a), by simp [hld, hle], ?_, ?_⟩
      · refine ⟨c * a, ?_, Int.mul_ne_zero hcn ha0⟩
        rcases List.mem_append.1 hcm with hm | hm
        · exact List.mem_append_left _ (List.mem_map.2 ⟨c, hm, rfl⟩)
        · exact List.mem_append_right _ (List.mem_cons_of_mem _ (List.mem_map.2 ⟨c, hm, rfl⟩))
      · rw [lc_append _ _ _ _ (by simp [hld])]
        funext i
        have h1 := congrFun hz i
        show lc (ds.map fun d => d * a) xs i + (-((List.zipWith (fun d b => d * b) ds az).sum + (List.zipWith (fun d b => d * b) es bs).sum) * v i + lc (es.map fun d => d * a) ys i) = 0
        have h0 : (vz : Vc) i = 0 := rfl
        rw [h0] at h1
        grind
theorem ech_ind : ∀ {m : List Vc} {lo : Nat}, Ech lo m → ¬ Dep m
  | [], _, _, ⟨cs, hl, ⟨c, hc, _⟩, _⟩ => by rw [List.eq_nil_of_length_eq_zero hl] at hc; cases hc
  | r :: m, lo, ⟨p, hp, h0, h1, hm⟩, ⟨cs, hl, hc, hz⟩ => by
    match cs, hl with
    | a :: cs, hl =>
      have hl' : cs.length = m.length := by simpa using hl
      have hs : Sp m (lc cs m) := sp_lc.2 ⟨cs, hl', rfl⟩
      have e1 := ech_lo hm hs p (by omega)
      have e2 := congrFun hz p
      have e3 : lc (a :: cs) (r :: m) p = a * r p + lc cs m p := rfl
      have h0' : (vz : Vc) p = 0 := rfl
      have ha : a = 0 := by
        rcases Int.mul_eq_zero.1 (show a * r p = 0 by omega) with h | h
        · exact h
        · omega
      subst ha
      refine ech_ind hm ⟨cs, hl', ?_, ?_⟩
      · obtain ⟨c, hc, hn⟩ := hc
        rcases List.mem_cons.1 hc with rfl | hc
        · exact absurd rfl hn
        · exact ⟨c, hc, hn⟩
      · funext i
        have := congrFun hz i
        have e3 : lc (0 :: cs) (r :: m) i = 0 * r i + lc cs m i := rfl
        have h0' : (vz : Vc) i = 0 := rfl
        omega
/-- Two independent lists that generate the same lattice are equally long. -/
theorem rank_one {m m' : List Vc} (h1 : ¬ Dep m) (h2 : ¬ Dep m') (h : ∀ x, Sp m x ↔ Sp m' x) : m.length = m'.length := by
  rcases Nat.lt_trichotomy m.length m'.length with hl | hl | hl
  · exact absurd (steinitz m m' hl fun v hv => (h v).2 (sp_mem hv)) h2
  · exact hl
  · exact absurd (steinitz m' m hl fun v hv => (h v).1 (sp_mem hv)) h1
/-! Linear maps. -/
structure Lin (f : Vc → Vc) : Prop where
  l : ∀ (k : Int) (x y : Vc), f (fun i => x i + k * y i) = fun i => f x i + k * f y i
theorem Lin.zero {f : Vc → Vc} (h : Lin f) : f vz = vz := by
  have := h.l (-1) vz vz
  have e : (fun i => (vz : Vc) i + -1 * (vz : Vc) i) = vz := by funext i; simp [vz]
  rw [e] at this
  funext i
  have := congrFun this i
  have h0 : (vz : Vc) i = 0 := rfl
  omega
theorem Lin.sub {f : Vc → Vc} (h : Lin f) (k : Int) (x y : Vc) : f (fun i => x i - k * y i) = fun i => f x i - k * f y i := by
  have := h.l (-k) x y
  have e : (fun i => x i + -k * y i) = fun i => x i - k * y i := by funext i; rw [Int.neg_mul]; omega
  rw [e] at this
  rw [this]
  funext i; rw [Int.neg_mul]; omega
theorem sp_map {f : Vc → Vc} (hf : Lin f) : ∀ {m : List Vc} {y : Vc}, Sp (m.map f) y ↔ ∃ x, Sp m x ∧ y = f x
  | [], y => ⟨fun h => ⟨vz, rfl, by rw [hf.zero]; exact h⟩, fun ⟨x, hx, h⟩ => by rw [show x = vz from hx, hf.zero] at h; exact h⟩
  | r :: m, y => by
    constructor
    · rintro ⟨c, hc⟩
      obtain ⟨x, hx, h⟩ := (sp_map hf).1 hc
      refine ⟨fun i => x i + c * r i, ⟨c, ?_⟩, ?_⟩
      · have e : (fun i => x i + c * r i - c * r i) = x := by funext i; omega
        rw [e]; exact hx
      · rw [hf.l]
        funext i
        have := congrFun h i
        omega
    · rintro ⟨x, ⟨c, hc⟩, h⟩
      refine ⟨c, (sp_map hf).2 ⟨_, hc, ?_⟩⟩
      rw [hf.sub, h]
theorem lc_map {f : Vc → Vc} (hf : Lin f) : ∀ (cs : List Int) (m : List Vc), lc cs (m.map f) = f (lc cs m)
  | [], [] => hf.zero.symm
  | [], _ :: _ => hf.zero.symm
  | _ :: _, [] => hf.zero.symm
  | c :: cs, r :: m => by
    funext i
    have h1 := congrFun (lc_map hf cs m) i
    have h2 := congrFun (hf.l c (lc cs m) r) i
    have e : (fun i => lc cs m i + c * r i) = lc (c :: cs) (r :: m) := by funext i; show _ = c * r i + lc cs m i; omega
    rw [e] at h2
    show c * f r i + lc cs (m.map f) i = _
    omega
theorem dep_map {f : Vc → Vc} (hf : Lin f) {m : List Vc} (hi : ∀ x, Sp m x → f x = vz → x = vz) (h : Dep (m.map f)) : Dep m := by
  obtain ⟨cs, hl, hc, hz⟩ := h
  rw [lc_map hf] at hz
  have hl' : cs.length = m.length := by simpa using hl
  exact ⟨cs, hl', hc, hi _ (sp_lc.2 ⟨cs, hl', rfl⟩) hz⟩
/-- n elements, then zeros. -/
def Supp (n : Nat) (x : Vc) : Prop := ∀ i, n ≤ i → x i = 0
/-- One row behind another one. -/
def prV (n : Nat) (x y : Vc) : Vc := fun i => if i < n then x i else y (i - n)
def tlV (n : Nat) (z : Vc) : Vc := fun i => z (n + i)
def hdV (n : Nat) (z : Vc) : Vc := fun i => if i < n then z i else 0
theorem tl_lin (n : Nat) : Lin (tlV n) := ⟨fun _ _ _ => rfl⟩
theorem hd_lin (n : Nat) : Lin (hdV n) := ⟨fun k x y => by
  funext i
  unfold hdV
  by_cases h : i < n
  · simp only [if_pos h]
  · simp only [if_neg h]; omega⟩
theorem pr_lin {n : Nat} {f g : Vc → Vc} (hf : Lin f) (hg : Lin g) : Lin fun x => prV n (f x) (g x) := ⟨fun k x y => by
  funext i
  unfold prV
  by_cases h : i < n
  · simp only [if_pos h, hf.l]
  · simp only [if_neg h, hg.l]⟩
theorem id_lin : Lin fun x => x := ⟨fun _ _ _ => rfl⟩
theorem zero_lin : Lin fun _ => vz := ⟨fun k _ _ => by funext i; simp [vz]⟩
theorem tl_pr (n : Nat) (x y : Vc) : tlV n (prV n x y) = y := by
  funext i
  unfold tlV prV
  rw [if_neg (by omega), Nat.add_sub_cancel_left]
theorem hd_pr {n : Nat} {x : Vc} (h : Supp n x) (y : Vc) : hdV n (prV n x y) = x := by
  funext i
  unfold hdV prV
  by_cases hi : i < n
  · rw [if_pos hi, if_pos hi]
  · rw [if_neg hi, h i (by omega)]
theorem pr_ext {n : Nat} {z : Vc} (h : ∀ j, j < n → z j = 0) : z = prV n vz (tlV n z) := by
  funext i
  unfold prV tlV
  by_cases hi : i < n
  · rw [if_pos hi]; exact h i hi
  · rw [if_neg hi, show n + (i - n) = i by omega]
/-- The units. -/
def uV (c : Nat) : Vc := fun i => if i = c then 1 else 0
def units (n : Nat) : List Vc := (List.range n).map uV
theorem units_from (lo : Nat) : ∀ d, Ech lo ((List.range' lo d).map uV) ∧ ∀ x, Sp ((List.range' lo d).map uV) x ↔ ∀ i, (i < lo ∨ lo + d ≤ i) → x i = 0
  | 0 => ⟨trivial, fun x => ⟨fun h i _ => by rw [show x = vz from h]; rfl, fun h => by
      show x = vz
      funext i
      exact h i (by omega)⟩⟩
  | d + 1 => by
    obtain ⟨h1, h2⟩ := units_from (lo + 1) d
    rw [List.range'_succ, List.map_cons]
    refine ⟨⟨lo, Nat.le_refl _, fun j hj => by unfold uV; rw [if_neg (by omega)], by unfold uV; rw [if_pos rfl]; decide, h1⟩, fun x => ⟨?_, fun h => ⟨x lo, (h2 _).2 fun i hi => ?_⟩⟩⟩
    · rintro ⟨c, hc⟩ i hi
      have h3 := (h2 _).1 hc i (by omega)
      have : uV lo i = 0 := by unfold uV; rw [if_neg (by omega)]
      rw [this, Int.mul_zero, Int.sub_zero] at h3
      exact h3
    · by_cases e : i = lo
      · subst e
        have : uV i i = 1 := by unfold uV; rw [if_pos rfl]
        rw [this]; omega
      · have : uV lo i = 0 := by unfold uV; rw [if_neg e]
        rw [this, Int.mul_zero, Int.sub_zero]
        exact h i (by omega)
theorem units_ech (n : Nat) : Ech 0 (units n) := by unfold units; rw [List.range_eq_range']; exact (units_from 0 n).1
theorem units_sp (n : Nat) (x : Vc) : Sp (units n) x ↔ Supp n x := by
  unfold units
  rw [List.range_eq_range', (units_from 0 n).2]
  constructor
  · intro h i hi; exact h i (.inr (by omega))
  · intro h i hi
    exact h i (by omega)
theorem units_len (n : Nat) : (units n).length = n := by simp [units]
/-- The heads of rows with early pivots are in echelon form. -/
theorem ech_heads {n : Nat} : ∀ {m : List Vc} {lo : Nat}, Ech lo m → (∀ r ∈ m, ∃ p, p < n ∧ Piv r p) → Ech lo (m.map (hdV n))
  | [], _, _, _ => trivial
  | r :: m, lo, ⟨p, hp, h0, h1, hm⟩, hs => by
    obtain ⟨q, hq, hpq⟩ := hs r List.mem_cons_self
    obtain rfl := piv_one hpq ⟨h0, by omega⟩
    refine ⟨q, hp, fun j hj => ?_, ?_, ech_heads hm fun s hs2 => hs s (List.mem_cons_of_mem _ hs2)⟩
    · unfold hdV; rw [if_pos (by omega)]; exact h0 j hj
    · unfold hdV; rw [if_pos hq]; exact h1
theorem ech_left : ∀ {a b : List Vc} {lo : Nat}, Ech lo (a ++ b) → Ech lo a
  | [], _, _, _ => trivial
  | _ :: _, _, _, ⟨p, hp, h0, h1, hm⟩ => ⟨p, hp, h0, h1, ech_left hm⟩
theorem ech_tails {n : Nat} : ∀ {m : List Vc} {lo : Nat}, n ≤ lo → Ech lo m → Ech (lo - n) (m.map (tlV n))
  | [], _, _, _ => trivial
  | r :: m, lo, hn, ⟨p, hp, h0, h1, hm⟩ => by
    have h := ech_tails (n := n) (by omega) hm
    refine ⟨p - n, by omega, fun j hj => h0 _ (by omega), ?_, ?_⟩
    · show 0 < r (n + (p - n))
      rw [show n + (p - n) = p by omega]; exact h1
    · rwa [show p + 1 - n = p - n + 1 by omega] at h

/-- A basis of the rows of a lattice that begin with n zeros, and one of the heads, from an independent list of generators. -/
theorem split_rank {m : List Vc} (hm : ¬ Dep m) (n N : Nat) (hN : ∀ x, Sp m x → Supp N x) :
    ∃ E1 E2, E1.length + E2.length = m.length ∧ ¬ Dep E1 ∧ ¬ Dep E2 ∧ (∀ y, Sp E1 y ↔ ∃ z, Sp m z ∧ y = hdV n z) ∧ (∀ y, Sp E2 y ↔ Sp m (prV n vz y)) := by
  obtain ⟨E, hE, hx⟩ := ech_exists (sp_lat m) N hN N 0 (by omega)
  have hx' : ∀ x, Sp E x ↔ Sp m x := fun x => (hx x).trans ⟨fun h => h.1, fun h => ⟨h, fun j hj => by omega⟩⟩
  obtain ⟨a, b, rfl, ha, hb, hab⟩ := ech_behind hE n
  have hl := rank_one (ech_ind hE) hm hx'
  rw [List.length_append] at hl
  refine ⟨a.map (hdV n), b.map (tlV n), by rw [List.length_map, List.length_map]; exact hl, ech_ind (ech_heads (ech_left hE) ha), ech_ind (ech_tails (Nat.le_refl n) hb), fun y => ?_, fun y => ?_⟩
  · rw [sp_map (hd_lin n)]
    constructor
    · rintro ⟨x, h1, rfl⟩
      exact ⟨x, (hx' x).1 (sp_append.2 ⟨x, h1, by
        have e : (fun i => x i - x i) = vz := by funext i; simp [vz]
        rw [e]; exact sp_zero b⟩), rfl⟩
    · rintro ⟨z, h1, rfl⟩
      obtain ⟨u, h2, h3⟩ := sp_append.1 ((hx' z).2 h1)
      refine ⟨u, h2, ?_⟩
      have h4 := ((hab _).2 h3).2
      funext i
      unfold hdV
      by_cases hi : i < n
      · rw [if_pos hi, if_pos hi]
        have := h4 i hi
        omega
      · rw [if_neg hi, if_neg hi]
  · rw [sp_map (tl_lin n)]
    constructor
    · rintro ⟨x, h1, rfl⟩
      obtain ⟨h2, h3⟩ := (hab x).2 h1
      rw [← pr_ext h3]
      exact (hx' x).1 h2
    · intro h
      refine ⟨prV n vz y, (hab _).1 ⟨(hx' _).2 h, fun j hj => by unfold prV; rw [if_pos hj]; rfl⟩, (tl_pr n vz y).symm⟩

/-! Sums and intersections. -/
def SumL (S T : Vc → Prop) : Vc → Prop := fun x => ∃ y, S y ∧ T fun i => x i - y i
theorem rank_sum {A B J M : List Vc} {n : Nat} (hA : ¬ Dep A) (hB : ¬ Dep B) (hJ : ¬ Dep J) (hM : ¬ Dep M) (nA : ∀ x, Sp A x → Supp n x) (nB : ∀ x, Sp B x → Supp n x)
    (hj : ∀ x, Sp J x ↔ SumL (Sp A) (Sp B) x) (hm : ∀ x, Sp M x ↔ Sp A x ∧ Sp B x) : A.length + B.length = J.length + M.length := by
  have l1 : Lin fun x => prV n x x := pr_lin id_lin id_lin
  have l2 : Lin fun x => prV n x vz := pr_lin id_lin zero_lin
  have hW : ∀ z, Sp (A.map (fun x => prV n x x) ++ B.map fun x => prV n x vz) z ↔ ∃ a b, Sp A a ∧ Sp B b ∧ z = prV n (fun i => a i + b i) a := by
    intro z
    rw [sp_append]
    constructor
    · rintro ⟨y, h1, h2⟩
      obtain ⟨a, h3, rfl⟩ := (sp_map l1).1 h1
      obtain ⟨b, h4, h5⟩ := (sp_map l2).1 h2
      refine ⟨a, b, h3, h4, ?_⟩
      funext i
      have := congrFun h5 i
      unfold prV at this ⊢
      by_cases hi : i < n
      · simp only [if_pos hi] at this ⊢; omega
      · simp only [if_neg hi] at this ⊢
        have h0 : (vz : Vc) (i - n) = 0 := rfl
        omega
    · rintro ⟨a, b, h1, h2, rfl⟩
      refine ⟨_, (sp_map l1).2 ⟨a, h1, rfl⟩, (sp_map l2).2 ⟨b, h2, ?_⟩⟩
      funext i
      unfold prV
      by_cases hi : i < n
      · simp only [if_pos hi]; omega
      · simp only [if_neg hi]
        have h0 : (vz : Vc) (i - n) = 0 := rfl
        omega
  have hI : ¬ Dep (A.map (fun x => prV n x x) ++ B.map fun x => prV n x vz) := by
    rintro ⟨cs, hl, ⟨c, hcm, hcn⟩, hz⟩
    obtain ⟨ds, es, rfl, hld, hle⟩ : ∃ ds es, cs = ds ++ es ∧ ds.length = A.length ∧ es.length = B.length := by
      simp only [List.length_append, List.length_map] at hl
      exact ⟨cs.take A.length, cs.drop A.length, (List.take_append_drop _ _).symm, by rw [List.length_take]; omega, by rw [List.length_drop]; omega⟩
    rw [lc_append _ _ _ _ (by rw [List.length_map]; exact hld), lc_map l1, lc_map l2] at hz
    have hsA : Sp A (lc ds A) := sp_lc.2 ⟨ds, hld, rfl⟩
    have hsB : Sp B (lc es B) := sp_lc.2 ⟨es, hle, rfl⟩
    have h1 : lc ds A = vz := by
      funext i
      have := congrFun hz (n + i)
      simp only [prV, if_neg (show ¬ n + i < n by omega), Nat.add_sub_cancel_left] at this
      have h0 : (vz : Vc) i = 0 := rfl
      have h0' : (vz : Vc) (n + i) = 0 := rfl
      omega
    have h2 : lc es B = vz := by
      funext i
      by_cases hi : i < n
      · have := congrFun hz i
        simp only [prV, if_pos hi, h1] at this
        have h0 : (vz : Vc) i = 0 := rfl
        omega
      · exact nB _ hsB i (by omega)
    rcases List.mem_append.1 hcm with h | h
    · exact hA ⟨ds, hld, ⟨c, h, hcn⟩, h1⟩
    · exact hB ⟨es, hle, ⟨c, h, hcn⟩, h2⟩
  obtain ⟨E1, E2, hl, i1, i2, s1, s2⟩ := split_rank hI n (n + n) fun x hx => by
    obtain ⟨a, b, h1, h2, rfl⟩ := (hW x).1 hx
    intro i hi
    unfold prV
    rw [if_neg (by omega)]
    exact nA a h1 _ (by omega)
  have e1 := rank_one i1 hJ fun y => by
    rw [s1, hj]
    constructor
    · rintro ⟨z, hz, rfl⟩
      obtain ⟨a, b, h1, h2, rfl⟩ := (hW z).1 hz
      rw [hd_pr (fun i hi => by rw [nA a h1 i hi, nB b h2 i hi]; rfl)]
      refine ⟨a, h1, ?_⟩
      have e : (fun i => a i + b i - a i) = b := by funext i; omega
      rw [e]; exact h2
    · rintro ⟨a, h1, h2⟩
      refine ⟨_, (hW _).2 ⟨a, _, h1, h2, rfl⟩, ?_⟩
      have e : (fun i => a i + (y i - a i)) = y := by funext i; omega
      rw [e, hd_pr fun i hi => by have q1 := nA a h1 i hi; have q2 := nB _ h2 i hi; omega]
  have e2 := rank_one i2 hM fun y => by
    rw [s2, hW, hm]
    constructor
    · rintro ⟨a, b, h1, h2, h3⟩
      have h4 : y = a := by
        have := congrArg (tlV n) h3
        rwa [tl_pr, tl_pr] at this
      subst h4
      refine ⟨h1, ?_⟩
      have h5 : (fun i => -1 * b i) = y := by
        funext i
        by_cases hi : i < n
        · have := congrFun h3 i
          simp only [prV, if_pos hi] at this
          have h0 : (vz : Vc) i = 0 := rfl
          omega
        · rw [nA y h1 i (by omega), nB b h2 i (by omega)]; rfl
      rw [← h5]
      exact sp_mul (-1) h2
    · rintro ⟨h1, h2⟩
      refine ⟨y, fun i => -1 * y i, h1, sp_mul (-1) h2, ?_⟩
      have e : (fun i => y i + -1 * y i) = vz := by funext i; simp [vz]; omega
      rw [e]
  simp only [List.length_append, List.length_map] at hl
  omega
/-! Products, annihilators. -/
def dotV : Nat → Vc → Vc → Int
  | 0, _, _ => 0
  | n + 1, x, y => dotV n x y + x n * y n
theorem dot_comm : ∀ (n : Nat) (x y : Vc), dotV n x y = dotV n y x
  | 0, _, _ => rfl
  | n + 1, x, y => by
    show dotV n x y + x n * y n = dotV n y x + y n * x n
    rw [dot_comm n, Int.mul_comm]
theorem dot_lin (k : Int) (z : Vc) : ∀ (n : Nat) (x y : Vc), dotV n z (fun i => x i + k * y i) = dotV n z x + k * dotV n z y
  | 0, _, _ => by show (0 : Int) = 0 + k * 0; omega
  | n + 1, x, y => by
    show dotV n z (fun i => x i + k * y i) + z n * (x n + k * y n) = dotV n z x + z n * x n + k * (dotV n z y + z n * y n)
    rw [dot_lin k z n x y]
    grind
theorem dot_zero (n : Nat) (z : Vc) : dotV n z vz = 0 := by
  have := dot_lin (-1) z n vz vz
  have e : (fun i => (vz : Vc) i + -1 * (vz : Vc) i) = vz := by funext i; simp [vz]
  rw [e] at this
  omega
theorem dot_self : ∀ (n : Nat) (x : Vc), 0 ≤ dotV n x x ∧ (dotV n x x = 0 → ∀ i, i < n → x i = 0)
  | 0, x => ⟨Int.le_refl 0, fun _ i hi => by omega⟩
  | n + 1, x => by
    obtain ⟨h1, h2⟩ := dot_self n x
    have h3 : 0 ≤ x n * x n := by
      rcases Int.le_total 0 (x n) with h | h
      · exact Int.mul_nonneg h h
      · have := Int.mul_nonneg (show 0 ≤ -(x n) by omega) (show 0 ≤ -(x n) by omega)
        rwa [Int.neg_mul_neg] at this
    refine ⟨by show 0 ≤ dotV n x x + x n * x n; omega, fun h i hi => ?_⟩
    have h4 : dotV n x x + x n * x n = 0 := h
    rcases Nat.lt_or_ge i n with h5 | h5
    · exact h2 (by omega) i h5
    · obtain rfl : i = n := by omega
      rcases Int.mul_eq_zero.1 (show x i * x i = 0 by omega) with h | h <;> exact h
/-- All rows of n elements whose products with the lattice are 0. -/
def Perp (n : Nat) (S : Vc → Prop) : Vc → Prop := fun y => Supp n y ∧ ∀ x, S x → dotV n x y = 0
theorem perp_lat (n : Nat) (S : Vc → Prop) : IsLat (Perp n S) := by
  refine ⟨⟨fun _ _ => rfl, fun x _ => dot_zero n x⟩, fun k x y ⟨h1, h2⟩ ⟨h3, h4⟩ => ⟨fun i hi => ?_, fun z hz => ?_⟩⟩
  · show x i + k * y i = 0
    rw [h1 i hi, h3 i hi]; omega
  · rw [dot_lin, h2 z hz, h4 z hz]; omega
theorem perp_le {n : Nat} {S T : Vc → Prop} (h : ∀ x, S x → T x) {y : Vc} (hy : Perp n T y) : Perp n S y := ⟨hy.1, fun x hx => hy.2 x (h x hx)⟩
theorem perp_in {n : Nat} {S : Vc → Prop} (hS : ∀ x, S x → Supp n x) {x : Vc} (hx : S x) : Perp n (Perp n S) x := ⟨hS x hx, fun y hy => by rw [dot_comm]; exact hy.2 x hx⟩
theorem perp_supp {n : Nat} {S : Vc → Prop} : ∀ x, Perp n S x → Supp n x := fun _ h => h.1
/-- Three annihilators are one. -/
theorem perp_three {n : Nat} {S : Vc → Prop} (hS : ∀ x, S x → Supp n x) (y : Vc) : Perp n (Perp n (Perp n S)) y ↔ Perp n S y :=
  ⟨fun h => perp_le (fun _ hx => perp_in hS hx) h, fun h => perp_in perp_supp h⟩
theorem perp_congr {n : Nat} {S T : Vc → Prop} (h : ∀ x, S x ↔ T x) (y : Vc) : Perp n S y ↔ Perp n T y := ⟨perp_le fun x hx => (h x).2 hx, perp_le fun x hx => (h x).1 hx⟩
/-- Equal to its double annihilator. -/
def Closed (n : Nat) (S : Vc → Prop) : Prop := (∀ x, S x → Supp n x) ∧ ∀ x, Perp n (Perp n S) x → S x
theorem closed_iff {n : Nat} {S : Vc → Prop} (h : Closed n S) (x : Vc) : Perp n (Perp n S) x ↔ S x := ⟨h.2 x, perp_in h.1⟩
theorem sum_supp {n : Nat} {S T : Vc → Prop} (h1 : ∀ x, S x → Supp n x) (h2 : ∀ x, T x → Supp n x) : ∀ x, SumL S T x → Supp n x := fun x ⟨y, hy, hz⟩ i hi => by
  have a := h1 y hy i hi
  have b := h2 _ hz i hi
  omega
theorem sum_left {S T : Vc → Prop} (hT : IsLat T) {x : Vc} (h : S x) : SumL S T x := ⟨x, h, by
  have e : (fun i => x i - x i) = vz := by funext i; simp [vz]
  rw [e]; exact hT.z⟩
theorem IsLat.sub {S : Vc → Prop} (hS : IsLat S) {x y : Vc} (hx : S x) (hy : S y) : S fun i => x i - y i := by
  have := hS.l (-1) hx hy
  have e : (fun i => x i + -1 * y i) = fun i => x i - y i := by funext i; omega
  rwa [e] at this
theorem IsLat.add {S : Vc → Prop} (hS : IsLat S) {x y : Vc} (hx : S x) (hy : S y) : S fun i => x i + y i := by
  have := hS.l 1 hx hy
  have e : (fun i => x i + 1 * y i) = fun i => x i + y i := by funext i; omega
  rwa [e] at this
theorem sum_lat {S T : Vc → Prop} (hS : IsLat S) (hT : IsLat T) : IsLat (SumL S T) :=
  ⟨sum_left hT hS.z, fun k x y ⟨a, h1, h2⟩ ⟨b, h3, h4⟩ => ⟨fun i => a i + k * b i, hS.l k h1 h3, by
    have := hT.l k h2 h4
    have e : (fun i => x i - a i + k * (y i - b i)) = fun i => x i + k * y i - (a i + k * b i) := by funext i; grind
    rwa [e] at this⟩⟩
/-- The closure of a sum. -/
def Joi (n : Nat) (S T : Vc → Prop) : Vc → Prop := Perp n (Perp n (SumL S T))
theorem joi_perp {n : Nat} {S T : Vc → Prop} (h1 : ∀ x, S x → Supp n x) (h2 : ∀ x, T x → Supp n x) (y : Vc) : Perp n (Joi n S T) y ↔ Perp n (SumL S T) y := perp_three (sum_supp h1 h2) y
/-! The rank of an annihilator. -/
/-- The products with the rows of a list. -/
def mulV (n : Nat) (A : List Vc) (y : Vc) : Vc := fun i => if i < A.length then dotV n (A.getD i vz) y else 0
theorem mul_lin (n : Nat) (A : List Vc) : Lin (mulV n A) := ⟨fun k x y => by
  funext i
  unfold mulV
  by_cases h : i < A.length
  · simp only [if_pos h, dot_lin]
  · simp only [if_neg h]; omega⟩
theorem mul_supp (n : Nat) (A : List Vc) (y : Vc) : Supp A.length (mulV n A y) := fun i hi => by unfold mulV; rw [if_neg (by omega)]
theorem dot_gens {n : Nat} {y : Vc} : ∀ {A : List Vc}, (∀ r ∈ A, dotV n r y = 0) → ∀ x, Sp A x → dotV n x y = 0
  | [], _, x, h => by rw [show x = vz from h, dot_comm]; exact dot_zero n y
  | r :: A, hA, x, ⟨c, hc⟩ => by
    have h1 := dot_gens (fun s hs => hA s (List.mem_cons_of_mem _ hs)) _ hc
    have h2 := dot_lin c y n (fun i => x i - c * r i) r
    have e : (fun i => x i - c * r i + c * r i) = x := by funext i; omega
    rw [e, dot_comm n y, dot_comm n y, dot_comm n y, h1, hA r List.mem_cons_self] at h2
    omega
theorem mul_zero {n : Nat} {A : List Vc} {y : Vc} (h : mulV n A y = vz) : ∀ x, Sp A x → dotV n x y = 0 := dot_gens fun r hr => by
  obtain ⟨i, hi, rfl⟩ := List.mem_iff_getElem.1 hr
  have := congrFun h i
  unfold mulV at this
  rw [if_pos hi, List.getD_eq_getElem?_getD, List.getElem?_eq_getElem hi, Option.getD_some] at this
  exact this
theorem zero_mul {n : Nat} {A : List Vc} {y : Vc} (h : ∀ x, Sp A x → dotV n x y = 0) : mulV n A y = vz := by
  funext i
  unfold mulV
  by_cases hi : i < A.length
  · rw [if_pos hi, List.getD_eq_getElem?_getD, List.getElem?_eq_getElem hi, Option.getD_some]
    exact h _ (sp_mem (List.getElem_mem hi))
  · rw [if_neg hi]; rfl
theorem rank_perp {A P : List Vc} {n : Nat} (hA : ¬ Dep A) (hP : ¬ Dep P) (nA : ∀ x, Sp A x → Supp n x) (hp : ∀ y, Sp P y ↔ Perp n (Sp A) y) : A.length + P.length = n := by
  have l1 : Lin fun y => prV A.length (mulV n A y) y := pr_lin (mul_lin n A) id_lin
  have hU := ech_ind (units_ech n)
  have hI : ¬ Dep ((units n).map fun y => prV A.length (mulV n A y) y) := fun h => hU (dep_map l1 (fun x _ hx => by
    have := congrArg (tlV A.length) hx
    rw [tl_pr] at this
    rw [this]; rfl) h)
  have hW : ∀ z, Sp ((units n).map fun y => prV A.length (mulV n A y) y) z ↔ ∃ y, Supp n y ∧ z = prV A.length (mulV n A y) y := fun z => by
    rw [sp_map l1]
    exact ⟨fun ⟨x, h1, h2⟩ => ⟨x, (units_sp n x).1 h1, h2⟩, fun ⟨x, h1, h2⟩ => ⟨x, (units_sp n x).2 h1, h2⟩⟩
  obtain ⟨E1, E2, hl, i1, i2, s1, s2⟩ := split_rank hI A.length (A.length + n) fun x hx => by
    obtain ⟨y, h1, rfl⟩ := (hW x).1 hx
    intro i hi
    unfold prV
    rw [if_neg (by omega)]
    exact h1 _ (by omega)
  rw [List.length_map, units_len] at hl
  have e2 := rank_one i2 hP fun y => by
    rw [s2, hW, hp]
    constructor
    · rintro ⟨x, h1, h2⟩
      have h3 : y = x := by
        have := congrArg (tlV A.length) h2
        rwa [tl_pr, tl_pr] at this
      subst h3
      have h4 : mulV n A y = vz := by
        have := congrArg (hdV A.length) h2
        rw [hd_pr (mul_supp n A y), hd_pr (x := vz) (fun _ _ => rfl)] at this
        exact this.symm
      exact ⟨h1, mul_zero h4⟩
    · rintro ⟨h1, h2⟩
      exact ⟨y, h1, by rw [zero_mul h2]⟩
  have e1 : E1.length = A.length := by
    refine Nat.le_antisymm ?_ ?_
    · refine Nat.le_of_not_lt fun hc => i1 (steinitz (units A.length) E1 (by rw [units_len]; exact hc) fun v hv => ?_)
      rw [units_sp]
      obtain ⟨z, hz, rfl⟩ := (s1 v).1 (sp_mem hv)
      obtain ⟨y, h1, rfl⟩ := (hW z).1 hz
      rw [hd_pr (mul_supp n A y)]
      exact mul_supp n A y
    · have hG : ¬ Dep (A.map (mulV n A)) := fun h => hA (dep_map (mul_lin n A) (fun x hx hz => by
        have h0 := mul_zero hz x hx
        have h1 := (dot_self n x).2 h0
        funext i
        rcases Nat.lt_or_ge i n with h | h
        · exact h1 i h
        · exact nA x hx i h) h)
      refine Nat.le_of_not_lt fun hc => hG (steinitz E1 (A.map (mulV n A)) (by rw [List.length_map]; exact hc) fun v hv => ?_)
      obtain ⟨r, hr, rfl⟩ := List.mem_map.1 hv
      exact (s1 _).2 ⟨_, (hW _).2 ⟨r, nA r (sp_mem hr), rfl⟩, (hd_pr (mul_supp n A r) r).symm⟩
  omega
/-- The ranks of join and meet. -/
theorem rank_law {A B J M PA PB PJ PM : List Vc} {n : Nat} (hA : ¬ Dep A) (hB : ¬ Dep B) (hJ : ¬ Dep J) (hM : ¬ Dep M) (pA : ¬ Dep PA) (pB : ¬ Dep PB) (pJ : ¬ Dep PJ) (pM : ¬ Dep PM) (nA : ∀ x, Sp A x → Supp n x) (nB : ∀ x, Sp B x → Supp n x)
    (hj : ∀ x, Sp J x ↔ SumL (Sp A) (Sp B) x) (hm : ∀ x, Sp M x ↔ Sp A x ∧ Sp B x) (qA : ∀ y, Sp PA y ↔ Perp n (Sp A) y) (qB : ∀ y, Sp PB y ↔ Perp n (Sp B) y) (qJ : ∀ y, Sp PJ y ↔ Perp n (Sp J) y) (qM : ∀ y, Sp PM y ↔ Perp n (Sp M) y) :
    PA.length + PB.length = PJ.length + PM.length := by
  have h0 := rank_sum hA hB hJ hM nA nB hj hm
  have h1 := rank_perp hA pA nA qA
  have h2 := rank_perp hB pB nB qB
  have h3 := rank_perp hJ pJ (fun x hx => sum_supp nA nB x ((hj x).1 hx)) qJ
  have h4 := rank_perp hM pM (fun x hx => nA x ((hm x).1 hx).1) qM
  omega

end Go.Proofs.YtepicfdhphiiaaaGreatDoor

/- The steps of the Hermite normal form, plain. -/
namespace Go.Proofs.YtepicfdhphiiaaaGreatDoor

/-! The steps of the normal form, on rows as lists. -/
def vf (r : List Int) : Vc := fun i => r.getD i 0
def vfs (m : List (List Int)) : List Vc := m.map vf
/-- The element of a row and a column. -/
def ent (m : List (List Int)) (i c : Nat) : Int := (m.getD i []).getD c 0
/-- All rows have n elements. -/
def Rect (n : Nat) (m : List (List Int)) : Prop := ∀ r ∈ m, r.length = n
def SameSp (m m' : List (List Int)) : Prop := ∀ x, Sp (vfs m) x ↔ Sp (vfs m') x
/-- A row less a multiple of another one. -/
def subR (q : Int) (r s : List Int) : List Int := List.zipWith (fun x y => x - q * y) r s
theorem subR_length (q : Int) (r s : List Int) (h : r.length = s.length) : (subR q r s).length = r.length := by simp [subR, h]
theorem subR_get (q : Int) (r s : List Int) (h : r.length = s.length) (i : Nat) : (subR q r s).getD i 0 = r.getD i 0 - q * s.getD i 0 := by
  unfold subR
  rw [List.getD_eq_getElem?_getD, List.getD_eq_getElem?_getD, List.getD_eq_getElem?_getD, List.getElem?_zipWith]
  by_cases hi : i < r.length
  · rw [List.getElem?_eq_getElem hi, List.getElem?_eq_getElem (by omega)]; rfl
  · rw [List.getElem?_eq_none (by omega), List.getElem?_eq_none (by omega)]
    show (0 : Int) = 0 - q * 0
    omega
theorem vf_sub (q : Int) (r s : List Int) (h : r.length = s.length) : vf (subR q r s) = fun i => vf r i - q * vf s i := by
  funext i
  exact subR_get q r s h i
theorem subR_zero (r s : List Int) (h : r.length = s.length) : subR 0 r s = r := by
  refine List.ext_getElem (by rw [subR_length _ _ _ h]) fun i h1 h2 => ?_
  have := subR_get 0 r s h i
  rw [List.getD_eq_getElem?_getD, List.getElem?_eq_getElem h1, List.getD_eq_getElem?_getD (l := r), List.getElem?_eq_getElem h2] at this
  simp only [Option.getD_some, Int.zero_mul, Int.sub_zero] at this
  exact this
theorem vf_supp {n : Nat} {r : List Int} (h : r.length = n) : Supp n (vf r) := fun i hi => by
  unfold vf
  rw [List.getD_eq_getElem?_getD, List.getElem?_eq_none (by omega)]; rfl
theorem sp_supp {n : Nat} : ∀ {m : List Vc}, (∀ r ∈ m, Supp n r) → ∀ x, Sp m x → Supp n x
  | [], _, x, h, i, _ => by rw [show x = vz from h]; rfl
  | r :: m, hr, x, ⟨c, hc⟩, i, hi => by
    have h1 := sp_supp (fun s hs => hr s (List.mem_cons_of_mem _ hs)) _ hc i hi
    have h2 := hr r List.mem_cons_self i hi
    simp only [h2, Int.mul_zero, Int.sub_zero] at h1
    exact h1
theorem rect_supp {n : Nat} {m : List (List Int)} (h : Rect n m) : ∀ x, Sp (vfs m) x → Supp n x := sp_supp fun r hr => by
  obtain ⟨s, hs, rfl⟩ := List.mem_map.1 hr
  exact vf_supp (h s hs)
theorem same_of {m m' : List (List Int)} (h1 : ∀ r ∈ m, Sp (vfs m') (vf r)) (h2 : ∀ r ∈ m', Sp (vfs m) (vf r)) : SameSp m m' := fun _ =>
  ⟨sp_le fun r hr => by obtain ⟨s, hs, rfl⟩ := List.mem_map.1 hr; exact h1 s hs, sp_le fun r hr => by obtain ⟨s, hs, rfl⟩ := List.mem_map.1 hr; exact h2 s hs⟩
theorem sp_row {m : List (List Int)} {r : List Int} (h : r ∈ m) : Sp (vfs m) (vf r) := sp_mem (List.mem_map.2 ⟨r, h, rfl⟩)
theorem lrow_mem {m : List (List Int)} {i : Nat} (h : i < m.length) : m.getD i [] ∈ m := by
  rw [List.getD_eq_getElem?_getD, List.getElem?_eq_getElem h]; exact List.getElem_mem h
theorem mem_lrow {m : List (List Int)} {r : List Int} (h : r ∈ m) : ∃ i, i < m.length ∧ m.getD i [] = r := by
  obtain ⟨i, hi, rfl⟩ := List.mem_iff_getElem.1 h
  exact ⟨i, hi, by rw [List.getD_eq_getElem?_getD, List.getElem?_eq_getElem hi]; rfl⟩

/-- Rows given by their indices. -/
def tabL (m : Nat) (f : Nat → List Int) : List (List Int) := (List.range m).map f
theorem tabL_length (m : Nat) (f : Nat → List Int) : (tabL m f).length = m := by simp [tabL]
theorem tabL_getD (m : Nat) (f : Nat → List Int) {i : Nat} (h : i < m) : (tabL m f).getD i [] = f i := by
  unfold tabL
  rw [List.getD_eq_getElem?_getD, List.getElem?_map, List.getElem?_range h]; rfl
theorem tabL_self (m : List (List Int)) : tabL m.length (fun i => m.getD i []) = m := by
  refine List.ext_getElem (tabL_length _ _) fun i h1 h2 => ?_
  have := tabL_getD m.length (fun i => m.getD i []) h2
  rw [List.getD_eq_getElem?_getD, List.getElem?_eq_getElem h1] at this
  simp only [Option.getD_some] at this
  rw [this, List.getD_eq_getElem?_getD, List.getElem?_eq_getElem h2]; rfl
theorem list_ext {m m' : List (List Int)} (h : m.length = m'.length) (he : ∀ i, i < m.length → m.getD i [] = m'.getD i []) : m = m' := by
  rw [← tabL_self m, ← tabL_self m', h]
  unfold tabL
  refine List.map_congr_left fun i hi => ?_
  exact he i (by rw [h]; exact List.mem_range.1 hi)
/-- Each row less its multiple of row d. -/
def elimL (m : List (List Int)) (d : Nat) (q : Nat → Int) : List (List Int) := tabL m.length fun i => subR (q i) (m.getD i []) (m.getD d [])
theorem elimL_length (m : List (List Int)) (d : Nat) (q : Nat → Int) : (elimL m d q).length = m.length := tabL_length _ _
theorem rect_len {n : Nat} {m : List (List Int)} (h : Rect n m) {i : Nat} (hi : i < m.length) : (m.getD i []).length = n := h _ (lrow_mem hi)
theorem elimL_row {n : Nat} {m : List (List Int)} (_ : Rect n m) {d : Nat} (q : Nat → Int) {i : Nat} (hi : i < m.length) : (elimL m d q).getD i [] = subR (q i) (m.getD i []) (m.getD d []) := tabL_getD _ _ hi
theorem elimL_ent {n : Nat} {m : List (List Int)} (hr : Rect n m) {d : Nat} (hd : d < m.length) (q : Nat → Int) {i : Nat} (hi : i < m.length) (c : Nat) : ent (elimL m d q) i c = ent m i c - q i * ent m d c := by
  unfold ent
  rw [elimL_row hr q hi, subR_get _ _ _ (by rw [rect_len hr hi, rect_len hr hd])]
theorem elimL_rect {n : Nat} {m : List (List Int)} (hr : Rect n m) {d : Nat} (hd : d < m.length) (q : Nat → Int) : Rect n (elimL m d q) := fun r h => by
  obtain ⟨i, hi, rfl⟩ := mem_lrow h
  rw [elimL_length] at hi
  rw [elimL_row hr q hi, subR_length _ _ _ (by rw [rect_len hr hi, rect_len hr hd]), rect_len hr hi]
theorem elimL_same {n : Nat} {m : List (List Int)} (hr : Rect n m) {d : Nat} (hd : d < m.length) (q : Nat → Int) (hq : q d = 0) : SameSp m (elimL m d q) := by
  have hl : ∀ i, i < m.length → (m.getD i []).length = (m.getD d []).length := fun i hi => by rw [rect_len hr hi, rect_len hr hd]
  have hdd : (elimL m d q).getD d [] = m.getD d [] := by rw [elimL_row hr q hd, hq, subR_zero _ _ rfl]
  have hdm : Sp (vfs (elimL m d q)) (vf (m.getD d [])) := by
    rw [← hdd]; exact sp_row (lrow_mem (by rw [elimL_length]; exact hd))
  refine same_of (fun r h => ?_) fun r h => ?_
  · obtain ⟨i, hi, rfl⟩ := mem_lrow h
    have h1 := sp_row (lrow_mem (m := elimL m d q) (i := i) (by rw [elimL_length]; exact hi))
    rw [elimL_row hr q hi, vf_sub _ _ _ (hl i hi)] at h1
    have h2 := sp_lin (q i) _ _ _ h1 hdm
    have e : (fun j => vf (m.getD i []) j - q i * vf (m.getD d []) j + q i * vf (m.getD d []) j) = vf (m.getD i []) := by funext j; omega
    rwa [e] at h2
  · obtain ⟨i, hi, rfl⟩ := mem_lrow h
    rw [elimL_length] at hi
    rw [elimL_row hr q hi, vf_sub _ _ _ (hl i hi)]
    have h2 := sp_lin (-(q i)) _ _ _ (sp_row (lrow_mem hi)) (sp_row (lrow_mem hd))
    have e : (fun j => vf (m.getD i []) j + -(q i) * vf (m.getD d []) j) = fun j => vf (m.getD i []) j - q i * vf (m.getD d []) j := by funext j; rw [Int.neg_mul]; omega
    rwa [e] at h2
/-- Two rows exchanged. -/
def swapL (m : List (List Int)) (a b : Nat) : List (List Int) := tabL m.length fun i => m.getD (if i = a then b else if i = b then a else i) []
theorem swapL_length (m : List (List Int)) (a b : Nat) : (swapL m a b).length = m.length := tabL_length _ _
theorem swapL_row (m : List (List Int)) (a b : Nat) {i : Nat} (hi : i < m.length) : (swapL m a b).getD i [] = m.getD (if i = a then b else if i = b then a else i) [] := tabL_getD _ _ hi
theorem swapL_ent (m : List (List Int)) (a b : Nat) {i : Nat} (hi : i < m.length) (c : Nat) : ent (swapL m a b) i c = ent m (if i = a then b else if i = b then a else i) c := by
  unfold ent; rw [swapL_row m a b hi]
theorem swap_lt {k a b i : Nat} (ha : a < k) (hb : b < k) (hi : i < k) : (if i = a then b else if i = b then a else i) < k := by
  split
  · exact hb
  · split
    · exact ha
    · exact hi
theorem swapL_rect {n : Nat} {m : List (List Int)} (hr : Rect n m) {a b : Nat} (ha : a < m.length) (hb : b < m.length) : Rect n (swapL m a b) := fun r h => by
  obtain ⟨i, hi, rfl⟩ := mem_lrow h
  rw [swapL_length] at hi
  rw [swapL_row m a b hi]
  exact rect_len hr (swap_lt ha hb hi)
theorem swap_twice (a b i : Nat) : (if (if i = a then b else if i = b then a else i) = a then b else if (if i = a then b else if i = b then a else i) = b then a else (if i = a then b else if i = b then a else i)) = i := by
  by_cases h1 : i = a
  · subst h1
    rw [if_pos rfl]
    by_cases h2 : b = i
    · rw [if_pos h2, h2]
    · rw [if_neg h2, if_pos rfl]
  · rw [if_neg h1]
    by_cases h2 : i = b
    · subst h2
      rw [if_pos rfl, if_pos rfl]
    · rw [if_neg h2, if_neg h1, if_neg h2]
theorem swapL_same {m : List (List Int)} {a b : Nat} (ha : a < m.length) (hb : b < m.length) : SameSp m (swapL m a b) := by
  refine same_of (fun r h => ?_) fun r h => ?_
  · obtain ⟨i, hi, rfl⟩ := mem_lrow h
    have hj := swap_lt ha hb hi
    have h1 := swapL_row m a b hj
    rw [swap_twice] at h1
    rw [← h1]
    exact sp_row (lrow_mem (by rw [swapL_length]; exact hj))
  · obtain ⟨i, hi, rfl⟩ := mem_lrow h
    rw [swapL_length] at hi
    rw [swapL_row m a b hi]
    exact sp_row (lrow_mem (swap_lt ha hb hi))
/-- A row with all signs changed. -/
def negL (m : List (List Int)) (d : Nat) : List (List Int) := tabL m.length fun i => if i = d then (m.getD i []).map (fun x => -x) else m.getD i []
theorem negL_length (m : List (List Int)) (d : Nat) : (negL m d).length = m.length := tabL_length _ _
theorem negL_row (m : List (List Int)) (d : Nat) {i : Nat} (hi : i < m.length) : (negL m d).getD i [] = if i = d then (m.getD i []).map (fun x => -x) else m.getD i [] := tabL_getD _ _ hi
theorem neg_get (r : List Int) (c : Nat) : (r.map fun x => -x).getD c 0 = -(r.getD c 0) := by
  rw [List.getD_eq_getElem?_getD, List.getD_eq_getElem?_getD, List.getElem?_map]
  cases r[c]? <;> rfl
theorem negL_ent (m : List (List Int)) (d : Nat) {i : Nat} (hi : i < m.length) (c : Nat) : ent (negL m d) i c = if i = d then -(ent m i c) else ent m i c := by
  unfold ent
  rw [negL_row m d hi]
  split
  · exact neg_get _ _
  · rfl
theorem negL_rect {n : Nat} {m : List (List Int)} (hr : Rect n m) (d : Nat) : Rect n (negL m d) := fun r h => by
  obtain ⟨i, hi, rfl⟩ := mem_lrow h
  rw [negL_length] at hi
  rw [negL_row m d hi]
  split
  · rw [List.length_map]; exact rect_len hr hi
  · exact rect_len hr hi
theorem vf_neg (r : List Int) : vf (r.map fun x => -x) = fun i => -1 * vf r i := by
  funext i
  unfold vf
  rw [neg_get]; omega
theorem negL_same {m : List (List Int)} (d : Nat) : SameSp m (negL m d) := by
  refine same_of (fun r h => ?_) fun r h => ?_
  · obtain ⟨i, hi, rfl⟩ := mem_lrow h
    have h1 := sp_row (lrow_mem (m := negL m d) (i := i) (by rw [negL_length]; exact hi))
    rw [negL_row m d hi] at h1
    split at h1
    · rw [vf_neg] at h1
      have := sp_mul (-1) h1
      have e : (fun j => -1 * (-1 * vf (m.getD i []) j)) = vf (m.getD i []) := by funext j; omega
      rwa [e] at this
    · exact h1
  · obtain ⟨i, hi, rfl⟩ := mem_lrow h
    rw [negL_length] at hi
    rw [negL_row m d hi]
    split
    · rw [vf_neg]; exact sp_mul (-1) (sp_row (lrow_mem hi))
    · exact sp_row (lrow_mem hi)

/-- What holds before a column: the first rows are a normal form in the columns before, the other ones are 0 there. -/
structure FInv (n : Nat) (m0 : List (List Int)) (d c : Nat) (m : List (List Int)) : Prop where
  len : m.length = m0.length
  rect : Rect n m
  sp : SameSp m0 m
  dl : d ≤ m.length
  pv : ∃ p : Nat → Nat, (∀ i, i < d → p i < c ∧ (∀ j, j < p i → ent m i j = 0) ∧ 0 < ent m i (p i)) ∧ (∀ i k, i < k → k < d → p i < p k) ∧ (∀ i k, i < k → k < d → 0 ≤ ent m i (p k) ∧ ent m i (p k) < ent m k (p k))
  z : ∀ i, d ≤ i → i < m.length → ∀ j, j < c → ent m i j = 0
theorem SameSp.trans {a b c : List (List Int)} (h1 : SameSp a b) (h2 : SameSp b c) : SameSp a c := fun x => (h1 x).trans (h2 x)
theorem SameSp.symm {a b : List (List Int)} (h1 : SameSp a b) : SameSp b a := fun x => (h1 x).symm
theorem FInv.start {n : Nat} {m0 : List (List Int)} (h : Rect n m0) : FInv n m0 0 0 m0 :=
  ⟨rfl, h, fun _ => Iff.rfl, Nat.zero_le _, ⟨fun _ => 0, fun i hi => by omega, fun i k _ hk => by omega, fun i k _ hk => by omega⟩, fun i _ _ j hj => by omega⟩
theorem FInv.none {n : Nat} {m0 m : List (List Int)} {d c : Nat} (h : FInv n m0 d c m) (h0 : ∀ i, d ≤ i → i < m.length → ent m i c = 0) : FInv n m0 d (c + 1) m := by
  obtain ⟨p, p1, p2, p3⟩ := h.pv
  refine ⟨h.len, h.rect, h.sp, h.dl, ⟨p, fun i hi => ⟨by have := (p1 i hi).1; omega, (p1 i hi).2⟩, p2, p3⟩, fun i h1 h2 j hj => ?_⟩
  rcases Nat.lt_or_ge j c with h3 | h3
  · exact h.z i h1 h2 j h3
  · obtain rfl : j = c := by omega
    exact h0 i h1 h2
theorem FInv.swap {n : Nat} {m0 m : List (List Int)} {d c a : Nat} (h : FInv n m0 d c m) (h1 : d ≤ a) (h2 : a < m.length) : FInv n m0 d c (swapL m d a) := by
  have hd : d < m.length := by omega
  obtain ⟨p, p1, p2, p3⟩ := h.pv
  have e : ∀ i, i < d → ∀ j, ent (swapL m d a) i j = ent m i j := fun i hi j => by
    rw [swapL_ent m d a (by omega), if_neg (by omega), if_neg (by omega)]
  refine ⟨by rw [swapL_length]; exact h.len, swapL_rect h.rect hd h2, h.sp.trans (swapL_same hd h2), by rw [swapL_length]; omega, ⟨p, fun i hi => ?_, p2, fun i k hik hk => ?_⟩, fun i q1 q2 j hj => ?_⟩
  · obtain ⟨r1, r2, r3⟩ := p1 i hi
    exact ⟨r1, fun j hj => by rw [e i hi]; exact r2 j hj, by rw [e i hi]; exact r3⟩
  · rw [e i (by omega), e k hk]; exact p3 i k hik hk
  · rw [swapL_length] at q2
    rw [swapL_ent m d a q2]
    refine h.z _ ?_ (swap_lt hd h2 q2) j hj
    split
    · exact h1
    · split <;> omega
theorem FInv.elim {n : Nat} {m0 m : List (List Int)} {d c : Nat} (h : FInv n m0 d c m) (hd : d < m.length) {q : Nat → Int} (hq : ∀ i, i ≤ d → q i = 0) : FInv n m0 d c (elimL m d q) := by
  obtain ⟨p, p1, p2, p3⟩ := h.pv
  have e : ∀ i, i < d → ∀ j, ent (elimL m d q) i j = ent m i j := fun i hi j => by
    rw [elimL_ent h.rect hd q (by omega), hq i (by omega)]; omega
  refine ⟨by rw [elimL_length]; exact h.len, elimL_rect h.rect hd q, h.sp.trans (elimL_same h.rect hd q (hq d (Nat.le_refl _))), by rw [elimL_length]; omega, ⟨p, fun i hi => ?_, p2, fun i k hik hk => ?_⟩, fun i q1 q2 j hj => ?_⟩
  · obtain ⟨r1, r2, r3⟩ := p1 i hi
    exact ⟨r1, fun j hj => by rw [e i hi]; exact r2 j hj, by rw [e i hi]; exact r3⟩
  · rw [e i (by omega), e k hk]; exact p3 i k hik hk
  · rw [elimL_length] at q2
    rw [elimL_ent h.rect hd q q2, h.z i q1 q2 j hj, h.z d (Nat.le_refl _) hd j hj]; omega
theorem FInv.neg {n : Nat} {m0 m : List (List Int)} {d c : Nat} (h : FInv n m0 d c m) : FInv n m0 d c (negL m d) := by
  obtain ⟨p, p1, p2, p3⟩ := h.pv
  have hd := h.dl
  have e : ∀ i, i < d → ∀ j, ent (negL m d) i j = ent m i j := fun i hi j => by
    rw [negL_ent m d (by omega), if_neg (by omega)]
  refine ⟨by rw [negL_length]; exact h.len, negL_rect h.rect d, h.sp.trans (negL_same d), by rw [negL_length]; exact h.dl, ⟨p, fun i hi => ?_, p2, fun i k hik hk => ?_⟩, fun i q1 q2 j hj => ?_⟩
  · obtain ⟨r1, r2, r3⟩ := p1 i hi
    exact ⟨r1, fun j hj => by rw [e i hi]; exact r2 j hj, by rw [e i hi]; exact r3⟩
  · rw [e i (by omega), e k hk]; exact p3 i k hik hk
  · rw [negL_length] at q2
    have := h.z i q1 q2 j hj
    rw [negL_ent m d q2]
    split <;> omega
/-- A pivot is found: the rows above are reduced. -/
theorem FInv.next {n : Nat} {m0 m : List (List Int)} {d c : Nat} (h : FInv n m0 d c m) (hd : d < m.length) (hp : 0 < ent m d c) (hz : ∀ i, d < i → i < m.length → ent m i c = 0) {q : Nat → Int} (hq : ∀ i, d ≤ i → q i = 0) (hq2 : ∀ i, i < d → 0 ≤ ent m i c - q i * ent m d c ∧ ent m i c - q i * ent m d c < ent m d c) :
    FInv n m0 (d + 1) (c + 1) (elimL m d q) := by
  obtain ⟨p, p1, p2, p3⟩ := h.pv
  have e : ∀ i, i < m.length → ∀ j, ent (elimL m d q) i j = ent m i j - q i * ent m d j := fun i hi j => elimL_ent h.rect hd q hi j
  have e0 : ∀ i, d ≤ i → i < m.length → ∀ j, ent (elimL m d q) i j = ent m i j := fun i h1 hi j => by rw [e i hi, hq i h1]; omega
  have e1 : ∀ i, i < m.length → ∀ j, j < c → ent (elimL m d q) i j = ent m i j := fun i hi j hj => by rw [e i hi, h.z d (Nat.le_refl _) hd j hj]; omega
  refine ⟨by rw [elimL_length]; exact h.len, elimL_rect h.rect hd q, h.sp.trans (elimL_same h.rect hd q (hq d (Nat.le_refl _))), by rw [elimL_length]; omega, ⟨fun i => if i = d then c else p i, fun i hi => ?_, fun i k hik hk => ?_, fun i k hik hk => ?_⟩, fun i q1 q2 j hj => ?_⟩
  · by_cases hid : i = d
    · subst hid
      simp only [if_true]
      exact ⟨by omega, fun j hj => by rw [e1 i hd j hj]; exact h.z i (Nat.le_refl _) hd j hj, by rw [e0 i (Nat.le_refl _) hd]; exact hp⟩
    · simp only [if_neg hid]
      obtain ⟨r1, r2, r3⟩ := p1 i (by omega)
      exact ⟨by omega, fun j hj => by rw [e1 i (by omega) j (by omega)]; exact r2 j hj, by rw [e1 i (by omega) _ r1]; exact r3⟩
  · simp only [if_neg (show i ≠ d by omega)]
    by_cases hkd : k = d
    · rw [if_pos hkd]; exact (p1 i (by omega)).1
    · rw [if_neg hkd]; exact p2 i k hik (by omega)
  · by_cases hkd : k = d
    · subst hkd
      simp only [if_true]
      rw [e i (by omega), e0 k (Nat.le_refl _) hd]
      exact hq2 i hik
    · simp only [if_neg hkd]
      have r1 := (p1 k (by omega)).1
      rw [e1 i (by omega) _ r1, e1 k (by omega) _ r1]
      exact p3 i k hik (by omega)
  · rw [elimL_length] at q2
    rw [e0 i (by omega) q2]
    rcases Nat.lt_or_ge j c with h3 | h3
    · exact h.z i (by omega) q2 j h3
    · obtain rfl : j = c := by omega
      exact hz i (by omega) q2

/-- A basis in normal form. -/
structure IsHnf (B : List (List Int)) : Prop where
  e : Ech 0 (vfs B)
  r : Redu (vfs B)
theorem ech_of (B : List (List Int)) (p : Nat → Nat) (h1 : ∀ i, i < B.length → (∀ j, j < p i → ent B i j = 0) ∧ 0 < ent B i (p i)) (h2 : ∀ i k, i < k → k < B.length → p i < p k) : ∀ k lo, k ≤ B.length → (k < B.length → lo ≤ p k) → Ech lo (vfs (B.drop k)) := by
  intro k
  induction hn : B.length - k generalizing k with
  | zero =>
    intro lo hk _
    rw [List.drop_eq_nil_of_le (by omega)]; trivial
  | succ t ih =>
    intro lo hk hlo
    have hk2 : k < B.length := by omega
    rw [List.drop_eq_getElem_cons hk2]
    have e : ∀ j, vf B[k] j = ent B k j := fun j => by unfold vf ent; rw [List.getD_eq_getElem?_getD (l := B), List.getElem?_eq_getElem hk2]; rfl
    refine ⟨p k, hlo hk2, fun j hj => by rw [e]; exact (h1 k hk2).1 j hj, by rw [e]; exact (h1 k hk2).2, ih (k + 1) (by omega) (p k + 1) (by omega) fun h => ?_⟩
    have := h2 k (k + 1) (by omega) h
    omega
theorem redu_of (B : List (List Int)) (p : Nat → Nat) (h1 : ∀ i, i < B.length → (∀ j, j < p i → ent B i j = 0) ∧ 0 < ent B i (p i)) (h3 : ∀ i k, i < k → k < B.length → 0 ≤ ent B i (p k) ∧ ent B i (p k) < ent B k (p k)) : ∀ k, k ≤ B.length → Redu (vfs (B.drop k)) := by
  intro k
  induction hn : B.length - k generalizing k with
  | zero =>
    intro hk
    rw [List.drop_eq_nil_of_le (by omega)]; trivial
  | succ t ih =>
    intro hk
    have hk2 : k < B.length := by omega
    rw [List.drop_eq_getElem_cons hk2]
    have e : ∀ i (hi : i < B.length) j, vf B[i] j = ent B i j := fun i hi j => by unfold vf ent; rw [List.getD_eq_getElem?_getD (l := B), List.getElem?_eq_getElem hi]; rfl
    refine ⟨fun s hs q hq => ?_, ih (k + 1) (by omega) (by omega)⟩
    obtain ⟨r, hr, rfl⟩ := List.mem_map.1 hs
    obtain ⟨i, hi, rfl⟩ := List.mem_iff_getElem.1 hr
    rw [List.length_drop] at hi
    rw [List.getElem_drop] at hq ⊢
    have hq2 : q = p (k + 1 + i) := piv_one hq ⟨fun j hj => by rw [e _ (by omega)]; exact (h1 _ (by omega)).1 j hj, by rw [e _ (by omega)]; have := (h1 (k + 1 + i) (by omega)).2; omega⟩
    subst hq2
    rw [e k hk2, e _ (by omega)]
    exact h3 k (k + 1 + i) (by omega) (by omega)
theorem FInv.hnf {n : Nat} {m0 m : List (List Int)} {d c : Nat} (h : FInv n m0 d c m) (he : c = n ∨ d = m.length) : IsHnf (m.take d) ∧ SameSp m0 (m.take d) := by
  obtain ⟨p, p1, p2, p3⟩ := h.pv
  have hd := h.dl
  have hl : (m.take d).length = d := by rw [List.length_take]; omega
  have e : ∀ i, i < d → ∀ j, ent (m.take d) i j = ent m i j := fun i hi j => by
    unfold ent
    rw [List.getD_eq_getElem?_getD (l := m.take d), List.getElem?_take, if_pos hi, List.getD_eq_getElem?_getD (l := m)]
  have h1 : ∀ i, i < (m.take d).length → (∀ j, j < p i → ent (m.take d) i j = 0) ∧ 0 < ent (m.take d) i (p i) := fun i hi => by
    rw [hl] at hi
    exact ⟨fun j hj => by rw [e i hi]; exact (p1 i hi).2.1 j hj, by rw [e i hi]; exact (p1 i hi).2.2⟩
  refine ⟨⟨?_, ?_⟩, h.sp.trans (same_of (fun r hr => ?_) fun r hr => sp_row (List.mem_of_mem_take hr))⟩
  · have := ech_of (m.take d) p h1 (fun i k hik hk => p2 i k hik (by omega)) 0 0 (Nat.zero_le _) (fun _ => Nat.zero_le _)
    rwa [List.drop_zero] at this
  · have := redu_of (m.take d) p h1 (fun i k hik hk => by rw [hl] at hk; rw [e i (by omega), e k hk]; exact p3 i k hik hk) 0 (Nat.zero_le _)
    rwa [List.drop_zero] at this
  · obtain ⟨i, hi, rfl⟩ := mem_lrow hr
    by_cases hid : i < d
    · have e2 : (m.take d).getD i [] = m.getD i [] := by rw [List.getD_eq_getElem?_getD (l := m.take d), List.getElem?_take, if_pos hid, List.getD_eq_getElem?_getD (l := m)]
      rw [← e2]
      exact sp_row (lrow_mem (by rw [hl]; exact hid))
    · have hz : vf (m.getD i []) = vz := by
        funext j
        show ent m i j = 0
        rcases Nat.lt_or_ge j n with hj | hj
        · rcases he with he | he
          · exact h.z i (by omega) hi j (by omega)
          · omega
        · exact vf_supp (rect_len h.rect hi) j hj
      rw [hz]; exact sp_zero _
theorem hnf_same {n : Nat} {B B' : List (List Int)} (h1 : IsHnf B) (h2 : IsHnf B') (r1 : Rect n B) (r2 : Rect n B') (h : SameSp B B') : B = B' := by
  have hv := hnf_one h1.e h2.e h1.r h2.r h
  have hl : B.length = B'.length := by have := congrArg List.length hv; simpa [vfs] using this
  refine list_ext hl fun i hi => ?_
  have e : ∀ (B : List (List Int)) (hi : i < B.length), (vfs B)[i]? = some (vf (B.getD i [])) := fun B hi => by
    unfold vfs
    rw [List.getElem?_map, List.getD_eq_getElem?_getD, List.getElem?_eq_getElem hi]; rfl
  have h3 : vf (B.getD i []) = vf (B'.getD i []) := by
    have := congrArg (fun l => l[i]?) hv
    simp only [e B hi, e B' (by omega)] at this
    exact Option.some.inj this
  have l1 := rect_len r1 hi
  have l2 := rect_len r2 (show i < B'.length by omega)
  refine List.ext_getElem (by omega) fun j g1 g2 => ?_
  have := congrFun h3 j
  unfold vf at this
  rw [List.getD_eq_getElem?_getD (l := B.getD i []), List.getElem?_eq_getElem g1, List.getD_eq_getElem?_getD (l := B'.getD i []), List.getElem?_eq_getElem g2] at this
  exact this

end Go.Proofs.YtepicfdhphiiaaaGreatDoor

/- What the walk of the Hermite normal form asks of a family of states; two families, plain. -/
namespace Go.Proofs.YtepicfdhphiiaaaGreatDoor

/-! What the walk of the normal form asks of a family of states. -/
/-- The multiples of row d that are taken from the rows behind it, and from those ahead of it. -/
def rouQ (R : List (List Int)) (d c : Nat) : Nat → Int := fun i => if d < i then Int.fdiv (ent R i c) (ent R d c) else 0
def redQ (R : List (List Int)) (d c : Nat) : Nat → Int := fun i => if i < d then Int.fdiv (ent R i c) (ent R d c) else 0
/-- Row d with a number greater than 0 at c. -/
def posL (R : List (List Int)) (d c : Nat) : List (List Int) := if ent R d c < 0 then negL R d else R
/-- The row with the least number that is not 0. -/
structure LeastA (R : List (List Int)) (mm d c a : Nat) : Prop where
  lo : d ≤ a
  hi : a < mm
  nz : ent R a c ≠ 0
  le : ∀ i, d ≤ i → i < mm → ent R i c ≠ 0 → (ent R a c).natAbs ≤ (ent R i c).natAbs
/-- All numbers that come up. -/
def FineE (Lim mm n : Nat) (R : List (List Int)) (d : Nat) (q : Nat → Int) : Prop := ∀ i, i < mm → i ≠ d → (q i).natAbs ≤ Lim ∧ ∀ j, j < n → (q i * ent R d j).natAbs ≤ Lim ∧ (ent R i j - q i * ent R d j).natAbs ≤ Lim
structure Eng (n mm Lim : Nat) (I0 : Nat → Nat → List (List Int) → Prop) (I1 : Nat → Nat → Nat → List (List Int) → Prop) : Prop where
  at0 : ∀ {d c R}, I0 d c R → R.length = mm ∧ Rect n R ∧ d ≤ mm ∧ c ≤ n
  at1 : ∀ {f d c R}, I1 f d c R → R.length = mm ∧ Rect n R ∧ d < mm ∧ c < n ∧ ∀ i, i < mm → ∀ j, j < n → (ent R i j).natAbs ≤ Lim
  into : ∀ {d c R}, I0 d c R → d < mm → c < n → ∃ f, I1 f d c R
  none : ∀ {f d c R}, I1 f d c R → (∀ i, d ≤ i → i < mm → ent R i c = 0) → I0 d (c + 1) R
  num : ∀ {f d c R a}, I1 f d c R → LeastA R mm d c a → FineE Lim mm n (swapL R d a) d (rouQ (swapL R d a) d c)
  more : ∀ {f d c R a}, I1 f d c R → LeastA R mm d c a → (∃ i, d < i ∧ i < mm ∧ ent (elimL (swapL R d a) d (rouQ (swapL R d a) d c)) i c ≠ 0) → ∃ f', f' < f ∧ I1 f' d c (elimL (swapL R d a) d (rouQ (swapL R d a) d c))
  num2 : ∀ {f d c R a R2 R3}, I1 f d c R → LeastA R mm d c a → R2 = elimL (swapL R d a) d (rouQ (swapL R d a) d c) → (∀ i, d < i → i < mm → ent R2 i c = 0) → R3 = posL R2 d c → (∀ i, i < mm → ∀ j, j < n → (ent R3 i j).natAbs ≤ Lim) ∧ FineE Lim mm n R3 d (redQ R3 d c)
  next : ∀ {f d c R a R2 R3}, I1 f d c R → LeastA R mm d c a → R2 = elimL (swapL R d a) d (rouQ (swapL R d a) d c) → (∀ i, d < i → i < mm → ent R2 i c = 0) → R3 = posL R2 d c → I0 (d + 1) (c + 1) (elimL R3 d (redQ R3 d c))

/-! Floors. -/
theorem fdiv_rem (a b : Int) : a - Int.fdiv a b * b = Int.fmod a b := by
  have := Int.mul_fdiv_add_fmod a b
  rw [Int.mul_comm] at this
  omega
theorem fmod_pos {a b : Int} (h : 0 < b) : 0 ≤ Int.fmod a b ∧ Int.fmod a b < b := ⟨Int.fmod_nonneg_of_pos a h, Int.fmod_lt_of_pos a h⟩
theorem fmod_neg {a b : Int} (h : b < 0) : Int.fmod a b ≤ 0 ∧ b < Int.fmod a b := by
  have h1 := fmod_pos (a := -a) (b := -b) (by omega)
  rw [Int.neg_fmod_neg] at h1
  omega
theorem fmod_abs {a b : Int} (hb : b ≠ 0) : (Int.fmod a b).natAbs < b.natAbs := by
  rcases Int.lt_or_gt_of_ne hb with h | h
  · have := fmod_neg (a := a) h; omega
  · have := fmod_pos (a := a) h; omega
/-- The floor's size, in general. -/
theorem fdiv_abs {a b : Int} (hb : b ≠ 0) : (Int.fdiv a b).natAbs * b.natAbs ≤ a.natAbs + b.natAbs := by
  have h1 := Int.mul_fdiv_add_fmod a b
  have h2 := fmod_abs (a := a) hb
  rw [← Int.natAbs_mul, Int.mul_comm]
  generalize Int.fmod a b = r at *
  generalize b * Int.fdiv a b = t at *
  omega
/-- .. and where both numbers have one sign. -/
theorem fdiv_abs_same {a b : Int} (hb : b ≠ 0) (hs : 0 ≤ a * b) : (Int.fdiv a b).natAbs * b.natAbs + (Int.fmod a b).natAbs = a.natAbs := by
  have key : ∀ x y : Int, 0 ≤ x → 0 < y → (Int.fdiv x y).natAbs * y.natAbs + (Int.fmod x y).natAbs = x.natAbs := by
    intro x y hx hy
    have h1 := Int.mul_fdiv_add_fmod x y
    have h2 := fmod_pos (a := x) hy
    have h3 : 0 ≤ Int.fdiv x y := by rw [Int.fdiv_eq_ediv_of_nonneg _ (by omega)]; exact Int.ediv_nonneg hx (by omega)
    have h4 : 0 ≤ y * Int.fdiv x y := Int.mul_nonneg (by omega) h3
    rw [← Int.natAbs_mul, Int.mul_comm]
    generalize Int.fmod x y = r at *
    generalize y * Int.fdiv x y = t at *
    omega
  rcases Int.lt_or_gt_of_ne hb with h | h
  · have ha : a ≤ 0 := by
      refine Int.not_lt.1 fun hc => ?_
      have := Int.mul_neg_of_pos_of_neg hc h
      omega
    have := key (-a) (-b) (by omega) (by omega)
    rw [Int.neg_fdiv_neg, Int.neg_fmod_neg, Int.natAbs_neg, Int.natAbs_neg, Int.natAbs_neg] at this
    exact this
  · have ha : 0 ≤ a := by
      refine Int.not_lt.1 fun hc => ?_
      have := Int.mul_neg_of_neg_of_pos hc h
      omega
    exact key a b ha h
theorem fmod_sign (a b : Int) (hb : b ≠ 0) : 0 ≤ Int.fmod a b * b := by
  rcases Int.lt_or_gt_of_ne hb with h | h
  · have h1 := (fmod_neg (a := a) h).1
    have := Int.mul_nonneg (show 0 ≤ -(Int.fmod a b) by omega) (show 0 ≤ -b by omega)
    rwa [Int.neg_mul_neg] at this
  · exact Int.mul_nonneg (fmod_pos h).1 (by omega)
theorem same_tran {x y p : Int} (hp : p ≠ 0) (h1 : 0 ≤ x * p) (h2 : 0 ≤ y * p) : 0 ≤ x * y := by
  rcases Int.lt_or_gt_of_ne hp with h | h
  · have hx : x ≤ 0 := Int.not_lt.1 fun hc => by have := Int.mul_neg_of_pos_of_neg hc h; omega
    have hy : y ≤ 0 := Int.not_lt.1 fun hc => by have := Int.mul_neg_of_pos_of_neg hc h; omega
    have := Int.mul_nonneg (show 0 ≤ -x by omega) (show 0 ≤ -y by omega)
    rwa [Int.neg_mul_neg] at this
  · have hx : 0 ≤ x := Int.not_lt.1 fun hc => by have := Int.mul_neg_of_neg_of_pos hc h; omega
    have hy : 0 ≤ y := Int.not_lt.1 fun hc => by have := Int.mul_neg_of_neg_of_pos hc h; omega
    exact Int.mul_nonneg hx hy

/-! The bounds. -/
/-- All numbers of the rows from d on are at most M. -/
def ActB (R : List (List Int)) (d M : Nat) : Prop := ∀ i, d ≤ i → i < R.length → ∀ j, (ent R i j).natAbs ≤ M
def DonB (R : List (List Int)) (d M : Nat) : Prop := ∀ i, i < d → ∀ j, (ent R i j).natAbs ≤ M
def ColB (R : List (List Int)) (d c A : Nat) : Prop := ∀ i, d ≤ i → i < R.length → (ent R i c).natAbs ≤ A
/-- Growing bounds for the rows behind and ahead. -/
structure Seqs (mm n Lim : Nat) (sM sD sK : Nat → Nat) : Prop where
  one : ∀ d, 1 ≤ sM d
  up : ∀ d, sM d ≤ sM (d + 1)
  m : ∀ d, d + 1 < mm → 3 * sK d ≤ sM (d + 1)
  k : ∀ d, d + 1 < mm → 9 * (sM d * sM d * (sM d * sM d) * sM d) ≤ sK d * sK d
  dd : ∀ d, (sD d + 1) * (1 + sM (d + 1)) ≤ sD (d + 1)
  lim : ∀ d, d ≤ mm → d ≤ n → sM d ≤ Lim ∧ sD d ≤ Lim
/-- The rows whose number is not 0. -/
def NzB (R : List (List Int)) (d c M : Nat) : Prop := ∀ i, d ≤ i → i < R.length → ent R i c ≠ 0 → ∀ j, (ent R i j).natAbs ≤ M
def GI0 (n mm : Nat) (m0 : List (List Int)) (sM sD : Nat → Nat) (d c : Nat) (R : List (List Int)) : Prop := FInv n m0 d c R ∧ R.length = mm ∧ d ≤ c ∧ c ≤ n ∧ ActB R d (sM d) ∧ DonB R d (sD d)
def GI1 (n mm : Nat) (m0 : List (List Int)) (sM sD sK : Nat → Nat) (f d c : Nat) (R : List (List Int)) : Prop := FInv n m0 d c R ∧ R.length = mm ∧ d ≤ c ∧ c < n ∧ d < mm ∧ DonB R d (sD d) ∧
  ∃ M A Z, 1 ≤ M ∧ ActB R d Z ∧ NzB R d c M ∧ ColB R d c A ∧
    ((f = A + 1 ∧ M = sM d ∧ A = sM d ∧ Z = sM d) ∨
     (f = A ∧ d + 1 < mm ∧ Z = 3 * sK d ∧ (∃ i, d ≤ i ∧ i < mm ∧ ent R i c ≠ 0) ∧ (∀ i k, d ≤ i → i < mm → d ≤ k → k < mm → 0 ≤ ent R i c * ent R k c) ∧ (∃ o, d ≤ o ∧ o < mm ∧ (ent R o c).natAbs = A ∧ ∀ i, d ≤ i → i < mm → i ≠ o → (ent R i c).natAbs < A) ∧ ∀ a, LeastA R mm d c a → (ent R a c).natAbs < A ∧ M * A * (M * A) * (ent R a c).natAbs ≤ sK d * sK d))

theorem pot_alg {q P r P' : Nat} (hq : 1 ≤ q) (hr : r < P) (hp : P' ≤ r) : (1 + q) * P * ((1 + q) * P') ≤ (q * P + r) * (q * P + r) := by
  obtain ⟨s, rfl⟩ : ∃ s, q = s + 1 := ⟨q - 1, by omega⟩
  obtain ⟨t, rfl⟩ : ∃ t, P = r + t := ⟨P - r, by omega⟩
  have h1 : (1 + (s + 1)) * (r + t) * ((1 + (s + 1)) * P') ≤ (1 + (s + 1)) * (r + t) * ((1 + (s + 1)) * r) := Nat.mul_le_mul_left _ (Nat.mul_le_mul_left _ hp)
  refine Nat.le_trans h1 ?_
  have h2 : ((s + 1) * (r + t) + r) * ((s + 1) * (r + t) + r) = (1 + (s + 1)) * (r + t) * ((1 + (s + 1)) * r) + (s * (s + 2) * r * t + (s + 1) * (s + 1) * t * t) := by grind
  omega
theorem sq_le {a b : Nat} (h : a * a ≤ b * b) : a ≤ b := by
  rcases Nat.lt_or_ge b a with h1 | h1
  · have h2 : b * b < a * a := Nat.mul_lt_mul_of_lt_of_le h1 (Nat.le_of_lt h1) (by omega)
    omega
  · exact h1
theorem quo_same {a b : Int} (hb : b ≠ 0) (hs : 0 ≤ a * b) : (Int.fdiv a b).natAbs = a.natAbs / b.natAbs ∧ (Int.fmod a b).natAbs = a.natAbs % b.natAbs := by
  have h1 := fdiv_abs_same hb hs
  have h2 := fmod_abs (a := a) hb
  have h3 : 0 < b.natAbs := by omega
  generalize (Int.fdiv a b).natAbs = q at *
  generalize (Int.fmod a b).natAbs = r at *
  rw [← h1]
  constructor
  · rw [Nat.mul_comm, Nat.mul_add_div h3, Nat.div_eq_of_lt h2, Nat.add_zero]
  · rw [Nat.mul_comm, Nat.mul_add_mod, Nat.mod_eq_of_lt h2]

section
variable {n mm Lim : Nat} {m0 : List (List Int)} {sM sD sK : Nat → Nat}

theorem swap_act {R : List (List Int)} {d a M : Nat} (h : ActB R d M) (h1 : d ≤ a) (h2 : a < R.length) : ActB (swapL R d a) d M := fun i q1 q2 j => by
  rw [swapL_length] at q2
  rw [swapL_ent R d a q2]
  refine h _ ?_ (swap_lt (by omega) h2 q2) j
  split
  · exact h1
  · split <;> omega
theorem swap_col {R : List (List Int)} {d c a A : Nat} (h : ColB R d c A) (h1 : d ≤ a) (h2 : a < R.length) : ColB (swapL R d a) d c A := fun i q1 q2 => by
  rw [swapL_length] at q2
  rw [swapL_ent R d a q2]
  refine h _ ?_ (swap_lt (by omega) h2 q2)
  split
  · exact h1
  · split <;> omega
theorem swap_don {R : List (List Int)} {d a M : Nat} (h : DonB R d M) (h1 : d ≤ a) (h2 : a < R.length) : DonB (swapL R d a) d M := fun i hi j => by
  rw [swapL_ent R d a (by omega), if_neg (by omega), if_neg (by omega)]
  exact h i hi j
theorem elim_don {R : List (List Int)} {d M : Nat} (hr : Rect n R) (hd : d < R.length) {q : Nat → Int} (hq : ∀ i, i ≤ d → q i = 0) (h : DonB R d M) : DonB (elimL R d q) d M := fun i hi j => by
  rw [elimL_ent hr hd q (by omega), hq i (by omega), Int.zero_mul, Int.sub_zero]
  exact h i hi j
theorem rouQ_zero (R : List (List Int)) (d c i : Nat) (h : i ≤ d) : rouQ R d c i = 0 := by unfold rouQ; rw [if_neg (by omega)]
theorem redQ_zero (R : List (List Int)) (d c i : Nat) (h : d ≤ i) : redQ R d c i = 0 := by unfold redQ; rw [if_neg (by omega)]

/-- What a round does to the bounds. -/
structure RoundB (R1 : List (List Int)) (mm d c M M' : Nat) : Prop where
  q : ∀ i, d < i → i < mm → (rouQ R1 d c i).natAbs ≤ M'
  p : ∀ i, d < i → i < mm → ∀ j, (rouQ R1 d c i * ent R1 d j).natAbs ≤ M'
  s : ∀ i, d < i → i < mm → ∀ j, (ent R1 i j - rouQ R1 d c i * ent R1 d j).natAbs ≤ M'
  m : M ≤ M'
end
section
variable {n mm Lim : Nat} {m0 : List (List Int)} {sM sD sK : Nat → Nat}

theorem col_after {R1 : List (List Int)} {d c : Nat} (hr : Rect n R1) (hl : R1.length = mm) (hd : d < mm) : (∀ i, d < i → i < mm → ent (elimL R1 d (rouQ R1 d c)) i c = Int.fmod (ent R1 i c) (ent R1 d c)) ∧ ent (elimL R1 d (rouQ R1 d c)) d c = ent R1 d c := by
  refine ⟨fun i h1 h2 => ?_, ?_⟩
  · rw [elimL_ent hr (by omega) _ (by omega)]
    unfold rouQ
    rw [if_pos h1, fdiv_rem]
  · rw [elimL_ent hr (by omega) _ (by omega), rouQ_zero _ _ _ _ (Nat.le_refl _)]; omega
/-- The least number of a state is at row d behind the exchange. -/
theorem least_swap {R : List (List Int)} {d c a : Nat} (hl : R.length = mm) (h : LeastA R mm d c a) : (ent (swapL R d a) d c) = ent R a c ∧ ∀ i, d ≤ i → i < mm → ent (swapL R d a) i c ≠ 0 → (ent R a c).natAbs ≤ (ent (swapL R d a) i c).natAbs := by
  have hd : d < mm := Nat.lt_of_le_of_lt h.lo h.hi
  refine ⟨by rw [swapL_ent R d a (by omega), if_pos rfl], fun i h1 h2 h3 => ?_⟩
  rw [swapL_ent R d a (by omega)] at h3 ⊢
  refine h.le _ ?_ (swap_lt hd h.hi h2) h3
  split
  · exact h.lo
  · split <;> omega

/-- Bounds and numbers of a round that has other rows to change. -/
theorem round_all {f d c a : Nat} {R : List (List Int)} (S : Seqs mm n Lim sM sD sK) (h : GI1 n mm m0 sM sD sK f d c R) (hL : LeastA R mm d c a) (hd1 : d + 1 < mm) :
    RoundB (swapL R d a) mm d c 1 (3 * sK d) ∧ ActB (elimL (swapL R d a) d (rouQ (swapL R d a) d c)) d (3 * sK d) ∧
      ((∃ i, d < i ∧ i < mm ∧ ent (elimL (swapL R d a) d (rouQ (swapL R d a) d c)) i c ≠ 0) → (ent R a c).natAbs < f ∧ ∃ M', 1 ≤ M' ∧ NzB (elimL (swapL R d a) d (rouQ (swapL R d a) d c)) d c M' ∧ ∀ b, LeastA (elimL (swapL R d a) d (rouQ (swapL R d a) d c)) mm d c b → (ent (elimL (swapL R d a) d (rouQ (swapL R d a) d c)) b c).natAbs < (ent R a c).natAbs ∧ M' * (ent R a c).natAbs * (M' * (ent R a c).natAbs) * (ent (elimL (swapL R d a) d (rouQ (swapL R d a) d c)) b c).natAbs ≤ sK d * sK d) := by
  obtain ⟨hF, hl, hdc, hcn, hdm, hD, M, A, Z, hM1, hA, hN, hC, hcase⟩ := h
  have hr1 := swapL_rect hF.rect (a := d) (b := a) (by omega) (by rw [hl]; exact hL.hi)
  have hl1 : (swapL R d a).length = mm := by rw [swapL_length]; exact hl
  obtain ⟨e0, e1⟩ := least_swap hl hL
  have hP0 : (ent R a c) ≠ 0 := hL.nz
  have hPA : (ent R a c).natAbs ≤ A := hC a hL.lo (by rw [hl]; exact hL.hi)
  obtain ⟨hc1, hc2⟩ := col_after (c := c) hr1 hl1 hdm
  rw [e0] at hc1 hc2
  -- rows behind the exchange
  have hsw : ∀ i, d ≤ i → i < mm → d ≤ (if i = d then a else if i = a then d else i) ∧ (if i = d then a else if i = a then d else i) < mm := fun i h1 h2 =>
    ⟨by split; (· exact hL.lo); split <;> omega, swap_lt hdm hL.hi h2⟩
  have hA1 := swap_act hA hL.lo (by rw [hl]; exact hL.hi)
  have hC1 := swap_col hC hL.lo (by rw [hl]; exact hL.hi)
  have hN1 : NzB (swapL R d a) d c M := fun i q1 q2 q3 j => by
    rw [swapL_length] at q2
    rw [swapL_ent R d a q2] at q3 ⊢
    exact hN _ (hsw i q1 (by omega)).1 (by rw [hl]; exact (hsw i q1 (by omega)).2) q3 j
  have hent : ∀ i, d ≤ i → i < mm → ∀ j, ent (swapL R d a) i j = ent R (if i = d then a else if i = a then d else i) j := fun i _ h2 j => swapL_ent R d a (by omega) j
  generalize hR1 : swapL R d a = R1 at *
  generalize hR2 : elimL R1 d (rouQ R1 d c) = R2 at *
  obtain ⟨P, hP⟩ : ∃ P, (ent R a c).natAbs = P := ⟨_, rfl⟩
  have hP1 : 1 ≤ P := by omega
  rw [hP] at hPA e1 ⊢
  have hA0 : 1 ≤ A := by omega
  have hq0 : ∀ i, ent R1 i c = 0 → rouQ R1 d c i = 0 := fun i hi => by
    unfold rouQ
    split
    · rw [hi]; simp
    · rfl
  have hent2 : ∀ i, d < i → i < mm → ∀ j, ent R2 i j = ent R1 i j - Int.fdiv (ent R1 i c) (ent R1 d c) * ent R1 d j := fun i h1 h2 j => by
    rw [← hR2, elimL_ent hr1 (by omega) _ (by omega)]
    unfold rouQ
    rw [if_pos h1]
  have hent3 : ∀ j, ent R2 d j = ent R1 d j := fun j => by
    rw [← hR2, elimL_ent hr1 (by omega) _ (by omega), rouQ_zero _ _ _ _ (Nat.le_refl _)]; omega
  have hrow : ∀ j, (ent R1 d j).natAbs ≤ M := hN1 d (Nat.le_refl _) (by omega) (by rw [e0]; exact hP0)
  -- the factor
  have hMA : M * A ≤ sK d := by
    rcases hcase with ⟨_, rfl, rfl, _⟩ | ⟨_, _, _, _, _, _, hq⟩
    · have h1 := S.one d
      have h2 := S.k d hd1
      refine sq_le (Nat.le_trans ?_ h2)
      have h3 : sM d * sM d * (sM d * sM d) * 1 ≤ sM d * sM d * (sM d * sM d) * sM d := Nat.mul_le_mul_left _ h1
      omega
    · have q1 := (hq a hL).2
      rw [hP] at q1
      have q2 : M * A * (M * A) * 1 ≤ M * A * (M * A) * P := Nat.mul_le_mul_left _ hP1
      exact sq_le (by omega)
  have hZ : Z ≤ 3 * sK d := by
    rcases hcase with ⟨_, rfl, rfl, rfl⟩ | ⟨_, _, rfl, _⟩
    · have h1 := S.one d
      have h3 : sM d * 1 ≤ sM d * sM d := Nat.mul_le_mul_left _ h1
      omega
    · exact Nat.le_refl _
  have hB : ∃ B, (∀ i, d < i → i < mm → (Int.fdiv (ent R1 i c) (ent R1 d c)).natAbs ≤ B) ∧ B * P ≤ A + P := by
    refine ⟨(A + P) / P, fun i h1 h2 => ?_, Nat.div_mul_le_self _ _⟩
    rw [Nat.le_div_iff_mul_le (by omega)]
    have h3 := fdiv_abs (a := ent R1 i c) (b := ent R1 d c) (by rw [e0]; exact hP0)
    rw [e0, hP] at h3
    have h4 := hC1 i (by omega) (by omega)
    rw [e0]
    omega
  obtain ⟨B, hB1, hB2⟩ := hB
  have hMB : M * (1 + B) ≤ 3 * sK d ∧ M * (1 + B) * P ≤ 3 * (M * A) := by
    have eM : M * (1 + B) * P = M * P + M * (B * P) := by rw [Nat.mul_add, Nat.mul_one, Nat.add_mul, Nat.mul_assoc]
    have h1 : M * P ≤ M * A := Nat.mul_le_mul_left _ hPA
    have h2 : M * (B * P) ≤ M * (A + P) := Nat.mul_le_mul_left _ hB2
    rw [Nat.mul_add] at h2
    have h3 : M * (1 + B) ≤ M * (1 + B) * P := Nat.le_mul_of_pos_right _ hP1
    omega
  have hqb : ∀ i, d < i → i < mm → (Int.fdiv (ent R1 i c) (ent R1 d c)).natAbs ≤ M * B := fun i h1 h2 => Nat.le_trans (hB1 i h1 h2) (Nat.le_mul_of_pos_left _ hM1)
  have hpb : ∀ i, d < i → i < mm → ∀ j, (Int.fdiv (ent R1 i c) (ent R1 d c) * ent R1 d j).natAbs ≤ M * B := fun i h1 h2 j => by
    rw [Int.natAbs_mul, Nat.mul_comm M B]
    exact Nat.mul_le_mul (hB1 i h1 h2) (hrow j)
  have eB : M * (1 + B) = M + M * B := by rw [Nat.mul_add, Nat.mul_one]
  have hsb : ∀ i, d < i → i < mm → ∀ j, (ent R2 i j).natAbs ≤ 3 * sK d := fun i h1 h2 j => by
    rw [hent2 i h1 h2 j]
    by_cases hz : ent R1 i c = 0
    · rw [hz]
      have : Int.fdiv 0 (ent R1 d c) = 0 := by simp
      rw [this, Int.zero_mul, Int.sub_zero]
      exact Nat.le_trans (hA1 i (by omega) (by omega) j) hZ
    · have h3 := hpb i h1 h2 j
      have h4 := hN1 i (by omega) (by omega) hz j
      have h5 := hMB.1
      omega
  refine ⟨⟨fun i h1 h2 => ?_, fun i h1 h2 j => ?_, fun i h1 h2 j => ?_, by have := hMB.1; omega⟩, fun i h1 h2 j => ?_, fun ⟨i, h1, h2, hnz⟩ => ?_⟩
  · unfold rouQ; rw [if_pos h1]; have := hqb i h1 h2; have := hMB.1; omega
  · unfold rouQ; rw [if_pos h1]; have := hpb i h1 h2 j; have := hMB.1; omega
  · have := hsb i h1 h2 j
    rw [hent2 i h1 h2 j] at this
    unfold rouQ; rw [if_pos h1]; exact this
  · have hl2 : R2.length = mm := by rw [← hR2, elimL_length]; exact hl1
    rcases Nat.lt_or_ge d i with h3 | h3
    · exact hsb i h3 (by omega) j
    · obtain rfl : i = d := by omega
      rw [hent3]
      have := hrow j; have := hMB.1; omega
  have hrem := hc1 i h1 h2
  have hlt : P < f := by
    rcases hcase with ⟨hf, _, _⟩ | ⟨hf, _, _, _, _, _, hq⟩
    · omega
    · have := (hq a hL).1
      rw [hP] at this
      omega
  have hl2 : R2.length = mm := by rw [← hR2, elimL_length]; exact hl1
  refine ⟨hlt, ?_⟩
  -- the least number of the new state
  have hbP : ∀ b, LeastA R2 mm d c b → ∀ k, d < k → k < mm → ent R2 k c ≠ 0 → (ent R2 b c).natAbs ≤ (ent R2 k c).natAbs := fun b hb k q1 q2 q3 => hb.le k (by omega) q2 q3
  have hfm : ∀ k, d < k → k < mm → (ent R2 k c).natAbs < P := fun k q1 q2 => by
    rw [hc1 k q1 q2, ← hP]; exact fmod_abs hP0
  -- rows with a number that is not 0, by their multiples
  have hnzb : ∀ Q, (∀ k, d < k → k < mm → ent R2 k c ≠ 0 → (Int.fdiv (ent R1 k c) (ent R1 d c)).natAbs ≤ Q) → NzB R2 d c (M * (1 + Q)) := fun Q hQ k q1 q2 q3 j => by
    have eQ : M * (1 + Q) = M + M * Q := by rw [Nat.mul_add, Nat.mul_one]
    rcases Nat.lt_or_ge d k with h3 | h3
    · have q4 : ent R1 k c ≠ 0 := fun h0 => by
        rw [hc1 k h3 (by omega), h0] at q3
        exact q3 (by simp)
      rw [hent2 k h3 (by omega)]
      have h5 : (Int.fdiv (ent R1 k c) (ent R1 d c) * ent R1 d j).natAbs ≤ M * Q := by
        rw [Int.natAbs_mul, Nat.mul_comm M Q]
        exact Nat.mul_le_mul (hQ k h3 (by omega) q3) (hrow j)
      have h6 := hN1 k (by omega) (by omega) q4 j
      omega
    · obtain rfl : k = d := by omega
      rw [hent3]
      have := hrow j
      omega
  rcases hcase with ⟨hf, hMs, hAs, _⟩ | ⟨hf, hd2, _, _, hs, ⟨o, ho1, ho2, ho3, ho4⟩, hq⟩
  · refine ⟨M * (1 + B), by rw [eB]; omega, hnzb B (fun k q1 q2 _ => hB1 k q1 q2), fun b hb => ?_⟩
    have h3 := hbP b hb i h1 h2 hnz
    have h4 := hfm i h1 h2
    refine ⟨by omega, ?_⟩
    have h5 : M * (1 + B) * P * (M * (1 + B) * P) * (ent R2 b c).natAbs ≤ 3 * (M * A) * (3 * (M * A)) * A := Nat.mul_le_mul (Nat.mul_le_mul hMB.2 hMB.2) (by omega)
    refine Nat.le_trans h5 (Nat.le_trans ?_ (S.k d hd1))
    rw [hMs, hAs]
    have e6 : 3 * (sM d * sM d) * (3 * (sM d * sM d)) * sM d = 9 * (sM d * sM d * (sM d * sM d) * sM d) := by grind
    omega
  · have hsg : ∀ k, d ≤ k → k < mm → 0 ≤ ent R1 k c * ent R a c := fun k q1 q2 => by
      rw [hent k q1 q2]
      exact hs _ _ (hsw k q1 q2).1 (hsw k q1 q2).2 hL.lo hL.hi
    have hquo : ∀ k, d ≤ k → k < mm → (Int.fdiv (ent R1 k c) (ent R1 d c)).natAbs = (ent R1 k c).natAbs / P ∧ (Int.fmod (ent R1 k c) (ent R a c)).natAbs = (ent R1 k c).natAbs % P := fun k q1 q2 => by
      have := quo_same hP0 (hsg k q1 q2)
      rw [hP] at this
      rw [e0]
      exact this
    have hq1 := hq a hL
    rw [hP] at hq1
    -- the place of the old pivot
    have hoa : o ≠ a := fun e => by rw [e, hP] at ho3; omega
    have hio : ∃ k, d < k ∧ k < mm ∧ (ent R1 k c).natAbs = A := by
      by_cases e : o = d
      · refine ⟨a, by have := hL.lo; omega, hL.hi, ?_⟩
        rw [hent a hL.lo hL.hi]
        have : (if a = d then a else if a = a then d else a) = d := by
          rw [if_neg (by omega), if_pos rfl]
        rw [this, ← e]; exact ho3
      · refine ⟨o, by omega, ho2, ?_⟩
        rw [hent o ho1 ho2, if_neg e, if_neg hoa]; exact ho3
    obtain ⟨k0, k01, k02, k03⟩ := hio
    have hother : ∀ k, d < k → k < mm → (ent R1 k c).natAbs = A ∨ (ent R1 k c).natAbs < A := fun k q1 q2 => by
      have := hC1 k (by omega) (by omega); omega
    have hAP : A = A / P * P + A % P := by rw [Nat.mul_comm]; exact (Nat.div_add_mod A P).symm
    have hr0 : A % P < P := Nat.mod_lt _ (by omega)
    have hq2 : 1 ≤ A / P := by rw [Nat.le_div_iff_mul_le (by omega)]; omega
    by_cases h0 : A % P = 0
    · -- the old pivot leaves nothing
      have hM2 : M * (1 + (A / P - 1)) = M * (A / P) := by rw [show 1 + (A / P - 1) = A / P by omega]
      refine ⟨M * (1 + (A / P - 1)), by rw [hM2]; exact Nat.mul_le_mul hM1 hq2, hnzb _ (fun k q1 q2 q3 => ?_), fun b hb => ?_⟩
      · rw [(hquo k (by omega) q2).1]
        have q4 : (ent R1 k c).natAbs < A := by
          rcases hother k q1 q2 with h | h
          · have h5 := (hquo k (by omega) q2).2
            rw [h, h0, ← hc1 k q1 q2] at h5
            exact absurd (Int.natAbs_eq_zero.1 h5) q3
          · exact h
        have h6 : (ent R1 k c).natAbs < A / P * P := by omega
        have h7 := (Nat.div_lt_iff_lt_mul (by omega : 0 < P)).2 h6
        omega
      · have h3 := hbP b hb i h1 h2 hnz
        have h4 := hfm i h1 h2
        refine ⟨by omega, ?_⟩
        rw [hM2]
        have e5 : M * (A / P) * P = M * A := by rw [Nat.mul_assoc, ← show A = A / P * P by omega]
        rw [e5]
        refine Nat.le_trans (Nat.mul_le_mul_left _ (by omega)) hq1.2
    · refine ⟨M * (1 + A / P), Nat.le_trans hM1 (Nat.le_mul_of_pos_right _ (by omega)), hnzb _ (fun k q1 q2 _ => ?_), fun b hb => ?_⟩
      · rw [(hquo k (by omega) q2).1]
        exact Nat.div_le_div_right (hC1 k (by omega) (by omega))
      · have h3 := hbP b hb i h1 h2 hnz
        have h4 := hfm i h1 h2
        refine ⟨by omega, ?_⟩
        have h5 := (hquo k0 (by omega) k02).2
        rw [k03, ← hc1 k0 k01 k02] at h5
        have h6 := hbP b hb k0 k01 k02 (fun h => by rw [h] at h5; simp at h5; omega)
        have h7 := pot_alg (q := A / P) (P := P) (r := A % P) (P' := (ent R2 b c).natAbs) hq2 hr0 (by omega)
        rw [← hAP] at h7
        generalize (ent R2 b c).natAbs = P' at *
        generalize A / P = Q at *
        have e8 : M * (1 + Q) * P * (M * (1 + Q) * P) * P' = M * M * P * ((1 + Q) * P * ((1 + Q) * P')) := by ac_rfl
        have e9 : M * A * (M * A) * P = M * M * P * (A * A) := by ac_rfl
        rw [e8]
        refine Nat.le_trans (Nat.mul_le_mul_left _ h7) ?_
        rw [← e9]
        exact hq1.2
end
section
variable {n mm Lim : Nat} {m0 : List (List Int)} {sM sD sK : Nat → Nat}
theorem Seqs.mono (S : Seqs mm n Lim sM sD sK) (d : Nat) : sM (d + 1) ≤ sD (d + 1) ∧ sD d + sD d * sM (d + 1) ≤ sD (d + 1) ∧ sD d * sM (d + 1) ≤ sD (d + 1) ∧ sD d ≤ sD (d + 1) := by
  have h := S.dd d
  have e : (sD d + 1) * (1 + sM (d + 1)) = sD d + sD d * sM (d + 1) + 1 + sM (d + 1) := by rw [Nat.add_mul, Nat.mul_add, Nat.mul_one, Nat.one_mul]; omega
  omega
theorem GI1.bound {f d c : Nat} {R : List (List Int)} (S : Seqs mm n Lim sM sD sK) (h : GI1 n mm m0 sM sD sK f d c R) : ∀ i, i < mm → ∀ j, (ent R i j).natAbs ≤ Lim := by
  obtain ⟨hF, hl, hdc, hcn, hdm, hD, M, A, Z, hM1, hA, hN, hC, hcase⟩ := h
  intro i hi j
  rcases Nat.lt_or_ge i d with h1 | h1
  · exact Nat.le_trans (hD i h1 j) (S.lim d (by omega) (by omega)).2
  · have h2 := hA i h1 (by omega) j
    rcases hcase with ⟨_, _, _, rfl⟩ | ⟨_, hd1, rfl, _⟩
    · exact Nat.le_trans h2 (S.lim d (by omega) (by omega)).1
    · exact Nat.le_trans h2 (Nat.le_trans (S.m d hd1) (S.lim (d + 1) (by omega) (by omega)).1)
/-- Where no row is behind row d, a round changes nothing. -/
theorem round_none {d a c : Nat} {R : List (List Int)} (hr : Rect n R) (hl : R.length = mm) (hd : d + 1 = mm) (h : LeastA R mm d c a) : a = d ∧ elimL (swapL R d a) d (rouQ (swapL R d a) d c) = R := by
  have ha : a = d := by have := h.lo; have := h.hi; omega
  subst ha
  refine ⟨rfl, list_ext (by rw [elimL_length, swapL_length]) fun i hi => ?_⟩
  rw [elimL_length, swapL_length] at hi
  have hr1 := swapL_rect hr (a := a) (b := a) (by omega) (by omega)
  rw [elimL_row hr1 _ (by rw [swapL_length]; exact hi), rouQ_zero _ _ _ _ (by omega)]
  have e : ∀ k, k < R.length → (swapL R a a).getD k [] = R.getD k [] := fun k hk => by
    rw [swapL_row R a a hk]
    congr 1
    split
    · rename_i h; exact h.symm
    · rfl
  rw [e i hi, e a (by omega), subR_zero _ _ (by rw [rect_len hr hi, rect_len hr (show a < R.length by omega)])]
theorem posL_length (R : List (List Int)) (d c : Nat) : (posL R d c).length = R.length := by
  unfold posL
  split
  · exact negL_length _ _
  · rfl
theorem posL_ent (R : List (List Int)) (d c : Nat) {i : Nat} (hi : i < R.length) (j : Nat) : (ent (posL R d c) i j).natAbs = (ent R i j).natAbs ∧ (i ≠ d → ent (posL R d c) i j = ent R i j) ∧ (ent R d c ≠ 0 → i = d → 0 < ent (posL R d c) i c) := by
  unfold posL
  split
  · rename_i h
    rw [negL_ent R d hi]
    refine ⟨by split <;> omega, fun hne => by rw [if_neg hne], fun _ he => ?_⟩
    subst he
    rw [negL_ent R i hi, if_pos rfl]; omega
  · rename_i h
    exact ⟨rfl, fun _ => rfl, fun h0 he => by subst he; omega⟩
theorem posL_inv {R : List (List Int)} {d c : Nat} (h : FInv n m0 d c R) : FInv n m0 d c (posL R d c) := by
  unfold posL
  split
  · exact h.neg
  · exact h

/-- The general family: numbers below growing bounds. -/
theorem gEng (hm : mm = m0.length) (S : Seqs mm n Lim sM sD sK) : Eng n mm Lim (GI0 n mm m0 sM sD) (GI1 n mm m0 sM sD sK) := by
  -- what a found pivot leaves
  have done : ∀ {f d c a R R2 R3}, GI1 n mm m0 sM sD sK f d c R → LeastA R mm d c a → R2 = elimL (swapL R d a) d (rouQ (swapL R d a) d c) → (∀ i, d < i → i < mm → ent R2 i c = 0) → R3 = posL R2 d c →
      FInv n m0 d c R3 ∧ R3.length = mm ∧ 0 < ent R3 d c ∧ (∀ i, d < i → i < mm → ent R3 i c = 0) ∧ ActB R3 d (sM (d + 1)) ∧ DonB R3 d (sD d) := by
    intro f d c a R R2 R3 h hL e2 hz e3
    have hF := h.1
    have hl := h.2.1
    have hdm := h.2.2.2.2.1
    have hD := h.2.2.2.2.2.1
    have hFs := hF.swap hL.lo (by rw [hl]; exact hL.hi)
    have hl1 : (swapL R d a).length = mm := by rw [swapL_length]; exact hl
    have hF2 := hFs.elim (by omega) (q := rouQ (swapL R d a) d c) fun i hi => rouQ_zero _ _ _ _ hi
    rw [← e2] at hF2
    have hl2 : R2.length = mm := by rw [e2, elimL_length]; exact hl1
    have hF3 := posL_inv hF2
    rw [← e3] at hF3
    have hl3 : R3.length = mm := by rw [e3, posL_length]; exact hl2
    obtain ⟨-, hc2⟩ := col_after (c := c) hFs.rect hl1 hdm
    rw [← e2, (least_swap hl hL).1] at hc2
    have hA2 : ActB R2 d (sM (d + 1)) := by
      rcases Nat.lt_or_ge (d + 1) mm with h1 | h1
      · obtain ⟨_, h2, _⟩ := round_all S h hL h1
        rw [← e2] at h2
        exact fun i q1 q2 j => Nat.le_trans (h2 i q1 q2 j) (S.m d h1)
      · obtain ⟨-, e⟩ := round_none hF.rect hl (by omega) hL
        rw [e] at e2
        subst e2
        obtain ⟨_, _, _, _, _, _, M, A, Z, _, hA, _, _, hcase⟩ := h
        rcases hcase with ⟨_, _, _, rfl⟩ | ⟨_, hd1, _⟩
        · exact fun i q1 q2 j => Nat.le_trans (hA i q1 q2 j) (S.up d)
        · omega
    have hD2 : DonB R2 d (sD d) := by
      rw [e2]
      exact elim_don hFs.rect (by omega) (fun i hi => rouQ_zero _ _ _ _ hi) (swap_don hD hL.lo (by rw [hl]; exact hL.hi))
    refine ⟨hF3, hl3, ?_, fun i h1 h2 => ?_, fun i h1 h2 j => ?_, fun i hi j => ?_⟩
    · rw [e3]
      exact (posL_ent R2 d c (by omega) 0).2.2 (by rw [hc2]; exact hL.nz) rfl
    · rw [e3, (posL_ent R2 d c (by omega) c).2.1 (by omega)]
      exact hz i h1 h2
    · rw [e3, posL_length] at h2
      rw [e3, (posL_ent R2 d c h2 j).1]
      exact hA2 i h1 h2 j
    · rw [e3, (posL_ent R2 d c (by omega) j).1]
      exact hD2 i hi j
  -- the floors above a pivot
  have hred : ∀ {d c R3}, R3.length = mm → d < mm → 0 < ent R3 d c → DonB R3 d (sD d) → ∀ i, i < d → (redQ R3 d c i).natAbs ≤ sD d := by
    intro d c R3 hl hd hp hD i hi
    unfold redQ
    rw [if_pos hi]
    have h1 := Int.mul_fdiv_add_fmod (ent R3 i c) (ent R3 d c)
    have h2 := fmod_pos (a := ent R3 i c) hp
    have h3 := hD i hi c
    have h4 : (Int.fdiv (ent R3 i c) (ent R3 d c)).natAbs ≤ (ent R3 i c).natAbs := by
      rw [Int.mul_comm] at h1
      generalize Int.fdiv (ent R3 i c) (ent R3 d c) = q at *
      generalize Int.fmod (ent R3 i c) (ent R3 d c) = r at *
      generalize ent R3 i c = x at *
      generalize ent R3 d c = b at *
      rcases Int.lt_trichotomy q 0 with hq | hq | hq
      · have h5 : 1 * (b - 1) ≤ (-q) * (b - 1) := Int.mul_le_mul_of_nonneg_right (by omega) (by omega)
        have h6 : (-q) * (b - 1) = q - q * b := by grind
        omega
      · omega
      · have h5 : q * 1 ≤ q * b := Int.mul_le_mul_of_nonneg_left (by omega) (by omega)
        omega
    omega
  refine ⟨fun h => ⟨h.2.1, h.1.rect, by have := h.1.dl; have := h.2.1; omega, h.2.2.2.1⟩, fun h => ⟨h.2.1, h.1.rect, h.2.2.2.2.1, h.2.2.2.1, fun i hi j _ => GI1.bound S h i hi j⟩, ?_, ?_, ?_, ?_, ?_, ?_⟩
  · rintro d c R ⟨hF, hl, hdc, hcn, hA, hD⟩ hd hc
    exact ⟨sM d + 1, hF, hl, hdc, hc, hd, hD, sM d, sM d, sM d, S.one d, hA, fun i h1 h2 _ j => hA i h1 h2 j, fun i h1 h2 => hA i h1 h2 c, .inl ⟨rfl, rfl, rfl, rfl⟩⟩
  · rintro f d c R ⟨hF, hl, hdc, hcn, hdm, hD, M, A, Z, hM1, hA, hN, hC, hcase⟩ h0
    refine ⟨hF.none fun i h1 h2 => h0 i h1 (by omega), hl, by omega, hcn, ?_, hD⟩
    rcases hcase with ⟨_, _, _, rfl⟩ | ⟨_, _, _, ⟨i, h1, h2, h3⟩, _⟩
    · exact hA
    · exact absurd (h0 i h1 h2) h3
  · rintro f d c R a h hL
    have hF := h.1
    have hl := h.2.1
    have hdm := h.2.2.2.2.1
    have hbd := GI1.bound S h
    have hl1 : (swapL R d a).length = mm := by rw [swapL_length]; exact hl
    intro i hi hne
    have hent : ∀ i, i < mm → ∀ j, (ent (swapL R d a) i j).natAbs ≤ Lim := fun i hi j => by
      rw [swapL_ent R d a (by omega)]
      exact hbd _ (swap_lt hdm hL.hi hi) j
    rcases Nat.lt_or_ge i d with h1 | h1
    · rw [rouQ_zero _ _ _ _ (by omega)]
      refine ⟨Nat.zero_le _, fun j _ => ⟨by rw [Int.zero_mul]; exact Nat.zero_le _, ?_⟩⟩
      rw [Int.zero_mul, Int.sub_zero]
      exact hent i hi j
    · obtain ⟨hb, _, _⟩ := round_all S h hL (by omega)
      have hlim := Nat.le_trans (S.m d (by omega)) (S.lim (d + 1) (by omega) (by have := h.2.2.1; have := h.2.2.2.1; omega)).1
      exact ⟨Nat.le_trans (hb.q i (by omega) hi) hlim, fun j _ => ⟨Nat.le_trans (hb.p i (by omega) hi j) hlim, Nat.le_trans (hb.s i (by omega) hi j) hlim⟩⟩
  · rintro f d c R a h hL ⟨i, h1, h2, h3⟩
    have hF := h.1
    have hl := h.2.1
    have hdm := h.2.2.2.2.1
    have hd1 : d + 1 < mm := by omega
    obtain ⟨hb, hact, hrest⟩ := round_all S h hL hd1
    obtain ⟨hPf, M', hM1, hnz, hq⟩ := hrest ⟨i, h1, h2, h3⟩
    have hFs := hF.swap hL.lo (by rw [hl]; exact hL.hi)
    have hl1 : (swapL R d a).length = mm := by rw [swapL_length]; exact hl
    have hF2 := hFs.elim (by omega) (q := rouQ (swapL R d a) d c) fun i hi => rouQ_zero _ _ _ _ hi
    obtain ⟨hc1, hc2⟩ := col_after (c := c) hFs.rect hl1 hdm
    rw [(least_swap hl hL).1] at hc1 hc2
    have hsgn : ∀ k, d ≤ k → k < mm → 0 ≤ ent (elimL (swapL R d a) d (rouQ (swapL R d a) d c)) k c * ent R a c ∧ (ent (elimL (swapL R d a) d (rouQ (swapL R d a) d c)) k c).natAbs ≤ (ent R a c).natAbs := fun k h4 h5 => by
      rcases Nat.lt_or_ge d k with h6 | h6
      · rw [hc1 k h6 h5]
        exact ⟨fmod_sign _ _ hL.nz, Nat.le_of_lt (fmod_abs hL.nz)⟩
      · obtain rfl : k = d := by omega
        rw [hc2]
        exact ⟨same_tran hL.nz (by rcases Int.le_total 0 (ent R a c) with h7 | h7
                                   · exact Int.mul_nonneg h7 h7
                                   · have := Int.mul_nonneg (show 0 ≤ -(ent R a c) by omega) (show 0 ≤ -(ent R a c) by omega)
                                     rwa [Int.neg_mul_neg] at this) (by rcases Int.le_total 0 (ent R a c) with h7 | h7
                                                                        · exact Int.mul_nonneg h7 h7
                                                                        · have := Int.mul_nonneg (show 0 ≤ -(ent R a c) by omega) (show 0 ≤ -(ent R a c) by omega)
                                                                          rwa [Int.neg_mul_neg] at this), Nat.le_refl _⟩
    refine ⟨(ent R a c).natAbs, hPf, hF2, by rw [elimL_length]; exact hl1, h.2.2.1, h.2.2.2.1, hdm, elim_don hFs.rect (by omega) (fun i hi => rouQ_zero _ _ _ _ hi) (swap_don h.2.2.2.2.2.1 hL.lo (by rw [hl]; exact hL.hi)), M', (ent R a c).natAbs, 3 * sK d, hM1, hact, hnz, fun k h4 h5 => (hsgn k h4 (by rw [elimL_length, hl1] at h5; exact h5)).2, .inr ⟨rfl, hd1, rfl, ⟨i, by omega, h2, h3⟩, fun k l q1 q2 q3 q4 => same_tran hL.nz (hsgn k q1 q2).1 (hsgn l q3 q4).1, ⟨d, Nat.le_refl _, hdm, by rw [hc2], fun k q1 q2 q3 => by
      rw [hc1 k (by omega) q2]; exact fmod_abs hL.nz⟩, hq⟩⟩
  · rintro f d c R a R2 R3 h hL e2 hz e3
    obtain ⟨hF3, hl3, hp, hz3, hA3, hD3⟩ := done h hL e2 hz e3
    have hdm := h.2.2.2.2.1
    have hdn : d + 1 ≤ n := by have := h.2.2.1; have := h.2.2.2.1; omega
    have hlm := S.lim (d + 1) (by omega) hdn
    have hmo := S.mono d
    have hent : ∀ i, i < mm → ∀ j, (ent R3 i j).natAbs ≤ Lim := fun i hi j => by
      rcases Nat.lt_or_ge i d with h1 | h1
      · have := hD3 i h1 j; omega
      · have := hA3 i h1 (by omega) j; omega
    refine ⟨fun i hi j _ => hent i hi j, fun i hi hne => ?_⟩
    rcases Nat.lt_or_ge i d with h1 | h1
    · have h2 := hred hl3 hdm hp hD3 i h1
      have h4 : ∀ j, (redQ R3 d c i * ent R3 d j).natAbs ≤ sD d * sM (d + 1) := fun j => by
        rw [Int.natAbs_mul]
        exact Nat.mul_le_mul h2 (hA3 d (Nat.le_refl _) (by omega) j)
      refine ⟨by omega, fun j _ => ?_⟩
      have h5 := h4 j
      have h6 := hD3 i h1 j
      omega
    · rw [redQ_zero _ _ _ _ (by omega)]
      refine ⟨Nat.zero_le _, fun j _ => ⟨by rw [Int.zero_mul]; exact Nat.zero_le _, ?_⟩⟩
      rw [Int.zero_mul, Int.sub_zero]
      exact hent i hi j
  · rintro f d c R a R2 R3 h hL e2 hz e3
    obtain ⟨hF3, hl3, hp, hz3, hA3, hD3⟩ := done h hL e2 hz e3
    have hdm := h.2.2.2.2.1
    have hmo := S.mono d
    have hN := hF3.next (by omega) hp (fun i h1 h2 => hz3 i h1 (by omega)) (q := redQ R3 d c) (fun i hi => redQ_zero _ _ _ _ hi) fun i hi => by
      unfold redQ
      rw [if_pos hi, fdiv_rem]
      exact fmod_pos hp
    refine ⟨hN, by rw [elimL_length]; exact hl3, by have := h.2.2.1; omega, h.2.2.2.1, fun i h1 h2 j => ?_, fun i hi j => ?_⟩
    · rw [elimL_length] at h2
      rw [elimL_ent hF3.rect (by omega) _ h2, redQ_zero _ _ _ _ (by omega), Int.zero_mul, Int.sub_zero]
      exact hA3 i (by omega) h2 j
    · rw [elimL_ent hF3.rect (by omega) _ (by omega)]
      rcases Nat.lt_or_ge i d with h1 | h1
      · have h2 := hred hl3 hdm hp hD3 i h1
        have h4 : (redQ R3 d c i * ent R3 d j).natAbs ≤ sD d * sM (d + 1) := by
          rw [Int.natAbs_mul]
          exact Nat.mul_le_mul h2 (hA3 d (Nat.le_refl _) (by omega) j)
        have h6 := hD3 i h1 j
        omega
      · rw [redQ_zero _ _ _ _ h1, Int.zero_mul, Int.sub_zero]
        have := hA3 i h1 (by omega) j
        omega
end
/-! A matrix in normal form stays as it is. -/
theorem ech_get : ∀ {m : List Vc} {lo : Nat}, Ech lo m → ∀ i, i < m.length → ∃ p, lo ≤ p ∧ (∀ j, j < p → m.getD i vz j = 0) ∧ 0 < m.getD i vz p ∧ ∀ k, i < k → k < m.length → ∀ j, j ≤ p → m.getD k vz j = 0
  | r :: m, lo, ⟨p, hp, h0, h1, hm⟩, 0, _ => ⟨p, hp, h0, h1, fun k hk hk2 j hj => by
      match k, hk with
      | k + 1, _ =>
        have hk3 : k < m.length := by simpa using hk2
        show m.getD k vz j = 0
        refine ech_lo hm (sp_mem ?_) j (by omega)
        rw [List.getD_eq_getElem?_getD, List.getElem?_eq_getElem hk3]; exact List.getElem_mem hk3⟩
  | r :: m, lo, ⟨p, hp, h0, h1, hm⟩, i + 1, hi => by
    obtain ⟨q, h2, h3, h4, h5⟩ := ech_get hm i (by simpa using hi)
    refine ⟨q, by omega, h3, h4, fun k hk hk2 j hj => ?_⟩
    match k, hk with
    | k + 1, hk => exact h5 k (by omega) (by simpa using hk2) j hj
theorem redu_get : ∀ {m : List Vc}, Redu m → ∀ i k, i < k → k < m.length → ∀ q, Piv (m.getD k vz) q → 0 ≤ m.getD i vz q ∧ m.getD i vz q < m.getD k vz q
  | r :: m, ⟨h1, h2⟩, 0, k + 1, _, hk, q, hq => by
    have hk3 : k < m.length := by simpa using hk
    exact h1 _ (by rw [List.getD_cons_succ, List.getD_eq_getElem?_getD, List.getElem?_eq_getElem hk3]; exact List.getElem_mem hk3) q hq
  | r :: m, ⟨h1, h2⟩, i + 1, k + 1, hik, hk, q, hq => redu_get h2 i k (by omega) (by simpa using hk) q hq
theorem vfs_getD (B : List (List Int)) {i : Nat} (h : i < B.length) : (vfs B).getD i vz = vf (B.getD i []) := by
  unfold vfs
  rw [List.getD_eq_getElem?_getD, List.getElem?_map, List.getD_eq_getElem?_getD, List.getElem?_eq_getElem h]; rfl
theorem hnf_piv {B : List (List Int)} (h : IsHnf B) : ∃ p : Nat → Nat, (∀ i, i < B.length → (∀ j, j < p i → ent B i j = 0) ∧ 0 < ent B i (p i) ∧ ∀ k, i < k → k < B.length → ∀ j, j ≤ p i → ent B k j = 0) ∧ ∀ i k, i < k → k < B.length → p i < p k ∧ 0 ≤ ent B i (p k) ∧ ent B i (p k) < ent B k (p k) := by
  have hl : (vfs B).length = B.length := by simp [vfs]
  have key : ∀ i, ∃ p, i < B.length → (∀ j, j < p → ent B i j = 0) ∧ 0 < ent B i p ∧ ∀ k, i < k → k < B.length → ∀ j, j ≤ p → ent B k j = 0 := fun i => by
    by_cases hi : i < B.length
    · obtain ⟨p, -, h1, h2, h3⟩ := ech_get h.e i (by omega)
      rw [vfs_getD B hi] at h1 h2
      refine ⟨p, fun _ => ⟨h1, h2, fun k hk hk2 j hj => ?_⟩⟩
      have := h3 k hk (by omega) j hj
      rwa [vfs_getD B hk2] at this
    · exact ⟨0, fun h => absurd h hi⟩
  refine ⟨fun i => Classical.choose (key i), fun i hi => Classical.choose_spec (key i) hi, fun i k hik hk => ?_⟩
  obtain ⟨a1, a2, a3⟩ := Classical.choose_spec (key i) (by omega)
  obtain ⟨b1, b2, b3⟩ := Classical.choose_spec (key k) hk
  have hlt : Classical.choose (key i) < Classical.choose (key k) := Nat.lt_of_not_le fun hc => by
    have := a3 k hik hk _ hc
    omega
  have hr := redu_get h.r i k hik (by omega) (Classical.choose (key k)) (by
    rw [vfs_getD B hk]
    exact ⟨b1, by have : vf (B.getD k []) (Classical.choose (key k)) = ent B k (Classical.choose (key k)) := rfl
                  omega⟩)
  rw [vfs_getD B (show i < B.length by omega), vfs_getD B hk] at hr
  exact ⟨hlt, hr⟩
theorem elim_id {n : Nat} {R : List (List Int)} (hr : Rect n R) {d : Nat} (hd : d < R.length) {q : Nat → Int} (hq : ∀ i, i < R.length → q i = 0) : elimL R d q = R := list_ext (elimL_length _ _ _) fun i hi => by
  rw [elimL_length] at hi
  rw [elimL_row hr q hi, hq i hi, subR_zero _ _ (by rw [rect_len hr hi, rect_len hr hd])]
theorem swap_id (R : List (List Int)) (d : Nat) : swapL R d d = R := list_ext (swapL_length _ _ _) fun i hi => by
  rw [swapL_length] at hi
  rw [swapL_row R d d hi]
  congr 1
  split
  · rename_i h; exact h.symm
  · rfl
def HI0 (n : Nat) (B : List (List Int)) (d c : Nat) (R : List (List Int)) : Prop := R = B ∧ FInv n B d c B ∧ c ≤ n
def HI1 (n : Nat) (B : List (List Int)) (f d c : Nat) (R : List (List Int)) : Prop := R = B ∧ FInv n B d c B ∧ c < n ∧ d < B.length ∧ f = 0
/-- The family of one state: a matrix in normal form. -/
theorem hEng {n Lim : Nat} {B : List (List Int)} (h : IsHnf B) (hb : ∀ i, i < B.length → ∀ j, (ent B i j).natAbs ≤ Lim) : Eng n B.length Lim (HI0 n B) (HI1 n B) := by
  obtain ⟨p, hp1, hp2⟩ := hnf_piv h
  -- a state with a number in the column
  have key : ∀ {d c a}, FInv n B d c B → d < B.length → LeastA B B.length d c a → a = d ∧ p d = c := by
    intro d c a hF hd hL
    have h1 : c ≤ p d := Nat.le_of_not_lt fun hc => by
      have := hF.z d (Nat.le_refl _) hd (p d) hc
      have := (hp1 d hd).2.1
      omega
    have h2 : ¬ c < p d := fun hc => by
      rcases Nat.lt_or_ge d a with h3 | h3
      · have := (hp1 d hd).2.2 a h3 hL.hi c (by omega)
        exact hL.nz this
      · obtain rfl : a = d := by have := hL.lo; omega
        exact hL.nz ((hp1 a hd).1 c hc)
    have h3 : p d = c := by omega
    refine ⟨Decidable.byContradiction fun hne => ?_, h3⟩
    have := (hp1 d hd).2.2 a (by have := hL.lo; omega) hL.hi c (by omega)
    exact hL.nz this
  have rou : ∀ {d c}, d < B.length → p d = c → ∀ i, i < B.length → rouQ B d c i = 0 := by
    intro d c hd hc i hi
    unfold rouQ
    split
    · rename_i h1
      rw [(hp1 d hd).2.2 i h1 hi c (by omega)]
      exact Int.zero_fdiv _
    · rfl
  have red : ∀ {d c}, d < B.length → p d = c → ∀ i, i < B.length → redQ B d c i = 0 := by
    intro d c hd hc i hi
    unfold redQ
    split
    · rename_i h1
      obtain ⟨-, h2, h3⟩ := hp2 i d h1 hd
      rw [hc] at h2 h3
      rw [Int.fdiv_eq_ediv_of_nonneg _ (by omega)]
      exact Int.ediv_eq_zero_of_lt h2 h3
    · rfl
  have pos : ∀ {d c}, d < B.length → p d = c → posL B d c = B := by
    intro d c hd hc
    have := (hp1 d hd).2.1
    rw [hc] at this
    unfold posL
    rw [if_neg (by omega)]
  have fine : ∀ {d} (q : Nat → Int), (∀ i, i < B.length → q i = 0) → FineE Lim B.length n B d q := by
    intro d q hq i hi hne
    rw [hq i hi]
    refine ⟨Nat.zero_le _, fun j _ => ⟨by rw [Int.zero_mul]; exact Nat.zero_le _, ?_⟩⟩
    rw [Int.zero_mul, Int.sub_zero]
    exact hb i hi j
  refine ⟨?_, ?_, ?_, ?_, ?_, ?_, ?_, ?_⟩
  · rintro d c R ⟨rfl, hF, hc⟩; exact ⟨rfl, hF.rect, hF.dl, hc⟩
  · rintro f d c R ⟨rfl, hF, hc, hd, -⟩; exact ⟨rfl, hF.rect, hd, hc, fun i hi j _ => hb i hi j⟩
  · rintro d c R ⟨rfl, hF, _⟩ hd hc; exact ⟨0, rfl, hF, hc, hd, rfl⟩
  · rintro f d c R ⟨rfl, hF, hc, hd, -⟩ h0; exact ⟨rfl, hF.none h0, hc⟩
  · rintro f d c R a ⟨rfl, hF, hc, hd, -⟩ hL
    obtain ⟨rfl, hpc⟩ := key hF hd hL
    rw [swap_id]
    exact fine _ (rou hd hpc)
  · rintro f d c R a ⟨rfl, hF, hc, hd, -⟩ hL ⟨i, h1, h2, h3⟩
    obtain ⟨rfl, hpc⟩ := key hF hd hL
    rw [swap_id, elim_id hF.rect hd (rou hd hpc)] at h3
    exact absurd ((hp1 a hd).2.2 i h1 h2 c (by omega)) h3
  · rintro f d c R a R2 R3 ⟨rfl, hF, hc, hd, -⟩ hL e2 hz e3
    obtain ⟨rfl, hpc⟩ := key hF hd hL
    rw [swap_id, elim_id hF.rect hd (rou hd hpc)] at e2
    subst e2
    rw [pos hd hpc] at e3
    subst e3
    exact ⟨fun i hi j _ => hb i hi j, fine _ (red hd hpc)⟩
  · rintro f d c R a R2 R3 ⟨rfl, hF, hc, hd, -⟩ hL e2 hz e3
    obtain ⟨rfl, hpc⟩ := key hF hd hL
    rw [swap_id, elim_id hF.rect hd (rou hd hpc)] at e2
    subst e2
    rw [pos hd hpc] at e3
    subst e3
    have hpd : 0 < ent R3 a c := by have := (hp1 a hd).2.1; rwa [hpc] at this
    have e := elim_id hF.rect hd (red hd hpc)
    refine ⟨e, ?_, hc⟩
    have := hF.next hd hpd (fun i h1 h2 => (hp1 a hd).2.2 i h1 h2 c (by omega)) (q := redQ R3 a c) (fun i hi => redQ_zero _ _ _ _ hi) fun i hi => by
      rw [red hd hpc i (by omega)]
      obtain ⟨-, h2, h3⟩ := hp2 i a hi hd
      rw [hpc] at h2 h3
      omega
    rwa [e] at this

end Go.Proofs.YtepicfdhphiiaaaGreatDoor

namespace Go.Proofs.YtepicfdhphiiaaaGreatDoor
open Go.RowKit
theorem fdm_neg{a b q r:Int}(hb:b<0)(h:a=b*q+r)(h1:b<r)(h2:r≤0):Int.fdiv a b=q∧Int.fmod a b=r:=by
 have h3:=(Int.ediv_emod_unique (a := -a) (b := -b) (r := -r) (q:=q) (by omega)).2 ⟨by rw[Int.neg_mul];omega,by omega,by omega⟩;rw[← Int.neg_fdiv_neg a b,Int.fdiv_eq_ediv_of_nonneg _ (by omega),h3.1];have h4:=Int.neg_fmod_neg a b;rw[Int.fmod_eq_emod_of_nonneg _ (by omega),h3.2] at h4;exact⟨rfl,by omega⟩
theorem nat_dm(n m:Nat):((m:Int))*((n/m:Nat):Int)+((n%m:Nat):Int)=(n:Int):=by
 have h1:=Nat.div_add_mod n m;have h2:((m*(n/m)+n%m:Nat):Int)=(n:Int):=congrArg Nat.cast h1
 rwa [Int.natCast_add,Int.natCast_mul] at h2
theorem fdm_nn(n m:Nat)(hm:0<m):Int.fdiv (-(n:Int)) (-(m:Int))=((n/m:Nat):Int)∧Int.fmod (-(n:Int)) (-(m:Int)) = -((n%m:Nat):Int):=by
 have h3:=Nat.mod_lt n hm;refine fdm_neg (by omega) ?_ (by omega) (by omega);have:=nat_dm n m
 rw[Int.neg_mul];omega
theorem fdm_pn0(n m:Nat)(hm:0<m)(h:n%m=0):Int.fdiv (n:Int) (-(m:Int)) = -((n/m:Nat):Int)∧Int.fmod (n:Int) (-(m:Int))=0:=by
 refine fdm_neg (by omega) ?_ (by omega) (by omega);have:=nat_dm n m
 rw[Int.neg_mul_neg];omega
theorem fdm_pn1(n m:Nat)(hm:0<m)(h:n%m≠0):Int.fdiv (n:Int) (-(m:Int)) = -((n/m+1:Nat):Int)∧Int.fmod (n:Int) (-(m:Int)) = -((m-n%m:Nat):Int):=by
 have h3:=Nat.mod_lt n hm;refine fdm_neg (by omega) ?_ (by omega) (by omega);have:=nat_dm n m
 rw[Int.neg_mul_neg,Int.natCast_add,Int.mul_add];omega
theorem divneg_any(w:World)(a:Int)(m:Nat)(ha:ZNum a)(hm:Num m)(hm0:0<m)(hab:Num (a.natAbs+1))(L:Laid w):
  Gives Tryz.prog 103 #[.string (itx a),.string (itx (-(m:Int)))] w (.tuple #[.string (itx (Int.fdiv a (-(m:Int)))),.string (itx (Int.fmod a (-(m:Int)))),.int .i64 0]):=by
 unfold Gives;have hz:=itx_isz (-(m:Int));rw[decide_eq_false (show ¬ -(m:Int)=0 by omega)] at hz;have hmz:ZNum (-(m:Int)):=by
  show Num (-(m:Int)).natAbs
  rw[show (-(m:Int)).natAbs=m by omega];exact hm
 have Hl1:=hd_ (fun W=>littlez_any W a ha 18 (by decide));have Hl2:=hd_ (fun W=>littlez_any W (-(m:Int)) hmz 18 (by decide));have HL:=hd_ L;have Hsa:=hd_ (fun W=>split_any W a);have Hsb:Hid (∀ W,Gives Tryz.prog 118 #[.string (itx (-(m:Int)))] W (.tuple #[.bool true,.string (dec m)])):=fun W=>by
  have:=split_any W (-(m:Int))
  rw[decide_eq_true (show -(m:Int)<0 by omega),show (-(m:Int)).natAbs=m by omega] at this;exact this
 have Hdm:Hid (∀ W,Below w.heap.size w W→Gives Tryz.prog 136 #[.string (dec a.natAbs),.string (dec m)] W (.tuple #[.string (dec (a.natAbs/m)),.string (dec (a.natAbs%m)),.int .i64 0])):=fun W hW=>by
  have:=divmod_any W a.natAbs m ha hm (HL.out.below hW)
  rw[if_neg (show ¬ m=0 by omega)] at this;exact this
 have big:∀ (P:Prop),((∀ W,Gives Tryz.prog 117 #[.string (itx a),.int .i64 18] W (.tuple #[.int .i64 0,.bool false]))→P)→(((itx a).size≤18∧¬ (itx (-(m:Int))).size≤18)→P)→(((itx a).size≤18∧(itx (-(m:Int))).size≤18)→P)→P:=fun P h1 h2 h3=>by
  by_cases q1:(itx a).size≤18
  ·by_cases q2:(itx (-(m:Int))).size≤18
   ·exact h3 ⟨q1,q2⟩
   ·exact h2 ⟨q1,q2⟩
  ·rw[if_neg q1] at Hl1;exact h1 Hl1.out
 clear L;refine big _ (fun hl1=>?_) (fun hl=>?_) (fun hl=>?_)
 ·have Hl:=hd_ hl1;clear hl1 Hl1 Hl2 big
  by_cases hn:a<0
  ·rw[decide_eq_true hn] at Hsa;obtain⟨n,rfl⟩:∃ n:Nat,a = -(n:Int):=⟨a.natAbs,by omega⟩;have hN:Num n:=by
    have h:Num (-(n:Int)).natAbs:=ha;rw[show (-(n:Int)).natAbs=n by omega] at h;exact h
   rw[show (-(n:Int)).natAbs=n by omega] at *
   obtain⟨e1,e2⟩:=fdm_nn n m hm0;rw[e1,e2];have Hj1:=hd_ (fun W=>join_any W false (n/m) (Num.le hN (Nat.div_le_self _ _)));have Hj2:=hd_ (fun W=>join_any W true (n%m) (Num.le hN (Nat.mod_le _ _)));rw[show jz false (n/m)=((n/m:Nat):Int) from rfl] at Hj1;rw[show jz true (n%m) = -((n%m:Nat):Int) from rfl] at Hj2;clear e1 e2 hn;generalize itx ((n/m:Nat):Int)=r1 at *;generalize itx (-((n%m:Nat):Int))=r2 at *;generalize itx (-(n:Int))=s at *;generalize itx (-(m:Int))=tz at *;generalize dec (n/m)=qd at *;generalize dec (n%m)=rd at *;generalize dec n=sm at *;generalize dec m=tm at *;go_enter Tryz.func103,Tryz.ntmps103;go_wp2_with fail;refine cm_ (Hl.out w) ?_;rintro e w1 ⟨rfl,hb⟩;have Hb1:=hd_ hb;clear hb Hl;go_wp2_with fail;refine cm_ (Hsa.out w1) ?_;rintro e w2 ⟨rfl,hb⟩;have Hb2:=bt_ Hb1 hb;clear hb Hb1 Hsa;go_wp2_with fail;refine cm_ (Hsb.out w2) ?_;rintro e w3 ⟨rfl,hb⟩;have Hb3:=bt_ Hb2 hb;clear hb Hb2 Hsb;go_wp2_with fail;refine cm_ (Hdm.out w3 Hb3.out) ?_;rintro e w4 ⟨rfl,hb⟩;have Hb4:=bt_ Hb3 hb;clear hb Hb3 Hdm;go_wp2_with fail;refine cm_ (Hj1.out w4) ?_;rintro e w5 ⟨rfl,hb⟩;have Hb5:=bt_ Hb4 hb;clear hb Hb4 Hj1;go_wp2_with fail;refine cm_ (Hj2.out w5) ?_;rintro e w6 ⟨rfl,hb⟩;have Hb6:=bt_ Hb5 hb;clear hb Hb5 Hj2;go_wp2
   go_ret3
   exact⟨rfl,Hb6.out⟩
  ·rw[decide_eq_false hn] at Hsa;obtain⟨n,rfl⟩:∃ n:Nat,a=(n:Int):=⟨a.natAbs,by omega⟩;have hN:Num n:=ha;rw[show ((n:Int)).natAbs=n by omega] at *
   by_cases hr:n%m=0
   ·obtain⟨e1,e2⟩:=fdm_pn0 n m hm0 hr;rw[e1,e2];have hzr:=is_zero (n%m);rw[decide_eq_true hr] at hzr;have Hj1:=hd_ (fun W=>join_any W true (n/m) (Num.le hN (Nat.div_le_self _ _)));have Hj2:=hd_ (fun W=>join_any W true (n%m) (Num.le hN (Nat.mod_le _ _)));rw[show jz true (n/m) = -((n/m:Nat):Int) from rfl] at Hj1;rw[hr,show jz true 0=0 from rfl] at Hj2;rw[hr] at hzr Hdm;clear e1 e2 hr hn;generalize itx (-((n/m:Nat):Int))=r1 at *;generalize itx 0=r2 at *;generalize itx (n:Int)=s at *;generalize itx (-(m:Int))=tz at *;generalize dec (n/m)=qd at *;generalize dec 0=rd at *;generalize dec n=sm at *;generalize dec m=tm at *;go_enter Tryz.func103,Tryz.ntmps103;go_wp2_with fail;refine cm_ (Hl.out w) ?_;rintro e w1 ⟨rfl,hb⟩;have Hb1:=hd_ hb;clear hb Hl;go_wp2_with fail;refine cm_ (Hsa.out w1) ?_;rintro e w2 ⟨rfl,hb⟩;have Hb2:=bt_ Hb1 hb;clear hb Hb1 Hsa;go_wp2_with fail;refine cm_ (Hsb.out w2) ?_;rintro e w3 ⟨rfl,hb⟩;have Hb3:=bt_ Hb2 hb;clear hb Hb2 Hsb;go_wp2_with fail;refine cm_ (Hdm.out w3 Hb3.out) ?_;rintro e w4 ⟨rfl,hb⟩;have Hb4:=bt_ Hb3 hb;clear hb Hb3 Hdm;go_wp2_with fail;refine cm_ (Hj1.out w4) ?_;rintro e w5 ⟨rfl,hb⟩;have Hb5:=bt_ Hb4 hb;clear hb Hb4 Hj1;go_wp2_with fail;refine cm_ (Hj2.out w5) ?_;rintro e w6 ⟨rfl,hb⟩;have Hb6:=bt_ Hb5 hb;clear hb Hb5 Hj2;go_wp2
    go_ret3
    exact⟨rfl,Hb6.out⟩
   ·obtain⟨e1,e2⟩:=fdm_pn1 n m hm0 hr;rw[e1,e2];have hml:=Nat.mod_lt n hm0;have hzr:=is_zero (n%m);rw[decide_eq_false hr] at hzr;have hn1:Num (n/m+1):=Num.le hab (Nat.succ_le_succ (Nat.div_le_self _ _));have Had:Hid (∀ W,Below w.heap.size w W→Gives Tryz.prog 120 #[.string (dec (n/m)),.string ⟨#[49]⟩] W (.string (dec (n/m+1)))):=fun W hW=>by
     have:=add_any W (n/m) 1 (Num.le hN (Nat.div_le_self _ _)) (Num.le hab (by omega)) (HL.out.below hW)
     rw[dec_one] at this;exact this
    have Hsu:Hid (∀ W,Below w.heap.size w W→Gives Tryz.prog 121 #[.string (dec m),.string (dec (n%m))] W (.tuple #[.string (dec (m-n%m)),.int .i64 0])):=fun W hW=>by
     have:=sub_any W m (n%m) hm (Num.le hN (Nat.mod_le _ _)) (HL.out.below hW)
     rw[if_neg (by omega)] at this;exact this
    have Hj1:=hd_ (fun W=>join_any W true (n/m+1) hn1);have Hj2:=hd_ (fun W=>join_any W true (m-n%m) (Num.le hm (Nat.sub_le _ _)));rw[show jz true (n/m+1) = -((n/m+1:Nat):Int) from rfl] at Hj1;rw[show jz true (m-n%m) = -((m-n%m:Nat):Int) from rfl] at Hj2;clear e1 e2 hr hn hml;generalize itx (-((n/m+1:Nat):Int))=r1 at *;generalize itx (-((m-n%m:Nat):Int))=r2 at *;generalize itx (n:Int)=s at *;generalize itx (-(m:Int))=tz at *;generalize dec (n/m+1)=qe at *;generalize dec (m-n%m)=re at *;generalize dec (n/m)=qd at *;generalize dec (n%m)=rd at *;generalize dec n=sm at *;generalize dec m=tm at *;go_enter Tryz.func103,Tryz.ntmps103;go_wp2_with fail;refine cm_ (Hl.out w) ?_;rintro e w1 ⟨rfl,hb⟩;have Hb1:=hd_ hb;clear hb Hl;go_wp2_with fail;refine cm_ (Hsa.out w1) ?_;rintro e w2 ⟨rfl,hb⟩;have Hb2:=bt_ Hb1 hb;clear hb Hb1 Hsa;go_wp2_with fail;refine cm_ (Hsb.out w2) ?_;rintro e w3 ⟨rfl,hb⟩;have Hb3:=bt_ Hb2 hb;clear hb Hb2 Hsb;go_wp2_with fail;refine cm_ (Hdm.out w3 Hb3.out) ?_;rintro e w4 ⟨rfl,hb⟩;have Hb4:=bt_ Hb3 hb;clear hb Hb3 Hdm;go_wp2_with fail;refine cm_ (Had.out w4 Hb4.out) ?_;rintro e w5 ⟨rfl,hb⟩;have Hb5:=bt_ Hb4 hb;clear hb Hb4 Had;go_wp2_with fail;refine cm_ (Hsu.out w5 Hb5.out) ?_;rintro e w6 ⟨rfl,hb⟩;have Hb6:=bt_ Hb5 hb;clear hb Hb5 Hsu;go_wp2_with fail;refine cm_ (Hj1.out w6) ?_;rintro e w7 ⟨rfl,hb⟩;have Hb7:=bt_ Hb6 hb;clear hb Hb6 Hj1;go_wp2_with fail;refine cm_ (Hj2.out w7) ?_;rintro e w8 ⟨rfl,hb⟩;have Hb8:=bt_ Hb7 hb;clear hb Hb7 Hj2;go_wp2
    go_ret3
    exact⟨rfl,Hb8.out⟩
 ·rw[if_pos hl.1] at Hl1;rw[if_neg hl.2] at Hl2;clear hl big
  by_cases hn:a<0
  ·rw[decide_eq_true hn] at Hsa;obtain⟨n,rfl⟩:∃ n:Nat,a = -(n:Int):=⟨a.natAbs,by omega⟩;have hN:Num n:=by
    have h:Num (-(n:Int)).natAbs:=ha;rw[show (-(n:Int)).natAbs=n by omega] at h;exact h
   rw[show (-(n:Int)).natAbs=n by omega] at *
   obtain⟨e1,e2⟩:=fdm_nn n m hm0;rw[e1,e2];have Hj1:=hd_ (fun W=>join_any W false (n/m) (Num.le hN (Nat.div_le_self _ _)));have Hj2:=hd_ (fun W=>join_any W true (n%m) (Num.le hN (Nat.mod_le _ _)));rw[show jz false (n/m)=((n/m:Nat):Int) from rfl] at Hj1;rw[show jz true (n%m) = -((n%m:Nat):Int) from rfl] at Hj2;clear e1 e2 hn;generalize itx ((n/m:Nat):Int)=r1 at *;generalize itx (-((n%m:Nat):Int))=r2 at *;generalize itx (-(n:Int))=s at *;generalize itx (-(m:Int))=tz at *;generalize dec (n/m)=qd at *;generalize dec (n%m)=rd at *;generalize dec n=sm at *;generalize dec m=tm at *;go_enter Tryz.func103,Tryz.ntmps103;go_wp2_with fail;refine cm_ (Hl1.out w) ?_;rintro e w1 ⟨rfl,hb⟩;have Hb1:=hd_ hb;clear hb Hl1;go_wp2_with fail;refine cm_ (Hl2.out w1) ?_;rintro e w2 ⟨rfl,hb⟩;have Hb2:=bt_ Hb1 hb;clear hb Hb1 Hl2;go_wp2_with fail;refine cm_ (Hsa.out w2) ?_;rintro e w3 ⟨rfl,hb⟩;have Hb3:=bt_ Hb2 hb;clear hb Hb2 Hsa;go_wp2_with fail;refine cm_ (Hsb.out w3) ?_;rintro e w4 ⟨rfl,hb⟩;have Hb4:=bt_ Hb3 hb;clear hb Hb3 Hsb;go_wp2_with fail;refine cm_ (Hdm.out w4 Hb4.out) ?_;rintro e w5 ⟨rfl,hb⟩;have Hb5:=bt_ Hb4 hb;clear hb Hb4 Hdm;go_wp2_with fail;refine cm_ (Hj1.out w5) ?_;rintro e w6 ⟨rfl,hb⟩;have Hb6:=bt_ Hb5 hb;clear hb Hb5 Hj1;go_wp2_with fail;refine cm_ (Hj2.out w6) ?_;rintro e w7 ⟨rfl,hb⟩;have Hb7:=bt_ Hb6 hb;clear hb Hb6 Hj2;go_wp2
   go_ret3
   exact⟨rfl,Hb7.out⟩
  ·rw[decide_eq_false hn] at Hsa;obtain⟨n,rfl⟩:∃ n:Nat,a=(n:Int):=⟨a.natAbs,by omega⟩;have hN:Num n:=ha;rw[show ((n:Int)).natAbs=n by omega] at *
   by_cases hr:n%m=0
   ·obtain⟨e1,e2⟩:=fdm_pn0 n m hm0 hr;rw[e1,e2];have hzr:=is_zero (n%m);rw[decide_eq_true hr] at hzr;have Hj1:=hd_ (fun W=>join_any W true (n/m) (Num.le hN (Nat.div_le_self _ _)));have Hj2:=hd_ (fun W=>join_any W true (n%m) (Num.le hN (Nat.mod_le _ _)));rw[show jz true (n/m) = -((n/m:Nat):Int) from rfl] at Hj1;rw[hr,show jz true 0=0 from rfl] at Hj2;rw[hr] at hzr Hdm;clear e1 e2 hr hn;generalize itx (-((n/m:Nat):Int))=r1 at *;generalize itx 0=r2 at *;generalize itx (n:Int)=s at *;generalize itx (-(m:Int))=tz at *;generalize dec (n/m)=qd at *;generalize dec 0=rd at *;generalize dec n=sm at *;generalize dec m=tm at *;go_enter Tryz.func103,Tryz.ntmps103;go_wp2_with fail;refine cm_ (Hl1.out w) ?_;rintro e w1 ⟨rfl,hb⟩;have Hb1:=hd_ hb;clear hb Hl1;go_wp2_with fail;refine cm_ (Hl2.out w1) ?_;rintro e w2 ⟨rfl,hb⟩;have Hb2:=bt_ Hb1 hb;clear hb Hb1 Hl2;go_wp2_with fail;refine cm_ (Hsa.out w2) ?_;rintro e w3 ⟨rfl,hb⟩;have Hb3:=bt_ Hb2 hb;clear hb Hb2 Hsa;go_wp2_with fail;refine cm_ (Hsb.out w3) ?_;rintro e w4 ⟨rfl,hb⟩;have Hb4:=bt_ Hb3 hb;clear hb Hb3 Hsb;go_wp2_with fail;refine cm_ (Hdm.out w4 Hb4.out) ?_;rintro e w5 ⟨rfl,hb⟩;have Hb5:=bt_ Hb4 hb;clear hb Hb4 Hdm;go_wp2_with fail;refine cm_ (Hj1.out w5) ?_;rintro e w6 ⟨rfl,hb⟩;have Hb6:=bt_ Hb5 hb;clear hb Hb5 Hj1;go_wp2_with fail;refine cm_ (Hj2.out w6) ?_;rintro e w7 ⟨rfl,hb⟩;have Hb7:=bt_ Hb6 hb;clear hb Hb6 Hj2;go_wp2
    go_ret3
    exact⟨rfl,Hb7.out⟩
   ·obtain⟨e1,e2⟩:=fdm_pn1 n m hm0 hr;rw[e1,e2];have hml:=Nat.mod_lt n hm0;have hzr:=is_zero (n%m);rw[decide_eq_false hr] at hzr;have hn1:Num (n/m+1):=Num.le hab (Nat.succ_le_succ (Nat.div_le_self _ _));have Had:Hid (∀ W,Below w.heap.size w W→Gives Tryz.prog 120 #[.string (dec (n/m)),.string ⟨#[49]⟩] W (.string (dec (n/m+1)))):=fun W hW=>by
     have:=add_any W (n/m) 1 (Num.le hN (Nat.div_le_self _ _)) (Num.le hab (by omega)) (HL.out.below hW)
     rw[dec_one] at this;exact this
    have Hsu:Hid (∀ W,Below w.heap.size w W→Gives Tryz.prog 121 #[.string (dec m),.string (dec (n%m))] W (.tuple #[.string (dec (m-n%m)),.int .i64 0])):=fun W hW=>by
     have:=sub_any W m (n%m) hm (Num.le hN (Nat.mod_le _ _)) (HL.out.below hW)
     rw[if_neg (by omega)] at this;exact this
    have Hj1:=hd_ (fun W=>join_any W true (n/m+1) hn1);have Hj2:=hd_ (fun W=>join_any W true (m-n%m) (Num.le hm (Nat.sub_le _ _)));rw[show jz true (n/m+1) = -((n/m+1:Nat):Int) from rfl] at Hj1;rw[show jz true (m-n%m) = -((m-n%m:Nat):Int) from rfl] at Hj2;clear e1 e2 hr hn hml;generalize itx (-((n/m+1:Nat):Int))=r1 at *;generalize itx (-((m-n%m:Nat):Int))=r2 at *;generalize itx (n:Int)=s at *;generalize itx (-(m:Int))=tz at *;generalize dec (n/m+1)=qe at *;generalize dec (m-n%m)=re at *;generalize dec (n/m)=qd at *;generalize dec (n%m)=rd at *;generalize dec n=sm at *;generalize dec m=tm at *;go_enter Tryz.func103,Tryz.ntmps103;go_wp2_with fail;refine cm_ (Hl1.out w) ?_;rintro e w1 ⟨rfl,hb⟩;have Hb1:=hd_ hb;clear hb Hl1;go_wp2_with fail;refine cm_ (Hl2.out w1) ?_;rintro e w2 ⟨rfl,hb⟩;have Hb2:=bt_ Hb1 hb;clear hb Hb1 Hl2;go_wp2_with fail;refine cm_ (Hsa.out w2) ?_;rintro e w3 ⟨rfl,hb⟩;have Hb3:=bt_ Hb2 hb;clear hb Hb2 Hsa;go_wp2_with fail;refine cm_ (Hsb.out w3) ?_;rintro e w4 ⟨rfl,hb⟩;have Hb4:=bt_ Hb3 hb;clear hb Hb3 Hsb;go_wp2_with fail;refine cm_ (Hdm.out w4 Hb4.out) ?_;rintro e w5 ⟨rfl,hb⟩;have Hb5:=bt_ Hb4 hb;clear hb Hb4 Hdm;go_wp2_with fail;refine cm_ (Had.out w5 Hb5.out) ?_;rintro e w6 ⟨rfl,hb⟩;have Hb6:=bt_ Hb5 hb;clear hb Hb5 Had;go_wp2_with fail;refine cm_ (Hsu.out w6 Hb6.out) ?_;rintro e w7 ⟨rfl,hb⟩;have Hb7:=bt_ Hb6 hb;clear hb Hb6 Hsu;go_wp2_with fail;refine cm_ (Hj1.out w7) ?_;rintro e w8 ⟨rfl,hb⟩;have Hb8:=bt_ Hb7 hb;clear hb Hb7 Hj1;go_wp2_with fail;refine cm_ (Hj2.out w8) ?_;rintro e w9 ⟨rfl,hb⟩;have Hb9:=bt_ Hb8 hb;clear hb Hb8 Hj2;go_wp2
    go_ret3
    exact⟨rfl,Hb9.out⟩
 ·rw[if_pos hl.1] at Hl1;rw[if_pos hl.2] at Hl2;have q1:=itx_lim a 18 (by decide) hl.1;have q2:=itx_lim (-(m:Int)) 18 (by decide) hl.2;clear hl big Hsa Hsb Hdm;have Hof:Hid (∀ W,Below w.heap.size w W→∀ z:Int,-9223372036854775808≤z→z≤9223372036854775807→Gives Tryz.prog 83 #[.int .i64 z] W (.string (itx z))):=fun W hW z h0 h1=>ofz_any W z h0 h1 (HL.out.below hW)
  have hm1:m<1000000000000000000:=by omega
  by_cases hn:a<0
  ·obtain⟨n,rfl⟩:∃ n:Nat,a = -(n:Int):=⟨a.natAbs,by omega⟩;have hn1:n<1000000000000000000:=by omega
   have hdl:n/m≤n:=Nat.div_le_self _ _;have hml:n%m≤n:=Nat.mod_le _ _;have htd:Int.tdiv (-(n:Int)) (-(m:Int))=((n/m:Nat):Int):=by rw[Int.neg_tdiv_neg,← Int.ofNat_tdiv]
   have htm:Int.tmod (-(n:Int)) (-(m:Int)) = -((n%m:Nat):Int):=by rw[Int.neg_tmod,Int.tmod_neg,← Int.ofNat_tmod]
   by_cases hr:n%m=0
   ·obtain⟨e1,e2⟩:=fdm_nn n m hm0;rw[e1,e2];rw[hr,show -((0:Nat):Int)=0 from rfl] at htm;rw[hr,show -((0:Nat):Int)=0 from rfl];clear e1 e2 hr hml;generalize n/m=q at *;have hw1:IntKind.i64.wrap (q:Int)=(q:Int):=iw_ _ (by omega);have hw2:IntKind.i64.wrap 0=0:=iw_ _ (by omega);generalize itx (-(n:Int))=s at *;have hyz:(-(m:Int)==0)=false:=by rw[beq_eq_false_iff_ne];omega
    have hyn : -(m:Int)<0:=by omega
    have hyi:¬ -(m:Int)=0:=by omega
    generalize -(m:Int)=y at *;generalize itx y=tz at *;go_enter Tryz.func103,Tryz.ntmps103;go_wp2_with fail;refine cm_ (Hl1.out w) ?_;rintro e w1 ⟨rfl,hb⟩;have Hb1:=hd_ hb;clear hb Hl1;go_wp2_with fail;refine cm_ (Hl2.out w1) ?_;rintro e w2 ⟨rfl,hb⟩;have Hb2:=bt_ Hb1 hb;clear hb Hb1 Hl2;go_wp2_with fail
    go_quiet (fail)
    have Hb3:Hid (Below w.heap.size w (w2.drewN nq)):=below_dn Hb2.out _;clear Hb2;generalize w2.drewN nq=w3 at *;go_wp2_with fail;refine cm_ (Hof.out w3 Hb3.out _ (by omega) (by omega)) ?_;rintro e w4 ⟨rfl,hb⟩;have Hb4:=bt_ Hb3 hb;clear hb Hb3 ;go_wp2_with fail;refine cm_ (Hof.out w4 Hb4.out _ (by omega) (by omega)) ?_;rintro e w5 ⟨rfl,hb⟩;have Hb5:=bt_ Hb4 hb;clear hb Hb4 ;go_wp2
    go_ret3
    exact⟨rfl,Hb5.out⟩
   ·obtain⟨e1,e2⟩:=fdm_nn n m hm0;rw[e1,e2];have hr0:0<n%m:=by omega
    clear e1 e2 hr;generalize n/m=q at *;generalize n%m=r at *;have hw1:IntKind.i64.wrap (q:Int)=(q:Int):=iw_ _ (by omega);have hw2:IntKind.i64.wrap (-(r:Int)) = -(r:Int):=iw_ _ (by omega);have hrz:(-(r:Int) != 0)=true:=by rw[bne_iff_ne];omega
    have hrn : -(r:Int)<0:=by omega
    generalize itx (-(n:Int))=s at *;have hyz:(-(m:Int)==0)=false:=by rw[beq_eq_false_iff_ne];omega
    have hyn : -(m:Int)<0:=by omega
    have hyi:¬ -(m:Int)=0:=by omega
    generalize -(m:Int)=y at *;generalize itx y=tz at *;go_enter Tryz.func103,Tryz.ntmps103;go_wp2_with fail;refine cm_ (Hl1.out w) ?_;rintro e w1 ⟨rfl,hb⟩;have Hb1:=hd_ hb;clear hb Hl1;go_wp2_with fail;refine cm_ (Hl2.out w1) ?_;rintro e w2 ⟨rfl,hb⟩;have Hb2:=bt_ Hb1 hb;clear hb Hb1 Hl2;go_wp2_with fail
    go_quiet (fail)
    have Hb3:Hid (Below w.heap.size w (w2.drewN nq)):=below_dn Hb2.out _;clear Hb2;generalize w2.drewN nq=w3 at *;go_wp2_with fail;refine cm_ (Hof.out w3 Hb3.out _ (by omega) (by omega)) ?_;rintro e w4 ⟨rfl,hb⟩;have Hb4:=bt_ Hb3 hb;clear hb Hb3 ;go_wp2_with fail;refine cm_ (Hof.out w4 Hb4.out _ (by omega) (by omega)) ?_;rintro e w5 ⟨rfl,hb⟩;have Hb5:=bt_ Hb4 hb;clear hb Hb4 ;go_wp2
    go_ret3
    exact⟨rfl,Hb5.out⟩
  ·obtain⟨n,rfl⟩:∃ n:Nat,a=(n:Int):=⟨a.natAbs,by omega⟩;have hn1:n<1000000000000000000:=by omega
   have hdl:n/m≤n:=Nat.div_le_self _ _;have hml:n%m≤n:=Nat.mod_le _ _;have htd:Int.tdiv (n:Int) (-(m:Int)) = -((n/m:Nat):Int):=by rw[Int.tdiv_neg,← Int.ofNat_tdiv]
   have htm:Int.tmod (n:Int) (-(m:Int))=((n%m:Nat):Int):=by rw[Int.tmod_neg,← Int.ofNat_tmod]
   by_cases hr:n%m=0
   ·obtain⟨e1,e2⟩:=fdm_pn0 n m hm0 hr;rw[e1,e2];rw[hr,show ((0:Nat):Int)=0 from rfl] at htm;clear e1 e2 hr hml;generalize n/m=q at *;have hw1:IntKind.i64.wrap (-(q:Int)) = -(q:Int):=iw_ _ (by omega);have hw2:IntKind.i64.wrap 0=0:=iw_ _ (by omega);generalize itx ((n:Int))=s at *;have hyz:(-(m:Int)==0)=false:=by rw[beq_eq_false_iff_ne];omega
    have hyn : -(m:Int)<0:=by omega
    have hyi:¬ -(m:Int)=0:=by omega
    generalize -(m:Int)=y at *;generalize itx y=tz at *;go_enter Tryz.func103,Tryz.ntmps103;go_wp2_with fail;refine cm_ (Hl1.out w) ?_;rintro e w1 ⟨rfl,hb⟩;have Hb1:=hd_ hb;clear hb Hl1;go_wp2_with fail;refine cm_ (Hl2.out w1) ?_;rintro e w2 ⟨rfl,hb⟩;have Hb2:=bt_ Hb1 hb;clear hb Hb1 Hl2;go_wp2_with fail
    go_quiet (fail)
    have Hb3:Hid (Below w.heap.size w (w2.drewN nq)):=below_dn Hb2.out _;clear Hb2;generalize w2.drewN nq=w3 at *;go_wp2_with fail;refine cm_ (Hof.out w3 Hb3.out _ (by omega) (by omega)) ?_;rintro e w4 ⟨rfl,hb⟩;have Hb4:=bt_ Hb3 hb;clear hb Hb3 ;go_wp2_with fail;refine cm_ (Hof.out w4 Hb4.out _ (by omega) (by omega)) ?_;rintro e w5 ⟨rfl,hb⟩;have Hb5:=bt_ Hb4 hb;clear hb Hb4 ;go_wp2
    go_ret3
    exact⟨rfl,Hb5.out⟩
   ·obtain⟨e1,e2⟩:=fdm_pn1 n m hm0 hr;have hmb:=Nat.mod_lt n hm0;have hr0:0<n%m:=by omega
    rw[e1,e2,show -((n/m+1:Nat):Int) = -((n/m:Nat):Int)-1 by omega,show -((m-n%m:Nat):Int)=((n%m:Nat):Int) + -(m:Int) by omega];clear e1 e2 hr;generalize n/m=q at *;generalize n%m=r at *;have hw1:IntKind.i64.wrap (-(q:Int)) = -(q:Int):=iw_ _ (by omega);have hw2:IntKind.i64.wrap (r:Int)=(r:Int):=iw_ _ (by omega);have hw3:IntKind.i64.wrap (-(q:Int)-1) = -(q:Int)-1:=iw_ _ (by omega);have hw4:IntKind.i64.wrap ((r:Int) + -(m:Int))=(r:Int) + -(m:Int):=iw_ _ (by omega);have hrz:((r:Int) != 0)=true:=by rw[bne_iff_ne];omega
    have hrn:¬ (r:Int)<0:=by omega
    generalize itx ((n:Int))=s at *;have hyz:(-(m:Int)==0)=false:=by rw[beq_eq_false_iff_ne];omega
    have hyn : -(m:Int)<0:=by omega
    have hyi:¬ -(m:Int)=0:=by omega
    generalize -(m:Int)=y at *;generalize itx y=tz at *;go_enter Tryz.func103,Tryz.ntmps103;go_wp2_with fail;refine cm_ (Hl1.out w) ?_;rintro e w1 ⟨rfl,hb⟩;have Hb1:=hd_ hb;clear hb Hl1;go_wp2_with fail;refine cm_ (Hl2.out w1) ?_;rintro e w2 ⟨rfl,hb⟩;have Hb2:=bt_ Hb1 hb;clear hb Hb1 Hl2;go_wp2_with fail
    go_quiet (fail)
    have Hb3:Hid (Below w.heap.size w (w2.drewN nq)):=below_dn Hb2.out _;clear Hb2;generalize w2.drewN nq=w3 at *;go_wp2_with fail;refine cm_ (Hof.out w3 Hb3.out _ (by omega) (by omega)) ?_;rintro e w4 ⟨rfl,hb⟩;have Hb4:=bt_ Hb3 hb;clear hb Hb3 ;go_wp2_with fail;refine cm_ (Hof.out w4 Hb4.out _ (by omega) (by omega)) ?_;rintro e w5 ⟨rfl,hb⟩;have Hb5:=bt_ Hb4 hb;clear hb Hb4 ;go_wp2
    go_ret3
    exact⟨rfl,Hb5.out⟩
theorem divf_any(w:World)(a b:Int)(ha:ZNum a)(hb:ZNum b)(hb0:b≠0)(hab:Num (a.natAbs+1))(L:Laid w):
  Gives Tryz.prog 103 #[.string (itx a),.string (itx b)] w (.tuple #[.string (itx (Int.fdiv a b)),.string (itx (Int.fmod a b)),.int .i64 0]):=by
 rcases Int.lt_or_gt_of_ne hb0 with h|h
 ·obtain⟨m,rfl⟩:∃ m:Nat,b = -(m:Int):=⟨b.natAbs,by omega⟩;exact divneg_any w a m ha (by have h2:Num (-(m:Int)).natAbs:=hb;rwa [show (-(m:Int)).natAbs=m by omega] at h2) (by omega) hab L
 ·obtain⟨m,rfl⟩:∃ m:Nat,b=(m:Int):=⟨b.natAbs,by omega⟩;have:=divmodz_any w a m ha hb (by omega) hab L
  rw[itx_nat,Int.fdiv_eq_ediv_of_nonneg _ (by omega),Int.fmod_eq_emod_of_nonneg _ (by omega)];exact this
theorem subz_any(w:World)(a b:Int)(ha:ZNum a)(hb:ZNum b)(hab:Num (a.natAbs+b.natAbs))(L:Laid w):
  Gives Tryz.prog 137 #[.string (itx a),.string (itx b)] w (.string (itx (a-b))):=by
 unfold Gives;have hbn:ZNum (-b):=by show Num (-b).natAbs;rw[Int.natAbs_neg];exact hb
 have e:a + -b=a-b:=by omega
 have H1:=hd_ (fun W=>neg_any W b hb);have H2:=hd_ (fun W (hW:Below w.heap.size w W)=>addz_any W a (-b) ha hbn (by rw[Int.natAbs_neg];exact hab) (L.below hW));rw[e] at H2;clear L ha hb hab hbn e;generalize itx (a-b)=s3 at *;generalize itx (-b)=s2 at *;generalize itx a=s0 at *;generalize itx b=s1 at *;go_enter Tryz.func137,Tryz.ntmps137;go_wp2_with fail;refine cm_ (H1.out _) ?_;rintro e w1 ⟨rfl,hb⟩;have B1:=hd_ hb;clear hb H1;go_wp2_with fail;refine cm_ (H2.out _ B1.out) ?_;rintro e w2 ⟨rfl,hb⟩;have B2:=bt_ B1 hb;clear hb H2 B1;go_wp2_with fail;go_ret;exact⟨rfl,B2.out⟩
def fv (n:Int) (d:Nat):Value := .agg #[.string (itx n),.string (dec d)]
end Go.Proofs.YtepicfdhphiiaaaGreatDoor

namespace Go.Proofs.YtepicfdhphiiaaaGreatDoor
open Go Go.Sort
section
variable {P:Program} {ops:Array Oper} {md:Region.Mode} {C:World→Prop}
end
end Go.Proofs.YtepicfdhphiiaaaGreatDoor

namespace Go.Proofs.YtepicfdhphiiaaaGreatDoor
open Go.RowKit
theorem two_cells{w:World}{g:Nat}{a b:Value}{t:TypeId}(h:w.heap[g]?=some (.cells #[a,b] t (0,0))):
  w.cell? ⟨g,0,none⟩=some a∧w.cell? ⟨g,1,none⟩=some b∧w.frozen? ⟨g,0,none⟩=false∧w.frozen? ⟨g,1,none⟩=false:=by
 refine⟨by rw[cell_of_row w g 0 _ t (0,0) h];rfl,by rw[cell_of_row w g 1 _ t (0,0) h];rfl,?_,?_⟩
 ·simp[World.frozen?,h]
 ·simp[World.frozen?,h]
theorem stored_cell{W0 wk:World}{g:Nat}{a b:Value}{t:TypeId}(h:W0.heap[g]?=some (.cells #[a,b] t (0,0)))(hb:Below W0.heap.size W0 wk):
  wk.heap[g]?=some (.cells #[a,b] t (0,0)):=by
 rw[hb.block g (Array.getElem?_eq_some_iff.1 h).1];exact h
theorem sign_nat{d:Nat}(h:0<d):((d:Nat):Int).sign=1:=Int.sign_eq_one_of_pos (by omega)
structure Three (w:World) (s t s' t':ByteArray) (W0:World):Prop where
 fa:W0.heap[w.heap.size]?=some (.cells #[.string s,.string t] 103 (0,0))
 fb:W0.heap[w.heap.size+1]?=some (.cells #[.string s',.string t'] 103 (0,0))
 fr:W0.heap[w.heap.size+1+1]?=some (.cells #[.string ⟨#[]⟩,.string ⟨#[]⟩] 103 (0,0))
 bel:Below w.heap.size w W0
theorem Three.mk'(w:World)(s t s' t':ByteArray):Three w s t s' t' (((w.alloc (.cells #[.string s,.string t] 103)).alloc (.cells #[.string s',.string t'] 103)).alloc (.cells #[.string ⟨#[]⟩,.string ⟨#[]⟩] 103)):=by
 have hA:=heap_alloc_new w (.cells #[.string s,.string t] 103);have hB:=heap_alloc_new (w.alloc (.cells #[.string s,.string t] 103)) (.cells #[.string s',.string t'] 103);have hR:=heap_alloc_new ((w.alloc (.cells #[.string s,.string t] 103)).alloc (.cells #[.string s',.string t'] 103)) (.cells #[.string ⟨#[]⟩,.string ⟨#[]⟩] 103);have e1:(w.alloc (.cells #[.string s,.string t] 103)).heap.size=w.heap.size+1:=by simp
 have e2:((w.alloc (.cells #[.string s,.string t] 103)).alloc (.cells #[.string s',.string t'] 103)).heap.size=w.heap.size+1+1:=by simp
 refine⟨?_,?_,?_,?_⟩
 ·exact stored_cell hA (((Below.refl _ _).alloc nr_ _).alloc (by simp) _)
 ·rw[e1] at hB;exact stored_cell hB ((Below.refl _ _).alloc nr_ _)
 ·rw[e2] at hR;exact hR
 ·exact(((Below.refl _ _).alloc nr_ _).alloc (by simp) _).alloc (by simp;omega) _
theorem Three.next{w W0 W:World}{s t s' t':ByteArray}(h:Three w s t s' t' W0)(hb:Below W0.heap.size W0 W):Three w s t s' t' W :=
 ⟨stored_cell h.fa hb,stored_cell h.fb hb,stored_cell h.fr hb,h.bel.trans (hb.mono h.bel.size)⟩
theorem check_frac(w:World)(n:Int)(d:Nat)(hn:ZNum n)(hd:Num d)(hd0:0<d)(L:Laid w):
  Gives Tryz.prog 88 #[fv n d] w (.int .i64 (if ((dec n.natAbs).size≤400∧(dec d).size≤400)∧Nat.gcd n.natAbs d=1 then 0 else 2)):=by
 unfold Gives fv;have Hb0:=hd_ ((Below.refl w.heap.size w).alloc nr_ (.cells #[.string (itx n),.string (dec d)] 103));have Hnew:Hid ((w.alloc (.cells #[.string (itx n),.string (dec d)] 103)).heap[w.heap.size]?=some (.cells #[.string (itx n),.string (dec d)] 103 (0,0))):=heap_alloc_new w _;have HL:=hd_ (L.below Hb0.out);have Hc1:=hd_ (fun W=>checkz_any W n hn);have Hc2:Hid (∀ W,Gives Tryz.prog 127 #[.string (dec d)] W (.int .i64 (if (dec d).size≤400 then 0 else 2))):=fun W=>by
  have:=checkz_any W (d:Int) (show Num _ from hd)
  rw[itx_nat] at this;exact this
 have Hsg:Hid (∀ W,Gives Tryz.prog 105 #[.string (dec d)] W (.int .i64 1)):=fun W=>by
  have:=sign_any W (d:Int)
  rw[itx_nat,sign_nat hd0] at this;exact this
 have Hgc:Hid (∀ W,Below (w.alloc (.cells #[.string (itx n),.string (dec d)] 103)).heap.size (w.alloc (.cells #[.string (itx n),.string (dec d)] 103)) W→Gives Tryz.prog 128 #[.string (itx n),.string (dec d)] W (.string (dec (Nat.gcd n.natAbs d)))):=fun W hW=>by
  have:=gcdz_any W n (d:Int) hn (show Num _ from hd) (HL.out.below hW)
  rw[itx_nat] at this;exact this
 have ho:=is_one (Nat.gcd n.natAbs d);clear L HL hn hd hd0
 by_cases h1:(dec n.natAbs).size≤400
 ·rw[if_pos h1] at Hc1
  by_cases h2:(dec d).size≤400
  ·rw[if_pos h2] at Hc2
   by_cases h3:Nat.gcd n.natAbs d=1
   ·rw[if_pos ⟨⟨h1,h2⟩,h3⟩];rw[decide_eq_true h3] at ho;clear h1 h2 h3;generalize dec (Nat.gcd n.natAbs d)=u at *;go_enter Tryz.func88,Tryz.ntmps88;obtain⟨k0,k1,-,-⟩:=two_cells Hnew.out;go_wp2_with fail;generalize w.alloc (.cells #[.string (itx n),.string (dec d)] 103)=W0 at *;clear k0 k1;refine cm_ (Hc1.out _) ?_;rintro e w1 ⟨rfl,hb1⟩;have Hb1:=hd_ hb1;clear hb1 Hc1;obtain⟨k0,k1,-,-⟩:=two_cells (stored_cell Hnew.out Hb1.out);go_wp2_with fail;clear k0 k1;refine cm_ (Hc2.out _) ?_;rintro e w2 ⟨rfl,hb2⟩;have Hb2:=bt_ Hb1 hb2;clear hb2 Hb1 Hc2;obtain⟨k0,k1,-,-⟩:=two_cells (stored_cell Hnew.out Hb2.out);go_wp2_with fail;clear k0 k1;refine cm_ (Hsg.out _) ?_;rintro e w3 ⟨rfl,hb3⟩;have Hb3:=bt_ Hb2 hb3;clear hb3 Hb2 Hsg;obtain⟨k0,k1,-,-⟩:=two_cells (stored_cell Hnew.out Hb3.out);go_wp2_with fail;clear k0 k1;refine cm_ (Hgc.out _ Hb3.out) ?_;rintro e w4 ⟨rfl,hb4⟩;have Hb4:=bt_ Hb3 hb4;clear hb4 Hb3 Hgc;have Hbw:=bt_ Hb0 Hb4.out;obtain⟨k0,k1,-,-⟩:=two_cells (stored_cell Hnew.out Hb4.out);go_wp2;go_ret;exact⟨rfl,Hbw.out⟩
   ·rw[if_neg (fun h=>h3 h.2)];rw[decide_eq_false h3] at ho;clear h1 h2 h3;generalize dec (Nat.gcd n.natAbs d)=u at *;go_enter Tryz.func88,Tryz.ntmps88;obtain⟨k0,k1,-,-⟩:=two_cells Hnew.out;go_wp2_with fail;generalize w.alloc (.cells #[.string (itx n),.string (dec d)] 103)=W0 at *;clear k0 k1;refine cm_ (Hc1.out _) ?_;rintro e w1 ⟨rfl,hb1⟩;have Hb1:=hd_ hb1;clear hb1 Hc1;obtain⟨k0,k1,-,-⟩:=two_cells (stored_cell Hnew.out Hb1.out);go_wp2_with fail;clear k0 k1;refine cm_ (Hc2.out _) ?_;rintro e w2 ⟨rfl,hb2⟩;have Hb2:=bt_ Hb1 hb2;clear hb2 Hb1 Hc2;obtain⟨k0,k1,-,-⟩:=two_cells (stored_cell Hnew.out Hb2.out);go_wp2_with fail;clear k0 k1;refine cm_ (Hsg.out _) ?_;rintro e w3 ⟨rfl,hb3⟩;have Hb3:=bt_ Hb2 hb3;clear hb3 Hb2 Hsg;obtain⟨k0,k1,-,-⟩:=two_cells (stored_cell Hnew.out Hb3.out);go_wp2_with fail;clear k0 k1;refine cm_ (Hgc.out _ Hb3.out) ?_;rintro e w4 ⟨rfl,hb4⟩;have Hb4:=bt_ Hb3 hb4;clear hb4 Hb3 Hgc;have Hbw:=bt_ Hb0 Hb4.out;obtain⟨k0,k1,-,-⟩:=two_cells (stored_cell Hnew.out Hb4.out);go_wp2;go_ret;exact⟨rfl,Hbw.out⟩
  ·rw[if_neg h2] at Hc2;rw[if_neg (fun h=>h2 h.1.2)];clear h1 h2 Hgc ho;go_enter Tryz.func88,Tryz.ntmps88;obtain⟨k0,k1,-,-⟩:=two_cells Hnew.out;go_wp2_with fail;generalize w.alloc (.cells #[.string (itx n),.string (dec d)] 103)=W0 at *;clear k0 k1;refine cm_ (Hc1.out _) ?_;rintro e w1 ⟨rfl,hb1⟩;have Hb1:=hd_ hb1;clear hb1 Hc1;obtain⟨k0,k1,-,-⟩:=two_cells (stored_cell Hnew.out Hb1.out);go_wp2_with fail;clear k0 k1;refine cm_ (Hc2.out _) ?_;rintro e w2 ⟨rfl,hb2⟩;have Hb2:=bt_ Hb1 hb2;clear hb2 Hb1 Hc2;have Hbw:=bt_ Hb0 Hb2.out;obtain⟨k0,k1,-,-⟩:=two_cells (stored_cell Hnew.out Hb2.out);go_wp2;go_ret;exact⟨rfl,Hbw.out⟩
 ·rw[if_neg h1] at Hc1;rw[if_neg (fun h=>h1 h.1.1)];clear h1 Hgc ho Hc2;go_enter Tryz.func88,Tryz.ntmps88;obtain⟨k0,k1,-,-⟩:=two_cells Hnew.out;go_wp2_with fail;generalize w.alloc (.cells #[.string (itx n),.string (dec d)] 103)=W0 at *;clear k0 k1;refine cm_ (Hc1.out _) ?_;rintro e w1 ⟨rfl,hb1⟩;have Hb1:=hd_ hb1;clear hb1 Hc1;have Hbw:=bt_ Hb0 Hb1.out;obtain⟨k0,k1,-,-⟩:=two_cells (stored_cell Hnew.out Hb1.out);go_wp2;go_ret;exact⟨rfl,Hbw.out⟩
theorem sign_frac(w:World)(n:Int)(d:Nat):
  Gives Tryz.prog 89 #[fv n d] w (.int .i64 n.sign):=by
 unfold Gives fv;have Hb0:=hd_ ((Below.refl w.heap.size w).alloc nr_ (.cells #[.string (itx n),.string (dec d)] 103));have Hnew:Hid ((w.alloc (.cells #[.string (itx n),.string (dec d)] 103)).heap[w.heap.size]?=some (.cells #[.string (itx n),.string (dec d)] 103 (0,0))):=heap_alloc_new w _;have Hsg:=hd_ (fun W=>sign_any W n);go_enter Tryz.func89,Tryz.ntmps89;obtain⟨k0,k1,-,-⟩:=two_cells Hnew.out;go_wp2_with fail;generalize w.alloc (.cells #[.string (itx n),.string (dec d)] 103)=W0 at *;clear k0 k1;refine cm_ (Hsg.out _) ?_;rintro e w1 ⟨rfl,hb1⟩;have Hb1:=hd_ hb1;clear hb1 Hsg;have Hbw:=bt_ Hb0 Hb1.out;obtain⟨k0,k1,-,-⟩:=two_cells (stored_cell Hnew.out Hb1.out);go_wp2;go_ret;exact⟨rfl,Hbw.out⟩
def IsP (n:Nat):Prop:=2≤n∧n≤97∧∀ j,j<10→2≤j→j*j≤n→n%j≠0
instance (n:Nat):Decidable (IsP n):=by unfold IsP;infer_instance
theorem isPrime_any(w:World)(n:Nat)(hn:n≤9223372036854775807):
  Gives Tryz.prog 71 #[.int .i64 n] w (.bool (decide (IsP n))):=by
 unfold Gives
 by_cases h2:2≤n
 ·by_cases h97:n≤97
  ·have h2':¬ (n:Int)<2:=by omega
   have h97':¬ (97:Int)<n:=by omega
   have H2:=hd_ h2;go_enter Tryz.func71,Tryz.ntmps71;go_wp2_with fail
   go_loopw [3] (fun i wr=>∃ k:Nat,2≤k∧k≤10∧i = .int .i64 k∧Hid (∀ j,2≤j→j<k→j*j≤n→n%j≠0)∧Hid (Below w.heap.size w wr)) (fun i _=>10-(intOf i).toNat)
   case atStart=>exact⟨2,by omega,by omega,rfl,fun j h1 h2=>by omega,Below.refl _ _⟩
   case round =>
    obtain⟨k,hk,hk10,rfl,Hj,Hb⟩:=hrel;have hkk:k*k≤100:=Nat.mul_le_mul hk10 hk10;have hwr:IntKind.i64.wrap ((k:Int)*(k:Int))=((k*k:Nat):Int):=by rw[← Int.natCast_mul];exact iw_ _ (by omega)
    by_cases hle:k*k≤n
    ·have hle':((k*k:Nat):Int)≤n:=by omega
     have hlt10:k<10:=by
      rcases Nat.lt_or_ge k 10 with h|h
      ·exact h
      ·have:k=10:=by omega
       subst this;omega
     have hkz:((k:Int)==0)=false:=by rw[beq_eq_false_iff_ne];omega
     have htm:Int.tmod (n:Int) (k:Int)=((n%k:Nat):Int):=by rw[← Int.ofNat_tmod]
     have hml:=Nat.mod_lt n (show 0<k by omega);have Hle:=hd_ hle
     by_cases hz:n%k=0
     ·have Hv:Hid (decide (IsP n)=false):=by
       show _=_
       rw[decide_eq_false_iff_not];exact fun h=>h.2.2 k hlt10 hk hle hz
      rw[hz] at htm;rw[show ((0:Nat):Int)=0 from rfl] at htm;have hw0:IntKind.i64.wrap 0=0:=iw_ _ (by omega);clear hz hle hml hkk;generalize k*k=q at *;go_wp2;go_ret;exact⟨by rw[Hv.out];rfl,Hb.out⟩
     ·have Hj2:Hid (∀ j,2≤j→j<k+1→j*j≤n→n%j≠0):=fun j h1 h2 h3=>by
       rcases Nat.lt_or_ge j k with h|h
       ·exact Hj.out j h1 h h3
       ·have:j=k:=by omega
        subst this;exact hz
      have hw1:IntKind.i64.wrap ((n%k:Nat):Int)=((n%k:Nat):Int):=iw_ _ (by omega);have hne:(((n%k:Nat):Int)==0)=false:=by rw[beq_eq_false_iff_ne];omega
      clear hz hle hkk;generalize n%k=r at *;generalize k*k=q at *;go_wp2
      go_roundw
      case rel=>exact⟨k+1,by omega,by omega,by go_num,Hj2,Hb⟩
      case measure=>simp[intOf];omega
    ·have hle':¬ ((k*k:Nat):Int)≤n:=by omega
     have Hv:Hid (decide (IsP n)=true):=by
      show _=_
      rw[decide_eq_true_eq];refine⟨H2.out,h97,fun j h2 h1 h3=>?_⟩;rcases Nat.lt_or_ge j k with h|h
      ·exact Hj.out j h1 h h3
      ·have:=Nat.mul_le_mul h h;omega
     clear hle hkk;generalize k*k=q at *;go_wp2;go_ret;exact⟨by rw[Hv.out];rfl,Hb.out⟩
  ·have Hv:Hid (decide (IsP n)=false):=by
    show _=_
    rw[decide_eq_false_iff_not];exact fun h=>h97 h.2.1
   have h97':(97:Int)<n:=by omega
   have h2':¬ (n:Int)<2:=by omega
   go_enter Tryz.func71,Tryz.ntmps71;go_wp2;go_ret;exact⟨by rw[Hv.out];rfl,Below.refl _ _⟩
 ·have Hv:Hid (decide (IsP n)=false):=by
   show _=_
   rw[decide_eq_false_iff_not];exact fun h=>h2 h.1
  have h2':(n:Int)<2:=by omega
  go_enter Tryz.func71,Tryz.ntmps71;go_wp2;go_ret;exact⟨by rw[Hv.out];rfl,Below.refl _ _⟩
def Rd (w:World) (a:Option Addr) (vs:List Value):Prop :=
 vs=[]∨∃ b off,a=some ⟨b,off,none⟩∧b<w.heap.size∧∀ i v,vs[i]?=some v→w.cell? ⟨b,off+i,none⟩=some v
theorem Rd.below{w w':World}{a:Option Addr}{vs:List Value}{B:Nat}(h:Rd w a vs)(hb:Below B w w')(hB:w.heap.size≤B):Rd w' a vs:=by
 rcases h with h|⟨b,off,h1,h2,h3⟩
 ·exact .inl h
 ·exact .inr ⟨b,off,h1,Nat.lt_of_lt_of_le h2 hb.size,fun i v hi=>by rw[hb.cell (p:=⟨b,off+i,none⟩) (by show b<B;omega)];exact h3 i v hi⟩
theorem Rd.kept{w w':World}{a:Option Addr}{vs:List Value}(h:Rd w a vs)(hb:Below w.heap.size w w'):Rd w' a vs:=h.below hb nr_
theorem Rd.open{w:World}{a:Option Addr}{vs:List Value}(h:Rd w a vs)(h0:0<vs.length):
  ∃ b off,a=some ⟨b,off,none⟩∧b<w.heap.size∧∀ i v,vs[i]?=some v→w.cell? ⟨b,off+i,none⟩=some v:=by
 rcases h with h|h
 ·subst h;simp at h0
 ·exact h
theorem Rd.nil(w:World)(a:Option Addr):Rd w a [] := .inl rfl
def IsPz (n:Int):Prop:=0≤n∧IsP n.toNat
instance (n:Int):Decidable (IsPz n):=by unfold IsPz;infer_instance
theorem isPrimez_any(w:World)(n:Int)(h0 : -9223372036854775808≤n)(h1:n≤9223372036854775807):
  Gives Tryz.prog 71 #[.int .i64 n] w (.bool (decide (IsPz n))):=by
 by_cases hn:0≤n
 ·obtain⟨m,rfl⟩:=Int.eq_ofNat_of_zero_le hn;have:=isPrime_any w m (by omega)
  have e:decide (IsPz (m:Int))=decide (IsP m):=by
   rw[decide_eq_decide];unfold IsPz;simp
  rw[e];exact this
 ·have e:decide (IsPz n)=false:=decide_eq_false (fun h=>hn h.1);rw[e];have h2':n<2:=by omega
  unfold Gives;go_enter Tryz.func71,Tryz.ntmps71;go_wp2;go_ret;exact⟨rfl,Below.refl _ _⟩
def pgo:Option Int→List Int→Int
 | _,[]=>0
 | prev,n::l=>if ¬ IsPz n then 25 else if prev.any (fun m=>decide (n≤m))=true then 6 else pgo (some n) l
def prevOf (ps:List Int):Nat→Option Int
 | 0=>none
 | m+1=>ps[m]?
def pcode (ps:List Int):Int:=if ps.length=0 then 13 else if 6<ps.length then 4 else pgo none ps
def I64s (l:List Int):Prop:=∀ x∈l,-9223372036854775808≤x∧x≤9223372036854775807
theorem I64s.get{l:List Int}(h:I64s l)(k:Nat)(hk:k<l.length): -9223372036854775808≤l[k]∧l[k]≤9223372036854775807:=h _ (List.getElem_mem hk)
theorem primeCheck_any(w:World)(a:Option Addr)(c:Nat)(ps:List Int)(hr:Rd w a (ints ps))(hi:I64s ps)(hl:ps.length≤1000000):
  Gives Tryz.prog 37 #[.slice a ps.length c] w (.int .i64 (pcode ps)):=by
 unfold Gives;have Hr:=hd_ hr;have Hi:=hd_ hi;have Hp:=hd_ (fun W (z:Int) q1 q2=>isPrimez_any W z q1 q2);clear hr hi
 by_cases h0:ps.length=0
 ·have hv:pcode ps=13:=by unfold pcode;rw[if_pos h0]
  rw[hv,h0];go_enter Tryz.func37,Tryz.ntmps37;go_wp2;go_ret;exact⟨rfl,Below.refl _ _⟩
 by_cases h6:6<ps.length
 ·have hv:pcode ps=4:=by unfold pcode;rw[if_neg h0,if_pos h6]
  rw[hv];have h0':((ps.length:Int)==0)=false:=by rw[beq_eq_false_iff_ne];omega
  have h6':(6:Int)<ps.length:=by omega
  clear hv;generalize ps.length=n at *;go_enter Tryz.func37,Tryz.ntmps37;go_wp2;go_ret;exact⟨rfl,Below.refl _ _⟩
 have Hv:Hid (pcode ps=pgo none ps):=by
  show _=_
  unfold pcode;rw[if_neg h0,if_neg h6]
 have h0':((ps.length:Int)==0)=false:=by rw[beq_eq_false_iff_ne];omega
 have h6':¬ (6:Int)<ps.length:=by omega
 obtain⟨b,off,rfl,hb,hcells⟩:=Hr.out.open (by rw[ints_length];omega);have Hcells:Hid (∀ k,k<ps.length→w.cell? ⟨b,off+k,none⟩=some (.int .i64 (ps.getD k 0))):=fun k hk=>by
  rw[List.getD_eq_getElem?_getD,List.getElem?_eq_getElem hk];exact hcells k _ (ints_get ps k hk)
 clear hcells Hr;generalize hn:ps.length=n at *;have Hn:=hd_ hn;clear hn;go_enter Tryz.func37,Tryz.ntmps37;go_wp2_with fail
 go_loopw [15] (fun i wr=>∃ k:Nat,k≤n∧i = .int .i64 k∧Hid (pgo none ps=pgo (prevOf ps k) (ps.drop k))∧Hid (Below w.heap.size w wr)) (fun i _=>n-(intOf i).toNat)
 case atStart=>exact⟨0,Nat.zero_le _,rfl,rfl,Below.refl _ _⟩
 case round =>
  obtain⟨k,hk,rfl,Hg,Hb⟩:=hrel
  by_cases hlt:k<n
  ·have hlt':(k:Int)<n:=by omega
   have hkl:k<ps.length:=by rw[Hn.out];exact hlt
   have cx:wr.cell? ⟨b,off+k,none⟩=some (.int .i64 (ps.getD k 0)):=by
    rw[Hb.out.cell (p:=⟨b,off+k,none⟩) hb];exact Hcells.out k hlt
   have hd:ps.drop k=ps[k]::ps.drop (k+1):=List.drop_eq_getElem_cons hkl;have Hd:=hd_ hd;have hgk:ps.getD k 0=ps[k]:=by rw[List.getD_eq_getElem?_getD,List.getElem?_eq_getElem hkl];rfl
   rw[hgk] at cx;clear hgk;have hz:=Hi.out.get k hkl;obtain⟨z,hzz⟩:∃ z,ps[k]=z:=⟨_,rfl⟩;have Hzz:=hd_ hzz;rw[hzz] at cx hz;have hpz:=Hp.out wr z hz.1 hz.2;clear hd hzz
   by_cases hp:IsPz z
   ·rw[decide_eq_true hp] at hpz
    by_cases hk0:k=0
    ·subst hk0;rw[Nat.add_zero] at cx;have hk1:¬ (0:Int)<0:=by omega
     go_wp2_with fail;refine cm_ hpz ?_;rintro e w1 ⟨rfl,hb1⟩;have Hb1:=bt_ Hb hb1;clear hb1 hpz Hb;go_wp2
     go_roundw
     case rel =>
      refine⟨1,by omega,by go_num,?_,Hb1⟩
      show _=_
      rw[Hg.out,Hd.out];simp only[pgo,prevOf,Hzz.out];rw[if_neg (fun h=>h hp),if_neg (by simp)];have:ps[0]?=some z:=by rw[List.getElem?_eq_getElem hkl,Hzz.out]
      rw[this]
     case measure=>simp[intOf];omega
    ·obtain⟨m,rfl⟩:∃ m,k=m+1:=⟨k-1,by omega⟩;have hk1:(0:Int)<((m+1:Nat):Int):=by omega
     have hml:m<ps.length:=by omega
     have hw1:IntKind.i64.wrap (((m+1:Nat):Int)-1)=(m:Int):=by
      rw[show ((m+1:Nat):Int)-1=(m:Int) by omega];exact iw_ _ (by omega)
     obtain⟨y,hyy⟩:∃ y,ps[m]=y:=⟨_,rfl⟩;have Hyy:=hd_ hyy;have Hcy:Hid (w.cell? ⟨b,off+m,none⟩=some (.int .i64 y)):=by
      show _=_
      rw[Hcells.out m (by omega),← hyy,List.getD_eq_getElem?_getD,List.getElem?_eq_getElem hml];rfl
     have Hgo:Hid (pgo none ps=if z≤y then 6 else pgo (some z) (ps.drop (m+1+1))):=by
      show _=_
      rw[Hg.out,Hd.out];have:ps[m]?=some y:=by rw[List.getElem?_eq_getElem hml,hyy]
      simp only[pgo,prevOf,Hzz.out,this,Option.any_some,decide_eq_true_eq];rw[if_neg (fun h=>h hp)]
     have hm0:0≤(m:Int):=by omega
     have hmn:(m:Int)<n:=by omega
     clear hyy Hg;go_wp2_with fail;refine cm_ hpz ?_;rintro e w1 ⟨rfl,hb1⟩;have Hb1:=bt_ Hb hb1;clear hb1 hpz Hb cx;have cy:w1.cell? ⟨b,off+m,none⟩=some (.int .i64 y):=by
      rw[Hb1.out.cell (p:=⟨b,off+m,none⟩) hb];exact Hcy.out
     by_cases hzy:z≤y
     ·have Hvv:Hid (pcode ps=6):=by
       show _=_
       rw[Hv.out,Hgo.out,if_pos hzy]
      go_wp2;go_ret;exact⟨by rw[Hvv.out];rfl,Hb1.out⟩
     ·have Hgg:Hid (pgo none ps=pgo (some z) (ps.drop (m+1+1))):=by
       show _=_
       rw[Hgo.out,if_neg hzy]
      clear Hgo;go_wp2
      go_roundw
      case rel =>
       refine⟨m+1+1,by omega,by go_num,?_,Hb1⟩
       show _=_
       rw[Hgg.out];have:ps[m+1]?=some z:=by rw[List.getElem?_eq_getElem hkl,Hzz.out]
       simp only[prevOf,this]
      case measure=>simp[intOf];omega
   ·rw[decide_eq_false hp] at hpz;have Hvv:Hid (pcode ps=25):=by
     show _=_
     rw[Hv.out,Hg.out,Hd.out];simp only[pgo,Hzz.out];rw[if_pos hp]
    go_wp2_with fail;refine cm_ hpz ?_;rintro e w1 ⟨rfl,hb1⟩;have Hb1:=bt_ Hb hb1;clear hb1 hpz Hb;go_wp2;go_ret;exact⟨by rw[Hvv.out];rfl,Hb1.out⟩
  ·have hlt':¬ (k:Int)<n:=by omega
   have Hvv:Hid (pcode ps=0):=by
    show _=_
    rw[Hv.out,Hg.out,List.drop_of_length_le (by rw[Hn.out];omega)];rfl
   go_wp2;go_ret;exact⟨by rw[Hvv.out];rfl,Hb.out⟩
theorem mkRat_num(n:Int)(d:Nat)(h:d≠0):(mkRat n d).num=n/((Nat.gcd n.natAbs d:Nat):Int):=by
 rw[← Rat.normalize_eq_mkRat h,Rat.num_normalize]
theorem mkRat_den(n:Int)(d:Nat)(h:d≠0):(mkRat n d).den=d/Nat.gcd n.natAbs d:=by
 rw[← Rat.normalize_eq_mkRat h,Rat.den_normalize]
def Sm (D:Nat) (q:Rat):Prop:=q.num.natAbs<10^D∧q.den<10^D
theorem Sm.mk'{D:Nat}{n:Int}{d:Nat}(h:d≠0)(h1:n.natAbs<10^D)(h2:d<10^D):Sm D (mkRat n d):=by
 refine⟨?_,?_⟩
 ·rw[mkRat_num n d h];have:(n/((Nat.gcd n.natAbs d:Nat):Int)).natAbs≤n.natAbs:=by
   have h3:((Nat.gcd n.natAbs d:Nat):Int) ∣ n:=Int.gcd_dvd_left n (d:Int);rw[Int.natAbs_ediv_of_dvd h3];exact Nat.div_le_self _ _
  omega
 ·rw[mkRat_den n d h];exact Nat.lt_of_le_of_lt (Nat.div_le_self _ _) h2
theorem Sm.le{D E:Nat}{q:Rat}(h:Sm D q)(hE:D≤E):Sm E q :=
 ⟨Nat.lt_of_lt_of_le h.1 (Nat.pow_le_pow_right (by decide) hE),Nat.lt_of_lt_of_le h.2 (Nat.pow_le_pow_right (by decide) hE)⟩
theorem pow_ten_mul{a b D E:Nat}(h1:a<10^D)(h2:b<10^E):a*b<10^(D+E):=by
 rw[Nat.pow_add];exact Nat.mul_lt_mul'' h1 h2
theorem Sm.mul{D E:Nat}{a b:Rat}(ha:Sm D a)(hb:Sm E b):Sm (D+E) (a*b):=by
 rw[Rat.mul_def'];refine Sm.mk' (Nat.mul_ne_zero a.den_nz b.den_nz) ?_ (pow_ten_mul ha.2 hb.2);rw[Int.natAbs_mul];exact pow_ten_mul ha.1 hb.1
theorem sum_lt{n m:Int}{d e D E:Nat}(h1:n.natAbs<10^D)(h2:m.natAbs<10^E)(h3:d<10^D)(h4:e<10^E):(n*e).natAbs+(m*d).natAbs+1<10^(D+E+1):=by
 have e1:=pow_ten_mul h1 h4;have e2:=pow_ten_mul h2 h3;rw[Nat.add_comm E D] at e2;rw[Int.natAbs_mul,Int.natAbs_mul,Int.natAbs_natCast,Int.natAbs_natCast,Nat.pow_succ];have:=Nat.pow_pos (n:=D+E) (show 0<10 by decide)
 omega
theorem Sm.add{D E:Nat}{a b:Rat}(ha:Sm D a)(hb:Sm E b):Sm (D+E+1) (a+b):=by
 rw[Rat.add_def'];have e1:=sum_lt ha.1 hb.1 ha.2 hb.2;have e2:=pow_ten_mul ha.2 hb.2;have e3:=Int.natAbs_add_le (a.num*b.den) (b.num*a.den);have e4:10^(D+E)≤10^(D+E+1):=Nat.pow_le_pow_right (by decide) (by omega);exact Sm.mk' (Nat.mul_ne_zero a.den_nz b.den_nz) (by omega) (by omega)
theorem Sm.pos{D:Nat}{q:Rat}(h:Sm D q):0<D:=by
 rcases Nat.eq_zero_or_pos D with h0|h0
 ·subst h0;have:=h.2
  have:=q.den_pos
  omega
 ·exact h0
theorem num_pow{x D:Nat}(h:x<10^D)(hD:0<D)(h6:D≤1000000):Num x:=by
 unfold Num;rw[dec_size];exact Nat.le_trans ((dec_length x D hD).2 h) h6
theorem size_lt(x D:Nat)(hD:0<D):(dec x).size≤D↔x<10^D:=by
 rw[dec_size];exact dec_length x D hD
def fr (q:Rat):Value:=fv q.num q.den
def shortQ (q:Rat):Prop:=q.num.natAbs<10^30∧q.den<10^30
instance (q:Rat):Decidable (shortQ q):=by unfold shortQ;infer_instance
def cellsS (l:List (ByteArray×ByteArray)):List Value:=l.flatMap fun x=>[.string x.1,.string x.2]
theorem cellsS_length(l:List (ByteArray×ByteArray)):(cellsS l).length=l.length*2:=by
 induction l with
 | nil=>rfl
 | cons x l ih=>simp only[cellsS,List.flatMap_cons,List.length_append,List.length_cons,List.length_nil] at ih ⊢;omega
theorem cellsS_cons(x:ByteArray×ByteArray)(l):cellsS (x::l) = .string x.1 :: .string x.2::cellsS l:=rfl
theorem cellsS_get:∀ (l:List (ByteArray×ByteArray)) (k:Nat) (h:k<l.length),(cellsS l)[k*2]?=some (.string l[k].1)∧(cellsS l)[k*2+1]?=some (.string l[k].2)
 | [],k,h=>by simp at h
 | x::l,0,h=>by rw[cellsS_cons];exact⟨rfl,rfl⟩
 | x::l,k+1,h=>by
  rw[cellsS_cons,show (k+1)*2=k*2+1+1 by omega,show k*2+1+1+1=(k*2+1)+1+1 by omega];simp only[List.getElem?_cons_succ,List.getElem_cons_succ];exact cellsS_get l k (by simpa using h)
theorem cellsS_set:∀ (l:List (ByteArray×ByteArray)) (k:Nat) (s t:ByteArray),k<l.length→((cellsS l).set (k*2) (.string s)).set (k*2+1) (.string t)=cellsS (l.set k (s,t))
 | [],k,s,t,h=>by simp at h
 | x::l,0,s,t,h=>by rw[List.set_cons_zero,cellsS_cons,cellsS_cons];rfl
 | x::l,k+1,s,t,h=>by
  rw[List.set_cons_succ,cellsS_cons,cellsS_cons,show (k+1)*2=k*2+1+1 by omega,show k*2+1+1+1=(k*2+1)+1+1 by omega];simp only[List.set_cons_succ];rw[cellsS_set l k s t (by simpa using h)]
def qs (q:Rat):ByteArray×ByteArray:=(itx q.num,dec q.den)
def cellsQ (l:List Rat):List Value:=cellsS (l.map qs)
def OwnS (w:World) (B:Nat) (a:Option Addr) (c:Nat) (l:List (ByteArray×ByteArray)):Prop:=w.ownsRow B 103 2 (.slice a l.length c) l.length (cellsS l)
theorem OwnS.open{w:World}{B c:Nat}{a:Option Addr}{l:List (ByteArray×ByteArray)}(h:OwnS w B a c l)(hn:0<l.length):
  ∃ g,a=some ⟨g,0,none⟩∧B≤g∧g<w.heap.size∧l.length≤c∧(∀ j (hj:j<l.length),w.cell? ⟨g,j*2,none⟩=some (.string l[j].1)∧w.cell? ⟨g,j*2+1,none⟩=some (.string l[j].2))∧(∀ j,w.frozen? ⟨g,j,none⟩=false):=by
 obtain⟨g,cap,hv,h1,h2,h3,h4,h5⟩:=own_open h hn;simp only[Value.slice.injEq] at hv;obtain⟨rfl,-,rfl⟩:=hv;exact⟨g,rfl,h1,h2,h3,fun j hj=>⟨by rw[h4 (j*2) (by omega),(cellsS_get l j hj).1],by rw[h4 (j*2+1) (by omega),(cellsS_get l j hj).2]⟩,h5⟩
theorem OwnS.rd{w:World}{B c:Nat}{a:Option Addr}{l:List (ByteArray×ByteArray)}(h:OwnS w B a c l):Rd w a (cellsS l):=by
 by_cases hn:0<l.length
 ·obtain⟨g,cap,hv,h1,h2,h3,h4,h5⟩:=own_open h hn;simp only[Value.slice.injEq] at hv;obtain⟨rfl,-,rfl⟩:=hv;refine .inr ⟨g,0,rfl,h2,fun i v hi=>?_⟩;rw[Nat.zero_add,h4 i (by have:=(List.getElem?_eq_some_iff.1 hi).1;rw[cellsS_length] at this;exact this)];exact hi
 ·rw[List.eq_nil_of_length_eq_zero (show l.length=0 by omega)];exact .inl rfl
theorem OwnS.below{w w':World}{B c:Nat}{a:Option Addr}{l:List (ByteArray×ByteArray)}(h:OwnS w B a c l){D:Nat}(hb:Below D w w')(hD:w.heap.size≤D):OwnS w' B a c l:=own_below h hb hD
theorem OwnS.store{w:World}{B c g:Nat}{l:List (ByteArray×ByteArray)}(h:OwnS w B (some ⟨g,0,none⟩) c l)(j:Nat)(hj:j<l.length)(s t:ByteArray):
  OwnS ((w.setCell ⟨g,j*2,none⟩ (.string s)).setCell ⟨g,j*2+1,none⟩ (.string t)) B (some ⟨g,0,none⟩) c (l.set j (s,t)):=by
 have h1:=(World.ownsRow.stored h (j*2) (.string s)).1;have h2:=(World.ownsRow.stored h1 (j*2+1) (.string t)).1;rw[cellsS_set l j s t hj] at h2;unfold OwnS;rw[List.length_set];exact h2
def OwnQ (w:World) (B:Nat) (a:Option Addr) (c:Nat) (l:List Rat):Prop:=OwnS w B a c (l.map qs)
theorem OwnQ.rd{w:World}{B c:Nat}{a:Option Addr}{l:List Rat}(h:OwnQ w B a c l):Rd w a (cellsQ l):=OwnS.rd h
theorem OwnQ.below{w w':World}{B c:Nat}{a:Option Addr}{l:List Rat}(h:OwnQ w B a c l){D:Nat}(hb:Below D w w')(hD:w.heap.size≤D):OwnQ w' B a c l:=OwnS.below h hb hD
theorem OwnQ.open{w:World}{B c:Nat}{a:Option Addr}{l:List Rat}(h:OwnQ w B a c l)(hn:0<l.length):
  ∃ g,a=some ⟨g,0,none⟩∧B≤g∧g<w.heap.size∧l.length≤c∧(∀ j (hj:j<l.length),w.cell? ⟨g,j*2,none⟩=some (.string (itx l[j].num))∧w.cell? ⟨g,j*2+1,none⟩=some (.string (dec l[j].den)))∧(∀ j,w.frozen? ⟨g,j,none⟩=false):=by
 obtain⟨g,h1,h2,h3,h4,h5,h6⟩:=OwnS.open h (by simpa using hn);refine⟨g,h1,h2,h3,by simpa using h4,fun j hj=>?_,h6⟩;have:=h5 j (by simpa using hj)
 simpa [qs] using this
theorem OwnQ.store{w:World}{B c g:Nat}{l:List Rat}(h:OwnQ w B (some ⟨g,0,none⟩) c l)(j:Nat)(hj:j<l.length)(q:Rat):
  OwnQ ((w.setCell ⟨g,j*2,none⟩ (.string (itx q.num))).setCell ⟨g,j*2+1,none⟩ (.string (dec q.den))) B (some ⟨g,0,none⟩) c (l.set j q):=by
 have:=OwnS.store h j (by simpa using hj) (itx q.num) (dec q.den)
 unfold OwnQ;rw[List.map_set];exact this
abbrev Pairs:=List (ByteArray×ByteArray)
def RdL (w:World) (a:Option Addr) (ls:List Pairs):Prop :=
 ls=[]∨∃ b off,a=some ⟨b,off,none⟩∧b<w.heap.size∧∀ i,i<ls.length→∃ a' c',w.cell? ⟨b,off+i,none⟩=some (.slice a' (ls.getD i []).length c')∧Rd w a' (cellsS (ls.getD i []))
theorem RdL.below{w w':World}{a:Option Addr}{ls:List Pairs}{B:Nat}(h:RdL w a ls)(hb:Below B w w')(hB:w.heap.size≤B):RdL w' a ls:=by
 rcases h with h|⟨b,off,h1,h2,h3⟩
 ·exact .inl h
 ·refine .inr ⟨b,off,h1,Nat.lt_of_lt_of_le h2 hb.size,fun i hi=>?_⟩;obtain⟨a',c',h4,h5⟩:=h3 i hi;exact⟨a',c',by rw[hb.cell (p:=⟨b,off+i,none⟩) (by show b<B;omega)];exact h4,h5.below hb hB⟩
theorem Sm.zero:Sm 1 0:=⟨by decide,by decide⟩
def tden (l:List Rat):Nat:=l.foldl (fun d q=>Nat.lcm d q.den) 1
def tlist (D:Nat) (ps:List Int) (l:List Rat):List (Int×Int) :=
 (ps.zip l).filterMap fun x=>if x.2.num=0 then none else some (x.1,x.2.num*((D/x.2.den:Nat):Int))
def strs (l:List ByteArray):List Value:=l.map Value.string
theorem strs_append(l m:List ByteArray):strs (l++m)=strs l++strs m:=by simp[strs]
theorem infoP:(Tryz.prog.info? 3).map (fun i=>(i.zero,i.size,i.bytes))=some (some (.int .i64 0),1,8):=by kernel_rfl
theorem own_rd{w:World}{base n c:Nat}{e:TypeId}{a:Option Addr}{xs:List Value}(h:w.ownsRow base e 1 (.slice a n c) n xs):Rd w a xs:=by
 have hlen:=h.1
 by_cases hn:0<n
 ·obtain⟨g,cap,hv,h1,h2,h3,h4,h5⟩:=own_open h hn;simp only[Value.slice.injEq] at hv;obtain⟨rfl,-,rfl⟩:=hv;refine .inr ⟨g,0,rfl,h2,fun i v hi=>?_⟩;rw[Nat.zero_add,h4 i (by have:=(List.getElem?_eq_some_iff.1 hi).1;omega)];exact hi
 ·exact .inl (List.eq_nil_of_length_eq_zero (by omega))
theorem obj_set{w:World}{g:Nat}{cs:Array Value}{t:TypeId}(h:w.heap[g]?=some (.cells cs t (0,0)))(j:Nat)(x:Value):
  (w.setCell ⟨g,j,none⟩ x).heap[g]?=some (.cells (cs.setIfInBounds j x) t (0,0)):=by
 simp[World.setCell,Array.getElem?_modify,h]
theorem obj_other{w:World}{g k:Nat}(h:g≠k)(j:Nat)(x:Value):(w.setCell ⟨g,j,none⟩ x).heap[k]?=w.heap[k]?:=by
 simp[World.setCell,Array.getElem?_modify,h]
section
variable {b5 g9:Nat} {v1 v2 v3 x0 x1:Value} {p:Addr} {vp:Value}
end
section
variable {w:World} {s1 s2:Value} {D:Nat} {V1:Value} {n1:Nat} {L1:List Value} {V2:Value} {n2:Nat} {L2:List Value} {wr:World}
end
end Go.Proofs.YtepicfdhphiiaaaGreatDoor

/- Rows of long integers that a call writes: what is known of the memory. -/
namespace Go.Proofs.YtepicfdhphiiaaaGreatDoor
open Go.RowKit

/-- Worlds that have grown. -/
structure NWm (W : World) where
  w : World
  b : Below W.heap.size W w
theorem NWm.cell {W : World} {p : Addr} {v : Value} (h : W.cell? p = some v) (q : NWm W) : q.w.cell? p = some v := (q.b.cell (block_lt_of_cell h)).trans h

/-- n cells with texts of integers, that may be written. -/
structure RowS (w : World) (b off n : Nat) (F : Nat → Int) : Prop where
  lt : b < w.heap.size
  c : ∀ j, j < n → w.cell? ⟨b, off + j, none⟩ = some (.string (itx (F j)))
  f : ∀ j, j < n → w.frozen? ⟨b, off + j, none⟩ = false

/-- All blocks but one are as they were. -/
structure But (b : Nat) (w w' : World) : Prop where
  sz : w.heap.size ≤ w'.heap.size
  o : ∀ i, i < w.heap.size → i ≠ b → w'.heap[i]? = w.heap[i]?

theorem But.refl (b : Nat) (w : World) : But b w w := ⟨Nat.le_refl _, fun _ _ _ => rfl⟩
theorem But.below {b B : Nat} {w w' w'' : World} (h : But b w w') (hb : Below B w' w'') (hB : w'.heap.size ≤ B) : But b w w'' :=
  ⟨Nat.le_trans h.sz hb.size, fun i hi hne => by rw [hb.block i (Nat.lt_of_lt_of_le (Nat.lt_of_lt_of_le hi h.sz) hB)]; exact h.o i hi hne⟩
theorem But.set {b : Nat} {w w' : World} (h : But b w w') (o : Nat) (v : Value) : But b w (w'.setCell ⟨b, o, none⟩ v) :=
  ⟨by rw [World.size_setCell]; exact h.sz, fun i hi hne => by rw [obj_other (g := b) (k := i) (by omega)]; exact h.o i hi hne⟩
theorem cell_heap {w w' : World} {b : Nat} (h : w'.heap[b]? = w.heap[b]?) (o : Nat) : w'.cell? ⟨b, o, none⟩ = w.cell? ⟨b, o, none⟩ ∧ w'.frozen? ⟨b, o, none⟩ = w.frozen? ⟨b, o, none⟩ := by
  constructor
  · simp only [World.cell?, h]
  · simp only [World.frozen?, h]
theorem RowS.heap {w w' : World} {b off n : Nat} {F : Nat → Int} (h : RowS w b off n F) (hs : w.heap.size ≤ w'.heap.size) (he : w'.heap[b]? = w.heap[b]?) : RowS w' b off n F :=
  ⟨Nat.lt_of_lt_of_le h.lt hs, fun j hj => by rw [(cell_heap he _).1]; exact h.c j hj, fun j hj => by rw [(cell_heap he _).2]; exact h.f j hj⟩
theorem RowS.below {w w' : World} {b off n B : Nat} {F : Nat → Int} (h : RowS w b off n F) (hb : Below B w w') (hB : w.heap.size ≤ B) : RowS w' b off n F :=
  h.heap hb.size (hb.block b (Nat.lt_of_lt_of_le h.lt hB))
theorem RowS.but {w w' : World} {b d off n : Nat} {F : Nat → Int} (h : RowS w b off n F) (hb : But d w w') (hne : b ≠ d) : RowS w' b off n F :=
  h.heap hb.sz (hb.o b h.lt hne)
theorem RowS.congr {w : World} {b off n : Nat} {F G : Nat → Int} (h : RowS w b off n F) (he : ∀ j, j < n → F j = G j) : RowS w b off n G :=
  ⟨h.lt, fun j hj => by rw [← he j hj]; exact h.c j hj, h.f⟩
theorem RowS.set {w : World} {b off n : Nat} {F : Nat → Int} (h : RowS w b off n F) (i : Nat) (hi : i < n) (z : Int) : RowS (w.setCell ⟨b, off + i, none⟩ (.string (itx z))) b off n fun j => if j = i then z else F j := by
  refine ⟨by rw [World.size_setCell]; exact h.lt, fun j hj => ?_, fun j hj => by rw [World.frozen?_setCell]; exact h.f j hj⟩
  by_cases e : j = i
  · subst e
    rw [if_pos rfl]
    exact World.cell?_setCell_same _ _ _ (h.c j hj)
  · rw [if_neg e, World.cell?_setCell_other _ _ _ _ (fun e2 => e (by have := congrArg Addr.off e2; simp only at this; omega))]
    exact h.c j hj
theorem RowS.setOther {w : World} {b off n d o : Nat} {F : Nat → Int} (h : RowS w b off n F) (hne : b ≠ d) (v : Value) : RowS (w.setCell ⟨d, o, none⟩ v) b off n F := by
  refine ⟨by rw [World.size_setCell]; exact h.lt, fun j hj => ?_, fun j hj => by rw [World.frozen?_setCell]; exact h.f j hj⟩
  rw [World.cell?_setCell_other _ _ _ _ (fun e2 => hne (congrArg Addr.block e2).symm)]
  exact h.c j hj
/-- A part of a row. -/
theorem RowS.drop {w : World} {b off n : Nat} {F : Nat → Int} (h : RowS w b off n F) (k : Nat) (hk : k ≤ n) : RowS w b (off + k) (n - k) fun j => F (k + j) :=
  ⟨h.lt, fun j hj => by rw [Nat.add_assoc]; exact h.c (k + j) (by omega), fun j hj => by rw [Nat.add_assoc]; exact h.f (k + j) (by omega)⟩

/-- m rows of n long integers in blocks of their own, each written by this call alone. -/
structure MatS (w : World) (B g m n : Nat) (K : Nat → Nat × Nat × Nat) (E : Nat → Nat → Int) : Prop where
  glo : B ≤ g
  glt : g < w.heap.size
  out : ∀ i, i < m → w.cell? ⟨g, i, none⟩ = some (.slice (some ⟨(K i).1, (K i).2.1, none⟩) n (K i).2.2)
  outf : ∀ i, i < m → w.frozen? ⟨g, i, none⟩ = false
  lo : ∀ i, i < m → B ≤ (K i).1 ∧ (K i).1 ≠ g
  inj : ∀ i k, i < m → k < m → (K i).1 = (K k).1 → i = k
  row : ∀ i, i < m → RowS w (K i).1 (K i).2.1 n (E i)
  cap : ∀ i, i < m → n ≤ (K i).2.2

theorem MatS.below {w w' : World} {B g m n C : Nat} {K : Nat → Nat × Nat × Nat} {E : Nat → Nat → Int} (h : MatS w B g m n K E) (hb : Below C w w') (hC : w.heap.size ≤ C) : MatS w' B g m n K E :=
  ⟨h.glo, Nat.lt_of_lt_of_le h.glt hb.size, fun i hi => by rw [(cell_heap (hb.block g (Nat.lt_of_lt_of_le h.glt hC)) _).1]; exact h.out i hi,
    fun i hi => by rw [(cell_heap (hb.block g (Nat.lt_of_lt_of_le h.glt hC)) _).2]; exact h.outf i hi, h.lo, h.inj, fun i hi => (h.row i hi).below hb hC, h.cap⟩
theorem MatS.congr {w : World} {B g m n : Nat} {K : Nat → Nat × Nat × Nat} {E E' : Nat → Nat → Int} (h : MatS w B g m n K E) (he : ∀ i, i < m → ∀ j, j < n → E i j = E' i j) : MatS w B g m n K E' :=
  ⟨h.glo, h.glt, h.out, h.outf, h.lo, h.inj, fun i hi => (h.row i hi).congr (he i hi), h.cap⟩
theorem MatS.less {w : World} {B B' g m n : Nat} {K : Nat → Nat × Nat × Nat} {E : Nat → Nat → Int} (h : MatS w B g m n K E) (hB : B' ≤ B) : MatS w B' g m n K E :=
  ⟨Nat.le_trans hB h.glo, h.glt, h.out, h.outf, fun i hi => ⟨Nat.le_trans hB (h.lo i hi).1, (h.lo i hi).2⟩, h.inj, h.row, h.cap⟩
/-- One row has changed. -/
theorem MatS.put {w w' : World} {B g m n : Nat} {K : Nat → Nat × Nat × Nat} {E : Nat → Nat → Int} (h : MatS w B g m n K E) {i : Nat} (_hi : i < m) (hb : But (K i).1 w w') {F : Nat → Int} (hr : RowS w' (K i).1 (K i).2.1 n F) :
    MatS w' B g m n K fun k => if k = i then F else E k := by
  have hg := hb.o g h.glt (fun e => (h.lo i _hi).2 e.symm)
  refine ⟨h.glo, Nat.lt_of_lt_of_le h.glt hb.sz, fun k hk => by rw [(cell_heap hg _).1]; exact h.out k hk, fun k hk => by rw [(cell_heap hg _).2]; exact h.outf k hk, h.lo, h.inj, fun k hk => ?_, h.cap⟩
  by_cases e : k = i
  · subst e
    simp only [if_true]; exact hr
  · simp only [if_neg e]
    exact (h.row k hk).but hb fun e2 => e (h.inj k i hk _hi e2)
/-- Two rows are exchanged. -/
theorem MatS.swap {w : World} {B g m n : Nat} {K : Nat → Nat × Nat × Nat} {E : Nat → Nat → Int} (h : MatS w B g m n K E) {d a : Nat} (hd : d < m) (ha : a < m) :
    MatS ((w.setCell ⟨g, d, none⟩ (.slice (some ⟨(K a).1, (K a).2.1, none⟩) n (K a).2.2)).setCell ⟨g, a, none⟩ (.slice (some ⟨(K d).1, (K d).2.1, none⟩) n (K d).2.2)) B g m n (fun i => K (if i = d then a else if i = a then d else i)) fun i => E (if i = d then a else if i = a then d else i) := by
  have hs : ∀ i, i < m → (if i = d then a else if i = a then d else i) < m := fun i hi => by
    split
    · exact ha
    · split
      · exact hd
      · exact hi
  refine ⟨h.glo, by rw [World.size_setCell, World.size_setCell]; exact h.glt, fun i hi => ?_, fun i hi => by rw [World.frozen?_setCell, World.frozen?_setCell]; exact h.outf i hi, fun i hi => h.lo _ (hs i hi), fun i k hi hk e => ?_, fun i hi => ((h.row _ (hs i hi)).setOther (h.lo _ (hs i hi)).2 _).setOther (h.lo _ (hs i hi)).2 _, fun i hi => h.cap _ (hs i hi)⟩
  · by_cases e1 : i = a
    · rw [e1]
      have c1 : (w.setCell ⟨g, d, none⟩ (.slice (some ⟨(K a).1, (K a).2.1, none⟩) n (K a).2.2)).cell? ⟨g, a, none⟩ = some (.slice (some ⟨(K a).1, (K a).2.1, none⟩) n (K a).2.2) := by
        by_cases e2 : a = d
        · rw [e2]; exact World.cell?_setCell_same _ _ _ (h.out d hd)
        · rw [World.cell?_setCell_other _ _ _ _ (fun e => e2 (congrArg Addr.off e).symm)]; exact h.out a ha
      rw [World.cell?_setCell_same _ _ _ c1]
      by_cases e2 : a = d
      · rw [if_pos e2, e2]
      · rw [if_neg e2, if_pos rfl]
    · rw [World.cell?_setCell_other _ _ _ _ (fun e => e1 (congrArg Addr.off e).symm)]
      by_cases e2 : i = d
      · rw [if_pos e2, e2]; exact World.cell?_setCell_same _ _ _ (h.out d hd)
      · rw [if_neg e2, if_neg e1, World.cell?_setCell_other _ _ _ _ (fun e => e2 (congrArg Addr.off e).symm)]; exact h.out i hi
  · have := h.inj _ _ (hs i hi) (hs k hk) e
    have e1 := swap_twice d a i
    have e2 := swap_twice d a k
    rw [this, e2] at e1
    exact e1.symm
/-- As what is read. -/
theorem RowS.rd {w : World} {b off n : Nat} {F : Nat → Int} (h : RowS w b off n F) (vs : List Value) (hl : vs.length = n) (he : ∀ j, j < n → vs[j]? = some (.string (itx (F j)))) : Rd w (some ⟨b, off, none⟩) vs :=
  .inr ⟨b, off, rfl, h.lt, fun i v hv => by
    have hi := (List.getElem?_eq_some_iff.1 hv).1
    rw [h.c i (by omega)]
    rw [he i (by omega)] at hv
    exact hv⟩

theorem readsU_one{w:World}{g:Nat}{t:TypeId}(h:w.heap[g]?=some (.cells #[.int .u64 1] t (0,0))):ReadsU w (some ⟨g,0,none⟩) (limbs 1):=by
 have e:limbs 1=[1]:=by decide +kernel
 rw[e];refine .inr ⟨g,0,rfl,(Array.getElem?_eq_some_iff.1 h).1,fun i hi=>?_⟩;have:i=0:=by simp at hi;exact hi
 subst this;rw[cell_of_row w g 0 _ t (0,0) h];rfl
theorem i64_and1(n:Int):bits .and .i64 n 1=n%2:=by
 have h1:(BitVec.ofInt 64 1).toNat=2^1-1:=by decide
 have key:(BitVec.ofInt 64 n &&& BitVec.ofInt 64 1).toNat=(n%((2^64:Nat):Int)).toNat%2^1:=by
  rw[BitVec.toNat_and,BitVec.toNat_ofInt,h1,Nat.and_two_pow_sub_one_eq_mod]
 show IntKind.i64.wrap ((BitVec.ofInt 64 n &&& BitVec.ofInt 64 1).toNat:Nat)=n%2
 rw[key,IntKind.wrap_i64];omega
theorem and_one(k:Nat)(_:k<4001):(bits BinOp.and IntKind.i64 (k:Nat) 1==1)=decide (k%2=1):=by
 rw[i64_and1]
 by_cases h:k%2=1
 ·rw[decide_eq_true h,beq_iff_eq];omega
 ·rw[decide_eq_false h,beq_eq_false_iff_ne];omega
theorem p2:True:=trivial
end Go.Proofs.YtepicfdhphiiaaaGreatDoor

namespace Go.Proofs.YtepicfdhphiiaaaGreatDoor.LN
def lgGo (unit:Nat):Nat→Nat→Nat→Nat→Option Nat
 | 0,_,_,out=>some out
 | n+1,lo,hi,out =>
  if 2*unit≤lo*lo/unit then lgGo unit n (lo*lo/unit/2) ((hi*hi/unit+1)/2+1) (2*out+1)
  else if 2*unit≤hi*hi/unit+1 then none
  else lgGo unit n (lo*lo/unit) (hi*hi/unit+1) (2*out)
def lg (p k n more:Nat):Option Nat:=lgGo (2^more) n (p*2^(more-k)) (p*2^(more-k)) k
def dotI:List Int→List Int→Int
 | a::l,b::m=>a*b+dotI l m
 | _,_=>0
def sumAbs (l:List Int):Nat:=(l.map Int.natAbs).sum
def comb (x:Int) (u:List Int) (y:Int) (v:List Int):List Int:=List.zipWith (fun a b=>x*a-y*b) u v
theorem dotI_comb(x y:Int):∀ (u v k:List Int),u.length=v.length→dotI (comb x u y v) k=x*dotI u k-y*dotI v k
 | [],[],_,_=>by simp[comb,dotI]
 | a::u,b::v,[],_=>by simp[comb,dotI]
 | a::u,b::v,c::k,h=>by
  have ih:=dotI_comb x y u v k (by simpa using h);have e:comb x (a::u) y (b::v)=(x*a-y*b)::comb x u y v:=rfl;rw[e];simp only[dotI];rw[ih]
  grind
 | [],_::_,_,h=>by simp at h
 | _::_,[],_,h=>by simp at h
theorem dotI_le(K:Nat):∀ (u k:List Int),(∀ x∈k,x.natAbs≤K)→(dotI u k).natAbs≤sumAbs u*K
 | [],_,_=>by simp[dotI]
 | _::_,[],_=>by simp[dotI]
 | a::u,b::k,h=>by
  have ih:=dotI_le K u k fun x hx=>h x (List.mem_cons_of_mem _ hx)
  have hb:=h b List.mem_cons_self;have e:sumAbs (a::u)=a.natAbs+sumAbs u:=by simp[sumAbs]
  rw[e,Nat.add_mul];simp only[dotI];have h1:=Int.natAbs_add_le (a*b) (dotI u k);rw[Int.natAbs_mul] at h1;have h2:a.natAbs*b.natAbs≤a.natAbs*K:=Nat.mul_le_mul_left _ hb;omega
def unitRow (m i:Nat) (d:Int):List Int:=(List.range m).map fun j=>if j=i then d else 0
def combs (m:Nat):List Int→List (List Int)→List Int
 | x::l,u::ls=>comb x u (-1) (combs m l ls)
 | _,_=>List.replicate m 0
theorem combs_length(m:Nat):∀ (l:List Int) (U:List (List Int)),(∀ u∈U,u.length=m)→(combs m l U).length=m
 | [],_,_=>by simp[combs]
 | _::_,[],_=>by simp[combs]
 | x::l,u::U,h=>by
  have ih:=combs_length m l U fun v hv=>h v (List.mem_cons_of_mem _ hv)
  simp only[combs,comb,List.length_zipWith,ih,h u List.mem_cons_self,Nat.min_self]
theorem dotI_zero(m:Nat)(k:List Int):dotI (List.replicate m 0) k=0:=by
 induction m generalizing k with
 | zero=>rfl
 | succ m ih =>
  cases k with
  | nil=>rfl
  | cons b k=>rw[List.replicate_succ,dotI,ih];simp
theorem dotI_combs(m:Nat)(k:List Int):∀ (l:List Int) (U:List (List Int)),(∀ u∈U,u.length=m)→(∀ u∈U,dotI u k=0)→dotI (combs m l U) k=0
 | [],_,_,_=>by rw[combs];exact dotI_zero m k;simp
 | _::_,[],_,_=>by rw[combs];exact dotI_zero m k;simp
 | x::l,u::U,h,h0=>by
  rw[combs,dotI_comb _ _ _ _ _ (by rw[combs_length m l U fun v hv=>h v (List.mem_cons_of_mem _ hv)];exact h u List.mem_cons_self),h0 u List.mem_cons_self,
   dotI_combs m k l U (fun v hv=>h v (List.mem_cons_of_mem _ hv)) (fun v hv=>h0 v (List.mem_cons_of_mem _ hv))]
  simp
theorem dotI_unit(d:Int):∀ (m i s:Nat) (k:List Int),dotI ((List.range' s m).map fun j=>if j=i then d else 0) k=if s≤i∧i<s+m then d*k.getD (i-s) 0 else 0
 | 0,i,s,k=>by
  rw[if_neg (by omega)];rfl
 | m+1,i,s,[]=>by simp[List.range'_succ,dotI]
 | m+1,i,s,b::k=>by
  rw[List.range'_succ,List.map_cons,dotI,dotI_unit d m i (s+1) k]
  by_cases h:s=i
  ·subst h;rw[if_pos rfl,if_neg (by omega),if_pos (by omega)];simp
  ·rw[if_neg h]
   by_cases h2:s+1≤i∧i<s+1+m
   ·rw[if_pos h2,if_pos (by omega)];have e:i-s=(i-(s+1))+1:=by omega
    rw[e];simp
   ·rw[if_neg h2,if_neg (by omega)];simp
def certOk (a:Int) (L:List Int) (U V:List (List Int)) (d:Int) (K S:Nat):Bool :=
 decide (0<a)&&decide (d≠0) &&
 U.all (fun u=>decide (u.length=L.length)&&decide (sumAbs (comb a u (u.headD 0) L)*K+(u.headD 0).natAbs*S<a.natAbs)) &&
 decide (V.length=L.length)&&(List.range L.length).all (fun i=>decide (combs L.length (V.getD i []) U=unitRow L.length i d))
theorem cert_zero{a:Int}{L:List Int}{U V:List (List Int)}{d:Int}{K S:Nat}(h:certOk a L U V d K S=true)(k:List Int)(hk:k.length=L.length)(hK:∀ x∈k,x.natAbs≤K)(hS:(dotI L k).natAbs<S):
  ∀ x∈k,x=0:=by
 unfold certOk at h;simp only[Bool.and_eq_true,decide_eq_true_eq,List.all_eq_true,List.mem_range] at h;obtain⟨⟨⟨⟨ha,hd⟩,hU⟩,hV⟩,hI⟩:=h;have h0:∀ u∈U,dotI u k=0:=by
  intro u hu;obtain⟨h1,h2⟩:=hU u hu;have e:=dotI_comb a (u.headD 0) u L k h1;have b:=dotI_le K (comb a u (u.headD 0) L) k hK;generalize u.headD 0=q at *;generalize dotI u k=f at *;generalize dotI L k=T at *;generalize sumAbs (comb a u q L)*K=A at *;rw[e] at b;have h3:(a*f).natAbs≤(a*f-q*T).natAbs+(q*T).natAbs:=by omega
  rw[Int.natAbs_mul,Int.natAbs_mul q T] at h3;have h5:q.natAbs*T.natAbs≤q.natAbs*S:=Nat.mul_le_mul_left _ (by omega);have h6:a.natAbs*f.natAbs<a.natAbs*1:=by omega
  have h7:f.natAbs<1:=Nat.lt_of_mul_lt_mul_left h6;omega
 intro x hx;obtain⟨i,hi,rfl⟩:=List.mem_iff_getElem.1 hx;have h1:=hI i (by omega);have h2:=dotI_combs L.length k (V.getD i []) U (fun u hu=>(hU u hu).1) h0;rw[h1,unitRow,List.range_eq_range',dotI_unit d _ i 0 k,if_pos (by omega)] at h2;rw[Nat.sub_zero,List.getD_eq_getElem?_getD,List.getElem?_eq_getElem hi,Option.getD_some] at h2;rcases Int.mul_eq_zero.1 h2 with h3|h3
 ·exact absurd h3 hd
 ·exact h3
def upT:List (Int×Int)→Nat
 | []=>1
 | x::l=>x.1.toNat^x.2.toNat*upT l
def negT (l:List (Int×Int)):List (Int×Int):=l.map fun x=>(x.1,-x.2)
def signT (l:List (Int×Int)):Int:=if upT (negT l)<upT l then 1 else if upT l<upT (negT l) then -1 else 0
def hiL (f:Int→Nat) (p:Int):Nat:=if p=2 then f p else f p+1
def loS (f:Int→Nat):List (Int×Int)→Nat
 | []=>0
 | x::l=>x.2.toNat*f x.1+loS f l
def hiS (f:Int→Nat):List (Int×Int)→Nat
 | []=>0
 | x::l=>x.2.toNat*hiL f x.1+hiS f l
def coefP (p:Int):List (Int×Int)→Int
 | []=>0
 | x::l=>(if x.1=p then x.2 else 0)+coefP p l
theorem dotI_add(a b:List Int):∀ (u:List Int) (pr:List Int) (g h:Int→Int),dotI u (pr.map fun p=>g p+h p)=dotI u (pr.map g)+dotI u (pr.map h)
 | [],_,_,_=>by simp[dotI]
 | _::_,[],_,_=>by simp[dotI]
 | c::u,p::pr,g,h=>by
  have ih:=dotI_add a b u pr g h;simp only[List.map_cons,dotI];rw[ih,Int.mul_add];omega
theorem dotI_none(f:Int→Int)(c q:Int):∀ pr:List Int,q ∉ pr→dotI (pr.map f) (pr.map fun p=>if q=p then c else 0)=0
 | [],_=>by simp[dotI]
 | p::pr,h=>by
  simp only[List.mem_cons,not_or] at h;simp only[List.map_cons,dotI];rw[if_neg h.1,dotI_none f c q pr h.2];simp
theorem dotI_at(f:Int→Int)(c q:Int):∀ pr:List Int,pr.Nodup→q∈pr→dotI (pr.map f) (pr.map fun p=>if q=p then c else 0)=c*f q
 | [],_,h=>by simp at h
 | p::pr,hd,h=>by
  simp only[List.nodup_cons] at hd;simp only[List.map_cons,dotI]
  by_cases e:q=p
  ·rw[if_pos e,e,dotI_none f c p pr hd.1,Int.mul_comm];omega
  ·rw[if_neg e,dotI_at f c q pr hd.2 (by simpa [e] using h)];omega
def sumT (f:Int→Nat):List (Int×Int)→Int
 | []=>0
 | x::l=>x.2*f x.1+sumT f l
theorem dotI_coef(f:Int→Nat)(pr:List Int)(hd:pr.Nodup):∀ l:List (Int×Int),(∀ x∈l,x.1∈pr)→dotI (pr.map fun p=>(f p:Int)) (pr.map fun p=>coefP p l)=sumT f l
 | [],_=>by
  simp only[coefP,sumT];have e:∀ u v:List Int,dotI u (v.map fun _=>0)=0:=by
   intro u
   induction u with
   | nil=>intro v;cases v<;>rfl
   | cons a u ih =>
    intro v;cases v with
    | nil=>rfl
    | cons b v=>simp only[List.map_cons,dotI];rw[ih];simp
  exact e _ _
 | x::l,h=>by
  have ih:=dotI_coef f pr hd l fun y hy=>h y (List.mem_cons_of_mem _ hy)
  simp only[coefP,sumT];rw[dotI_add [] [],ih,dotI_at _ _ _ pr hd (h x List.mem_cons_self)]
theorem coefP_none(p:Int):∀ l:List (Int×Int),p ∉ l.map Prod.fst→coefP p l=0
 | [],_=>rfl
 | x::l,h=>by
  simp only[List.map_cons,List.mem_cons,not_or] at h;rw[coefP,if_neg (fun e=>h.1 e.symm),coefP_none p l h.2];rfl
theorem coefP_mem:∀ l:List (Int×Int),(l.map Prod.fst).Nodup→∀ x∈l,coefP x.1 l=x.2
 | [],_,_,h=>by cases h
 | y::l,hd,x,h=>by
  simp only[List.map_cons,List.nodup_cons] at hd;rcases List.mem_cons.1 h with rfl|h
  ·rw[coefP,if_pos rfl,coefP_none _ l hd.1];omega
  ·rw[coefP,if_neg (fun e=>hd.1 (by rw[e];exact List.mem_map.2 ⟨x,h,rfl⟩)),coefP_mem l hd.2 x h];omega
theorem coefP_le(K:Nat)(l:List (Int×Int))(hd:(l.map Prod.fst).Nodup)(hK:∀ x∈l,x.2.natAbs≤K)(p:Int):(coefP p l).natAbs≤K:=by
 by_cases h:p∈l.map Prod.fst
 ·obtain⟨x,hx,rfl⟩:=List.mem_map.1 h;rw[coefP_mem l hd x hx];exact hK x hx
 ·rw[coefP_none p l h];simp
theorem hiS_le(f:Int→Nat)(K:Nat):∀ l:List (Int×Int),(∀ x∈l,x.2.natAbs≤K)→hiS f l≤loS f l+l.length*K
 | [],_=>by simp[hiS,loS]
 | x::l,h=>by
  have ih:=hiS_le f K l fun y hy=>h y (List.mem_cons_of_mem _ hy)
  have hx:=h x List.mem_cons_self;have e:hiL f x.1≤f x.1+1:=by unfold hiL;split<;>omega
  have e2:x.2.toNat*hiL f x.1≤x.2.toNat*(f x.1+1):=Nat.mul_le_mul_left _ e;rw[Nat.mul_add] at e2;rw[hiS,loS,List.length_cons,Nat.add_mul];omega
theorem sumT_eq(f:Int→Nat):∀ l:List (Int×Int),sumT f l=(loS f l:Int)-(loS f (negT l):Int)
 | []=>rfl
 | x::l=>by
  have ih:=sumT_eq f l;have e:negT (x::l)=(x.1,-x.2)::negT l:=rfl;rw[sumT,ih,e,loS,loS];rw[Int.natCast_add,Int.natCast_add,Int.natCast_mul,Int.natCast_mul];have h:x.2=(x.2.toNat:Int)-((-x.2).toNat:Int):=by omega
  generalize (x.2.toNat:Int)=a at *;generalize ((-x.2).toNat:Int)=b at *;rw[h]
  grind
theorem ends_decide{a d:Int}{pr:List Int}{f:Int→Nat}{U V:List (List Int)}{K S:Nat}(hc:certOk a (pr.map fun p=>(f p:Int)) U V d K S=true)(hp:pr.Nodup)(l:List (Int×Int))(hl:l.length*K≤S)(hne:l≠[])
  (hm:∀ x∈l,x.1∈pr∧x.2≠0∧x.2.natAbs≤K) (hd:(l.map Prod.fst).Nodup):hiS f (negT l)≤loS f l∨hiS f l≤loS f (negT l):=by
 have h1:=hiS_le f K l fun x hx=>(hm x hx).2.2
 have h2:=hiS_le f K (negT l) (by
  intro x hx;obtain⟨y,hy,rfl⟩:=List.mem_map.1 hx;have:=(hm y hy).2.2
  show (-y.2).natAbs≤K
  omega)
 have e:(negT l).length=l.length:=by simp[negT]
 rw[e] at h2;have h3:=sumT_eq f l
 by_cases hT:(sumT f l).natAbs<S
 ·exfalso;rw[← dotI_coef f pr hp l fun x hx=>(hm x hx).1] at hT;have h4:=cert_zero hc (pr.map fun p=>coefP p l) (by simp) (by
   intro x hx;obtain⟨p,_,rfl⟩:=List.mem_map.1 hx;exact coefP_le K l hd (fun y hy=>(hm y hy).2.2) p) hT
  match l,hne with
  | x::r,_ =>
   have h5:=h4 _ (List.mem_map.2 ⟨x.1,(hm x List.mem_cons_self).1,rfl⟩);rw[coefP_mem _ hd x List.mem_cons_self] at h5;exact(hm x List.mem_cons_self).2.1 h5
 ·omega
def certL:List Int:=[179769313486231590772930519078902473361797697894230657273430081157732675805500963132708477322407536021120113879871393357658789768814416622492847430639474124377767893424865485276302219601246094119453082952085005768838150682342462881473913110540827237163350510684586298239947245938479716304835356329624224137216,284927620656063089346731796384423062894173922742544388268143673752537756183546571537032060353371466816773127126641744722713352439279873718317761842880439823388246733129821933154999969794940367169528507713597703293501225656468836512330451109106556546484957172329017475735990380315252547391823925065085415830706,417411419582294732896156489886154238448013320157255640262591015340590871398055171674354685851436277043969488387805834784269416499993679630854470083136767565961762416444355884854643698642680661331046329726609798457044907851814692689997919935740891485193992980213442174017676677705033790300799565328174789721477,504676267050488686437106225422580597666894180115835423443227083307798182118129470961836692572602004275197053008847790122226159407050037386686227374490996006831065115100048654528796805287857493370208467706711144940390867662095296958256666553836865344662997681178618211252555414200909783814338893188237609625780,621899647134989863023931440843230302890983592943748869067988172264563165309608343386292530753941856327296297447054373896510077744639892806611394391743834589735893855764598242929310750820193556622274206181954361442867402987237247717098957447016989915817775870019501087911877572648074267091007255239964369023968,665225507727408465455298695894691710776360314087386563812869573730968267223165639273012984180830913649657093046906068992579944353826624953775464535759564037586356204133016200974813196209296864512605219833214582093815415417608006173877679388939375373503941628536552970450384072436140060704944322076520073283839]
def certU:List (List Int):=[[1361033472052420067100991309064931182091716853391540550899091113545676748165654069454734507830540625923066749738613742662526501494649565328672781710912470855,2157187015429401542138602315378835738079865318741913695197763694877679196962452355322909935492129080345135728398755778866915216677702864904886518349498144093,3160221856840607851781685108452959817026979136557082784519095198183545416828782748691856911460833185893891199012493182590421586823167653542796686423181411803,3820904016851512035743762372109566630477041885378486680143976467669200300212202542157276498189701081899028256409122481989077119745557940859571796331901780602,4708402227241844230881350710329385429292965180311929874646927949603148181156687490795565250855988629463347595457426767248645121403373850130316622376205655824,5036422317702249347264984242308634347603162440235819245412201338095351364705523284785619822633893970185542775747311911336783041820236677902723153542003541995],
 [299687973565947336953693908348658651332127021025370730890883623972659747075648952750207292919729408951165823130818603758290601433328042680561826125489066428,474994200019139640690896719015381054735292729699790408945830646826654284457084852625941217336849063751168404185314953447875618807762968794960545658399964795,695853925522634307249243517247788056805708280722354982344522670436784936810433857855919843198532036588375876439367016064304325129116049564645826288286436995,841330507671831406218103970697802099080070115711533135025373126392723083358858942563189157022256615979955037365105244659930907228808843221236499661374110289,1036750051479376748850033988793626597154995220661079736838726668451637290619206291200505783075082688000877676034076233903503798073310428799011686117489740735,1108977280432649241595140457724586490268455016437124571879230895310093956060594635296497046358777904624265570982229960398488559448522718359131628436452776618],
 [2001432095227681370883033031250657280124239008502396240436193329269779899751073734437881335263033118934661407649401662184445142860843476241971244864603027187,3172194818675649062031549948976346458446291575480633127138527180430090144149945657870703384176547217957998590193298519253946520383353142275844076215046404066,4647181411918432184657996063106137228541057445042859272797028758732513247711022952874593278003645411586711998681909461184937906440067320029532798507864848774,5618730243701494716647491390234016366368147732801005815257985401286419595231562467358169747618992550500502402060613155528580022043540105943291290066113212642,6923817472786135026020292681272359069572685393380617174853881444661977508302607758245986734774019457876979478431489431680461110991886850855640535885324347296,7406178818342856776067456999577349708314416427421774025318657928833991150289316239750934511444397348343774950016253631819156198089215566095848780701490864144],
 [528536423608438686412855271308878199418637088432614320111589911024224382198177128949494362669026076740489188478845726431331723513448155828996706397443325180,837710411684647310522312564104097923139117177113334471362723484405395424151008043983617035281865417395962957088666166267423693251318731944589703713618244329,1227223571147721963246630617648243717815284933494361643201768985968400112439714151460557394407565771139456530795453357502363423731760793034538519393449417404,1483789330303873215968878480452065504812046379488041405674753539793795422454494893163083848604039861079831537330639296756576330493295598940741832154454008688,1828435615432509255958100752235191297210724831090028852837000190432020360373150501910418670178265213952829967280722348250891518419506460528213470146761147669,1955817174404911741025196141353996465572258277146385975044836535532311654150798060211842806764077658974214099154631403207719281988005843100572202176183955081],
 [-1468711569869691212917947732134083722669835323809775214024289413578456753408037268869249086956462231433613497000907220577351639694601234134310649204034172316,-2327852762618760886438615551826346136370330168494265847894449738559028087832799593039841031943095790346604355658488125946578561954780542160298345901268352557,-3410242657366559293362990450499318662931329652440687467996352748484304130112546146565531321508257651827946757887834523977466162302035935620424198790339117028,-4123194654756628344277387666377040541457073401299737549360184284561605431593927292627723203544564083235736204424728469325429173003124213574712357752737593408,-5080907243465631775491331725106607667567794020555851403113895506647993464455619343303375350433823317991140303009422864311178241460123997725934828520026953170,-5434878627639161137069877451178110586761807883549011422834890840123801581219167459321135220817687924522379993148257513492372263375648300907571638870552930820],
 [-2527278727899951042357277652887687714676139814654455825895183801797394312577171470996587787488447973546590744938596754242248050652665729495409064860168750388,-4005642012591688830853788306767450225437525695850649207367482469960977507820045796608400918880715182390339297186644147711819811945556751576743803637464260210,-5868159481922089932185961686356109783421000151793657433855863935794100273872111461436697788866984813598223636272238364084392763747068349791942404099818116664,-7094968376181407917698486220318039050815038790087114445294460660285453776174777870811938078891803417542019334178004801170201148860672020225345222745338937759,-8742947940406537175524478993752549231321711125631551583381469936189250544112233396909737085879577827848253228263908699479854100689968661105092076296067226517,-9352042583534072783038683109624319367784842669410329692573031045141955386391775295867783423242100705425423420660519481116735025587912157359844666391581864370]]
def certV:List (List Int):=[[-5056625427619646027375557688934,22492767048728521515228088672644,100757843318868131663255231251409,-109175424216025810518427626349458,43791622722594357708666376464250,31456010246780842523074201168758],
 [14843321736870989170892935211302,-1566413707272055504716434875294,-13231873144781301898553196621410,-4473938268507226690064737724278,-7234649816335129238870443013471,597916375160099280812978039558],
 [-10106195131634014064109565408074,-23752526617964760938273316614011,-2161618493810056733233408947394,11217398622667791280982723293654,-1919025075220832533891098335435,-6509868020063796828750396523277],
 [6851462341036060952856831869449,6038656074418965050194601037329,-11645716143813286921558515426769,2256681498008609696986867869759,5109170126994287454266492989097,-7313988198921797883712129588856],
 [-20280857652371422586076982416269,3240353442599273281533504304323,-6207198472621478050629739916295,10933570427373787624652298476831,-12444462319387663796445073593709,-5934842575408006771328159897859],
 [15112292982976400489100645344947,1886037157824657007738630660331,-5566814279214676496689364407767,12447496499081282177953624596476,226561372143848006543391518164,6425156145734365554949928231685]]
theorem cert_ok:certOk (2^1024) certL certU certV 1 (2^100) (2^503)=true:=by decide +kernel
end Go.Proofs.YtepicfdhphiiaaaGreatDoor.LN

namespace Go.Proofs.YtepicfdhphiiaaaGreatDoor
open Go.RowKit Go.Shelf
attribute [local go_sem] Oper.semAt_some
end Go.Proofs.YtepicfdhphiiaaaGreatDoor

namespace Go.Proofs.YtepicfdhphiiaaaGreatDoor
open Go.RowKit
def IsLg (p N a:Nat):Prop:=2^a≤p^N∧p^N<2^(a+1)
def digStep (unit:Nat) (s:Nat×Nat×Nat):Option (Nat×Nat×Nat) :=
 let low:=s.1*s.1/unit
 let high:=s.2.1*s.2.1/unit+1
 if 2*unit≤low then some (low/2,high/2+1,2*s.2.2+1)
 else if 2*unit≤high then none
 else some (low,high,2*s.2.2)
def digs (p more:Nat):Nat→Option (Nat×Nat×Nat)
 | 0=>some (p*2^(more-p.log2),p*2^(more-p.log2),p.log2)
 | n+1=>(digs p more n).bind (digStep (2^more))
structure DigInv (p unit N:Nat) (s:Nat×Nat×Nat):Prop where
 lg:IsLg p N s.2.2
 lo:s.1*2^s.2.2≤unit*p^N
 hi:unit*p^N≤s.2.1*2^s.2.2
theorem digStep_inv{p unit N:Nat}{s t:Nat×Nat×Nat}(h0:0<unit)(h:DigInv p unit N s)(hs:digStep unit s=some t):DigInv p unit (2*N) t:=by
 obtain⟨l,h',o⟩:=s;obtain⟨⟨g1,g2⟩,lo,hi⟩:=h;simp only at g1 g2 lo hi;simp only[digStep] at hs;have hP:p^(2*N)=p^N*p^N:=by rw[Nat.two_mul,Nat.pow_add]
 have hO:2^(2*o)=2^o*2^o:=by rw[Nat.two_mul,Nat.pow_add]
 have hO1:2^(2*o+1)=2*(2^o*2^o):=by rw[Nat.pow_succ,hO,Nat.mul_comm]
 have hO2:2^(2*o+1+1)=4*(2^o*2^o):=by rw[Nat.pow_succ,hO1];omega
 have hq:=Nat.div_mul_le_self (l*l) unit;have hr:=Nat.lt_div_mul_add (a:=h'*h') h0;generalize hA:l*l/unit=A at *;generalize hB:h'*h'/unit=B at *;rw[Nat.pow_succ] at g2;generalize 2^o=T at *;generalize p^N=P at *
 -- A * (T * T) ≤ unit * (P * P)
 have e1:A*(T*T)≤unit*(P*P):=by
  have h1:A*unit*(T*T)≤(l*l)*(T*T):=Nat.mul_le_mul_right _ hq;have h2:(l*T)*(l*T)≤(unit*P)*(unit*P):=Nat.mul_le_mul lo lo;have h3:unit*(A*(T*T))≤unit*(unit*(P*P)):=by
   calc unit*(A*(T*T))=A*unit*(T*T):=by ac_rfl
    _≤(l*l)*(T*T):=h1
    _=(l*T)*(l*T):=by ac_rfl
    _≤_:=h2
    _=unit*(unit*(P*P)):=by ac_rfl
  exact Nat.le_of_mul_le_mul_left h3 h0
 have e2:unit*(P*P)≤(B+1)*(T*T):=by
  have h1:h'*h'*(T*T)≤((B+1)*unit)*(T*T):=Nat.mul_le_mul_right _ (by rw[Nat.add_mul,Nat.one_mul];omega);have h2:(unit*P)*(unit*P)≤(h'*T)*(h'*T):=Nat.mul_le_mul hi hi;have h3:unit*(unit*(P*P))≤unit*((B+1)*(T*T)):=by
   calc unit*(unit*(P*P))=(unit*P)*(unit*P):=by ac_rfl
    _≤_:=h2
    _=h'*h'*(T*T):=by ac_rfl
    _≤_:=h1
    _=unit*((B+1)*(T*T)):=by ac_rfl
  exact Nat.le_of_mul_le_mul_left h3 h0
 have e3:T*T≤P*P:=Nat.mul_le_mul g1 g1;have e4:P*P<4*(T*T):=by
  have:=Nat.mul_lt_mul'' g2 g2
  have h4:T*2*(T*2)=4*(T*T):=by
   calc T*2*(T*2)=(2*2)*(T*T):=by ac_rfl
    _=_:=rfl
  omega
 by_cases hl:2*unit≤A
 ·rw[if_pos hl] at hs;cases hs
  have e5:unit*(2*(T*T))≤unit*(P*P):=by
   calc unit*(2*(T*T))=2*unit*(T*T):=by ac_rfl
    _≤A*(T*T):=Nat.mul_le_mul_right _ hl
    _≤_:=e1
  have e6:2*(T*T)≤P*P:=Nat.le_of_mul_le_mul_left e5 h0;refine⟨⟨?_,?_⟩,?_,?_⟩
  ·simp only;rw[hO1,hP];exact e6
  ·simp only;rw[hO2,hP];exact e4
  ·simp only;rw[hO1,hP];have h5:A/2*2*(T*T)≤A*(T*T):=Nat.mul_le_mul_right _ (by omega);rw[Nat.mul_assoc] at h5;exact Nat.le_trans h5 e1
  ·simp only;rw[hO1,hP];have h5:(B+1)*(T*T)≤((B+1)/2+1)*2*(T*T):=Nat.mul_le_mul_right _ (by omega);rw[Nat.mul_assoc] at h5;exact Nat.le_trans e2 h5
 ·rw[if_neg hl] at hs
  by_cases hh:2*unit≤B+1
  ·rw[if_pos hh] at hs;cases hs
  ·rw[if_neg hh] at hs;cases hs
   have e7:unit*(P*P)<unit*(2*(T*T)):=by
    have hT:0<T*T:=by
     rcases Nat.eq_zero_or_pos (T*T) with h|h
     ·omega
     ·exact h
    calc unit*(P*P)≤(B+1)*(T*T):=e2
     _<2*unit*(T*T):=Nat.mul_lt_mul_of_pos_right (by omega) hT
     _=unit*(2*(T*T)):=by ac_rfl
   have e8:P*P<2*(T*T):=Nat.lt_of_mul_lt_mul_left e7;refine⟨⟨?_,?_⟩,?_,?_⟩
   ·simp only;rw[hO,hP];exact e3
   ·simp only;rw[hO1,hP];exact e8
   ·simp only;rw[hO,hP];exact e1
   ·simp only;rw[hO,hP];exact e2
theorem digs_inv(p more:Nat)(hp:0<p)(hm:p.log2≤more):∀ n s,digs p more n=some s→DigInv p (2^more) (2^n) s
 | 0,s,h=>by
  simp only[digs,Option.some.injEq] at h;subst h;refine⟨⟨?_,?_⟩,?_,?_⟩
  ·simp only[Nat.pow_zero,Nat.pow_one];exact Nat.log2_self_le (by omega)
  ·simp only[Nat.pow_zero,Nat.pow_one];exact Nat.lt_log2_self
  all_goals
   simp only[Nat.pow_zero,Nat.pow_one];rw[Nat.mul_assoc,← Nat.pow_add,Nat.sub_add_cancel hm,Nat.mul_comm];exact Nat.le_refl _
 | n+1,s,h=>by
  simp only[digs] at h;obtain⟨t,ht,hs⟩:=Option.bind_eq_some_iff.1 h;have:=digStep_inv (Nat.two_pow_pos more) (digs_inv p more hp hm n t ht) hs
  rw[Nat.pow_succ,Nat.mul_comm];exact this
theorem bitLen_log(p:Nat)(hp:0<p)(hp2:p≤97):Lib.bitLen p=p.log2+1:=by
 have key:∀ q,q<98→0<q→Lib.bitLen q=q.log2+1:=by decide +kernel
 exact key p (by omega) hp
end Go.Proofs.YtepicfdhphiiaaaGreatDoor

namespace Go.Proofs.YtepicfdhphiiaaaGreatDoor
def digIt (unit:Nat):Nat→Nat×Nat×Nat→Option (Nat×Nat×Nat)
 | 0,s=>some s
 | n+1,s=>(digStep unit s).bind (digIt unit n)
theorem digIt_snoc(unit:Nat):∀ (n:Nat) (s:Nat×Nat×Nat),digIt unit (n+1) s=(digIt unit n s).bind (digStep unit)
 | 0,s=>by simp[digIt]
 | n+1,s=>by
  show (digStep unit s).bind (digIt unit (n+1))=((digStep unit s).bind (digIt unit n)).bind (digStep unit)
  cases digStep unit s with
  | none=>rfl
  | some t=>exact digIt_snoc unit n t
theorem digs_it(p more:Nat):∀ n,digs p more n=digIt (2^more) n (p*2^(more-p.log2),p*2^(more-p.log2),p.log2)
 | 0=>rfl
 | n+1=>by rw[digIt_snoc,← digs_it p more n];rfl
theorem lgGo_it(unit:Nat):∀ (n lo hi out:Nat),LN.lgGo unit n lo hi out=(digIt unit n (lo,hi,out)).map fun s=>s.2.2
 | 0,_,_,_=>rfl
 | n+1,lo,hi,out=>by
  unfold LN.lgGo digIt digStep;simp only;split
  ·rw[lgGo_it unit n];rfl
  ·split
   ·rfl
   ·rw[lgGo_it unit n];rfl
theorem lg_digs(p n more:Nat):LN.lg p p.log2 n more=(digs p more n).map fun s=>s.2.2:=by
 rw[digs_it];exact lgGo_it _ _ _ _ _
structure Finer (u:Nat) (s t:Nat×Nat×Nat):Prop where
 lo:s.1*u≤t.1
 hi:t.2.1≤s.2.1*u
 out:t.2.2=s.2.2
 le:t.1≤t.2.1
theorem finer_step{unit u:Nat}(hu:0<u)(h0:0<unit){s t s':Nat×Nat×Nat}(h:Finer u s t)(hs:digStep unit s=some s'):∃ t',digStep (unit*u) t=some t'∧Finer u s' t':=by
 obtain⟨l,g,o⟩:=s;obtain⟨l2,g2,o2⟩:=t;obtain⟨hl,hg,ho,hle⟩:=h;simp only at hl hg ho hle;subst ho;have q1:l*l/unit*u≤l2*l2/(unit*u):=by
  rw[Nat.le_div_iff_mul_le (Nat.mul_pos h0 hu)];have a:=Nat.div_mul_le_self (l*l) unit
  calc l*l/unit*u*(unit*u)=(l*l/unit*unit)*(u*u):=by ac_rfl
   _≤l*l*(u*u):=Nat.mul_le_mul_right _ a
   _=(l*u)*(l*u):=by ac_rfl
   _≤_:=Nat.mul_le_mul hl hl
 have q2:g2*g2/(unit*u)+1≤(g*g/unit+1)*u:=by
  rw[Nat.add_one_le_iff,Nat.div_lt_iff_lt_mul (Nat.mul_pos h0 hu)];have a:=Nat.lt_div_mul_add (a:=g*g) h0;have b:g*g<(g*g/unit+1)*unit:=by rw[Nat.add_mul,Nat.one_mul];exact a
  calc g2*g2≤(g*u)*(g*u):=Nat.mul_le_mul hg hg
   _=g*g*(u*u):=by ac_rfl
   _<(g*g/unit+1)*unit*(u*u):=Nat.mul_lt_mul_of_pos_right b (Nat.mul_pos hu hu)
   _=_:=by ac_rfl
 have q3:l2*l2/(unit*u)≤g2*g2/(unit*u)+1:=Nat.le_succ_of_le (Nat.div_le_div_right (Nat.mul_le_mul hle hle));have e2:2*(unit*u)=2*unit*u:=by rw[Nat.mul_assoc]
 simp only[digStep] at hs ⊢;generalize l*l/unit=A at *;generalize g*g/unit+1=B at *;generalize l2*l2/(unit*u)=A2 at *;generalize g2*g2/(unit*u)+1=B2 at *
 by_cases h1:2*unit≤A
 ·rw[if_pos h1] at hs;cases hs
  have h2:2*(unit*u)≤A2:=by rw[e2];exact Nat.le_trans (Nat.mul_le_mul_right _ h1) q1
  rw[if_pos h2];refine⟨_,rfl,?_,?_,rfl,by simp only;omega⟩
  ·show A/2*u≤A2/2
   rw[Nat.le_div_iff_mul_le (by decide)]
   calc A/2*u*2=A/2*2*u:=by ac_rfl
    _≤A*u:=Nat.mul_le_mul_right _ (Nat.div_mul_le_self _ _)
    _≤_:=q1
  ·show B2/2+1≤(B/2+1)*u
   have h3:B2/2<(B/2+1)*u:=by
    rw[Nat.div_lt_iff_lt_mul (by decide)];have h4:B+1≤(B/2+1)*2:=by omega
    have h5:(B+1)*u≤(B/2+1)*2*u:=Nat.mul_le_mul_right _ h4;have h6:(B/2+1)*2*u=(B/2+1)*u*2:=by ac_rfl
    rw[Nat.add_mul] at h5;omega
   exact h3
 ·rw[if_neg h1] at hs
  by_cases h2:2*unit≤B
  ·rw[if_pos h2] at hs;cases hs
  ·rw[if_neg h2] at hs;cases hs
   have h3:B2<2*(unit*u):=by
    rw[e2];exact Nat.lt_of_le_of_lt q2 (Nat.mul_lt_mul_of_pos_right (by omega) hu)
   rw[if_neg (by omega),if_neg (by omega)];exact⟨_,rfl,q1,q2,rfl,q3⟩
theorem finer_it{unit u:Nat}(hu:0<u)(h0:0<unit):∀ (n:Nat) {s t s':Nat×Nat×Nat},Finer u s t→digIt unit n s=some s'→∃ t',digIt (unit*u) n t=some t'∧Finer u s' t'
 | 0,s,t,s',h,hs=>by cases hs;exact⟨t,rfl,h⟩
 | n+1,s,t,s',h,hs=>by
  obtain⟨m,h1,h2⟩:=Option.bind_eq_some_iff.1 hs;obtain⟨m',h3,h4⟩:=finer_step hu h0 h h1;obtain⟨t',h5,h6⟩:=finer_it hu h0 n h4 h2;exact⟨t',by show (digStep (unit*u) t).bind _=_;rw[h3];exact h5,h6⟩
theorem digs_more{p more m2 n:Nat}(hp:p.log2≤more)(hm:more≤m2){s:Nat×Nat×Nat}(h:digs p more n=some s):∃ t,digs p m2 n=some t∧t.2.2=s.2.2:=by
 rw[digs_it] at h ⊢;have e:(2:Nat)^m2=2^more*2^(m2-more):=by rw[← Nat.pow_add];congr 1;omega
 have e2:p*2^(m2-p.log2)=p*2^(more-p.log2)*2^(m2-more):=by rw[Nat.mul_assoc,← Nat.pow_add];congr 2;omega
 obtain⟨t,h1,h2⟩:=finer_it (Nat.two_pow_pos (m2-more)) (Nat.two_pow_pos more) n (s:=(p*2^(more-p.log2),p*2^(more-p.log2),p.log2)) (t:=(p*2^(m2-p.log2),p*2^(m2-p.log2),p.log2)) ⟨by rw[e2];exact Nat.le_refl _,by rw[e2];exact Nat.le_refl _,rfl,Nat.le_refl _⟩ h;rw[e];exact⟨t,h1,h2.out⟩
theorem digs_fewer{p more:Nat}:∀ {n m:Nat},m≤n→(digs p more n).isSome=true→(digs p more m).isSome=true
 | 0,m,h,hs=>by rw[Nat.le_zero.1 h];exact hs
 | n+1,m,h,hs=>by
  rcases Nat.lt_or_eq_of_le h with h|h
  ·refine digs_fewer (Nat.lt_succ_iff.1 h) ?_;cases hd:digs p more n with
   | none=>rw[digs,hd] at hs;cases hs
   | some s=>rfl
  ·rw[h];exact hs
theorem digs_some_of_lg{p n more:Nat}(h:(LN.lg p p.log2 n more).isSome=true):(digs p more n).isSome=true:=by
 rw[lg_digs] at h
 simpa using h
def oddP:List Nat:=[3,5,7,11,13,17,19,23,29,31,37,41,43,47,53,59,61,67,71,73,79,83,89,97]
theorem lg_all:oddP.all (fun p=>(LN.lg p p.log2 1056 1120).isSome)=true:=by decide +kernel
theorem oddP_log{p:Nat}(h:p∈oddP):p.log2≤6:=by
 have:∀ q∈oddP,q.log2≤6:=by decide
 exact this p h
theorem oddP_odd{p:Nat}(h:p∈oddP):p%2=1∧3≤p∧p≤97:=by
 have:∀ q∈oddP,q%2=1∧3≤q∧q≤97:=by decide
 exact this p h
theorem digs_ok{p n more:Nat}(hp:p∈oddP)(hn:n≤1056)(hm:1120≤more):(digs p more n).isSome=true:=by
 have h:=lg_all;rw[List.all_eq_true] at h;have h1:=digs_fewer (m:=n) hn (digs_some_of_lg (h p hp));have hl:=oddP_log hp;obtain⟨s,hs⟩:=Option.isSome_iff_exists.1 h1;obtain⟨t,ht,_⟩:=digs_more (m2:=more) (by omega) (by omega) hs;rw[ht];rfl
theorem isLg_one{p N a b:Nat}(h1:IsLg p N a)(h2:IsLg p N b):a=b:=by
 have e1:2^a<2^(b+1):=Nat.lt_of_le_of_lt h1.1 h2.2;have e2:2^b<2^(a+1):=Nat.lt_of_le_of_lt h2.1 h1.2;have f1:=(Nat.pow_lt_pow_iff_right (by decide)).1 e1;have f2:=(Nat.pow_lt_pow_iff_right (by decide)).1 e2;omega
def lgN (p:Int) (n:Nat):Nat:=if p=2 then 2^n else match digs p.toNat 1120 n with
 | some s=>s.2.2
 | none=>0
theorem digs_lgN{p n more:Nat}(hp:p∈oddP)(hn:n≤1056)(hm:6≤more){s:Nat×Nat×Nat}(h:digs p more n=some s):s.2.2=lgN p n:=by
 have hl:=oddP_log hp;have ho:=oddP_odd hp;have h1:=(digs_inv p more (by omega) (by omega) n s h).lg;obtain⟨t,ht⟩:=Option.isSome_iff_exists.1 (digs_ok hp hn (Nat.le_refl 1120));have h2:=(digs_inv p 1120 (by omega) (by omega) n t ht).lg;have e:lgN p n=t.2.2:=by
  unfold lgN;rw[if_neg (by omega),Int.toNat_natCast,ht]
 rw[e];exact isLg_one h1 h2
theorem lgN_two(n:Nat):lgN 2 n=2^n:=by unfold lgN;rw[if_pos rfl]
end Go.Proofs.YtepicfdhphiiaaaGreatDoor

namespace Go.Proofs.YtepicfdhphiiaaaGreatDoor
open Go.RowKit
theorem num_two{x K:Nat}(h:x<2^K)(hK:K<100000):Num x:=by
 unfold Num;have h1:(dec x).size≤K+1:=by
  rw[size_lt _ _ (by omega)];exact Nat.lt_of_lt_of_le h (Nat.le_trans (Nat.pow_le_pow_left (by decide) K) (Nat.pow_le_pow_right (by decide) (by omega)))
 omega
end Go.Proofs.YtepicfdhphiiaaaGreatDoor

namespace Go.Proofs.YtepicfdhphiiaaaGreatDoor.LN
def sg (x:Rat):Int:=if 1<x then 1 else if x<1 then -1 else 0
theorem one_le_mul{x y:Rat}(hx:1≤x)(hy:1≤y):1≤x*y:=by
 have h:=Rat.mul_le_mul_of_nonneg_left hy (show 0≤x by grind);rw[Rat.mul_one] at h;exact Rat.le_trans hx h
theorem one_lt_mul{x y:Rat}(hx:1<x)(hy:1≤y):1<x*y:=by
 have h:=Rat.mul_le_mul_of_nonneg_left hy (show 0≤x by grind);rw[Rat.mul_one] at h
 grind
theorem pow_one_le{x:Rat}(hx:1≤x):∀ m:Nat,1≤x^m
 | 0=>by rw[Rat.pow_zero];exact Rat.le_refl
 | m+1=>by rw[Rat.pow_succ];exact one_le_mul (pow_one_le hx m) hx
theorem pow_one_lt{x:Rat}(hx:1<x)(m:Nat)(hm:0<m):1<x^m:=by
 obtain⟨k,rfl⟩:=Nat.exists_eq_succ_of_ne_zero (by omega:m≠0);rw[Rat.pow_succ,Rat.mul_comm];exact one_lt_mul hx (pow_one_le (by grind) k)
def vp:List Int→List Int→Rat
 | p::ps,k::ks=>(p:Rat)^k*vp ps ks
 | _,_=>1
theorem natCast_pow(a n:Nat):((a^n:Nat):Rat)=(a:Rat)^n:=by
 induction n with
 | zero=>rw[Nat.pow_zero,Rat.pow_zero];rfl
 | succ n ih=>rw[Nat.pow_succ,Rat.pow_succ,Rat.natCast_mul,ih]
theorem mkRat_den'(n:Int)(d:Nat)(h:d≠0):(mkRat n d).den=d/Nat.gcd n.natAbs d:=by
 rw[← Rat.normalize_eq_mkRat h,Rat.den_normalize]
theorem mul_den'(q:Rat):q*(q.den:Rat)=(q.num:Rat):=by
 have h:mkRat q.num q.den=(q.num:Rat)/((q.den:Nat):Rat):=Rat.mkRat_eq_div _ _;rw[Rat.mkRat_self] at h;have h2:((q.den:Nat):Rat)≠0:=by have:=Rat.natCast_pos.2 q.den_pos;grind
 have h3:=Rat.div_mul_cancel (a:=(q.num:Rat)) h2;rw[← h] at h3;exact h3
def ex (D:Nat) (q:Rat):Int:=q.num*((D/q.den:Nat):Int)
theorem ex_eq{D:Nat}{q:Rat}(h:q.den ∣ D):(ex D q:Rat)=q*(D:Rat):=by
 obtain⟨m,rfl⟩:=h;unfold ex;rw[Nat.mul_div_cancel_left _ q.den_pos,Rat.intCast_mul,Rat.intCast_natCast,Rat.natCast_mul];have h1:=mul_den' q
 grind
theorem ex_mul{D m:Nat}{a:Rat}(ha:a.den ∣ D):ex (m*D) a=(m:Int)*ex D a:=by
 have:a.den ∣ m*D:=Nat.dvd_trans ha (Nat.dvd_mul_left ..)
 rw[← Rat.intCast_inj,Rat.intCast_mul,ex_eq ha,ex_eq this,Rat.natCast_mul,Rat.intCast_natCast]
 grind
theorem tden_go(l:List Rat):∀ d:Nat,d ∣ l.foldl (fun d q=>Nat.lcm d q.den) d∧∀ q∈l,q.den ∣ l.foldl (fun d q=>Nat.lcm d q.den) d:=by
 induction l with
 | nil=>intro d;exact⟨Nat.dvd_refl _,by simp⟩
 | cons a l ih =>
  intro d;obtain⟨h1,h2⟩:=ih (Nat.lcm d a.den);refine⟨Nat.dvd_trans (Nat.dvd_lcm_left ..) h1,fun q hq=>?_⟩;rcases List.mem_cons.1 hq with rfl|hq
  ·exact Nat.dvd_trans (Nat.dvd_lcm_right ..) h1
  ·exact h2 q hq
theorem tden_dvd{l:List Rat}{q:Rat}(h:q∈l):q.den ∣ tden l:=(tden_go l 1).2 q h
theorem tden_least(l:List Rat):∀ (D d:Nat),d ∣ D→(∀ q∈l,q.den ∣ D)→l.foldl (fun d q=>Nat.lcm d q.den) d ∣ D:=by
 induction l with
 | nil=>intro D d h _;exact h
 | cons a l ih =>
  intro D d h h2;exact ih D _ (Nat.lcm_dvd h (h2 a List.mem_cons_self)) fun q hq=>h2 q (List.mem_cons_of_mem _ hq)
theorem tden_min{l:List Rat}{D:Nat}(h:∀ q∈l,q.den ∣ D):tden l ∣ D:=tden_least l D 1 (Nat.one_dvd _) h
theorem tden_pos'(l:List Rat):0<tden l:=by
 have:∀ (l:List Rat) (d:Nat),0<d→0<l.foldl (fun d q=>Nat.lcm d q.den) d:=by
  intro l
  induction l with
  | nil=>intro d h;exact h
  | cons a l ih=>intro d h;exact ih _ (Nat.lcm_pos h a.den_pos)
 exact this l 1 Nat.one_pos
def sz (ps:List Int) (l:List Rat):Int:=signT (tlist (tden l) ps l)
end Go.Proofs.YtepicfdhphiiaaaGreatDoor.LN

namespace Go.Proofs.YtepicfdhphiiaaaGreatDoor.LN
theorem zpow_nat_mul{x:Rat}(hx:x≠0)(a:Int):∀ n:Nat,(x^a)^n=x^(a*n)
 | 0=>by simp
 | n+1=>by
  rw[Rat.pow_succ,zpow_nat_mul hx a n,← Rat.zpow_add hx];congr 1;rw[Int.natCast_add,Int.mul_add];simp
theorem zpow_mul'{x:Rat}(hx:x≠0)(a b:Int):(x^a)^b=x^(a*b):=by
 rcases Int.eq_nat_or_neg b with⟨n,rfl|rfl⟩
 ·rw[Rat.zpow_natCast,zpow_nat_mul hx]
 ·rw[Rat.zpow_neg,Rat.zpow_natCast,zpow_nat_mul hx,← Rat.zpow_neg];congr 1;rw[Int.mul_neg]
theorem two_ne:(2:Rat)≠0:=by decide
theorem two_zpow_one_lt{a:Int}(h:0<a):(1:Rat)<2^a:=by
 obtain⟨n,rfl⟩:=Int.eq_ofNat_of_zero_le (Int.le_of_lt h);rw[Rat.zpow_natCast];exact pow_one_lt (by decide) n (by omega)
theorem two_zpow_lt_one{a:Int}(h:a<0):(2:Rat)^a<1:=by
 have h1:=two_zpow_one_lt (a := -a) (by omega);have h2:(2:Rat)^a*2^(-a)=1:=by rw[← Rat.zpow_add two_ne];simp[Int.add_right_neg]
 have h3:(0:Rat)<2^a:=Rat.zpow_pos (by decide);refine Rat.not_le.1 fun h4=>?_
 have h5:=Rat.mul_le_mul_of_nonneg_right h4 (c:=2^(-a)) (by grind)
 grind
theorem pow_le_pow'{x y:Rat}(h0:0<x)(h:x≤y):∀ n:Nat,x^n≤y^n
 | 0=>by rw[Rat.pow_zero,Rat.pow_zero];exact Rat.le_refl
 | n+1=>by
  have ih:=pow_le_pow' h0 h n;rw[Rat.pow_succ,Rat.pow_succ];have h1:=Rat.mul_le_mul_of_nonneg_right ih (c:=x) (by grind);have h2:=Rat.mul_le_mul_of_nonneg_left h (c:=y^n) (Rat.le_of_lt (Rat.pow_pos (by grind)));exact Rat.le_trans h1 h2
theorem inv_le_inv{x y:Rat}(h0:0<x)(h:x≤y):y⁻¹≤x⁻¹:=by
 have hy:0<y:=by grind
 have h1:=Rat.inv_pos.2 h0;have h2:=Rat.inv_pos.2 hy;have e1:=Rat.mul_inv_cancel x (by grind);have e2:=Rat.mul_inv_cancel y (by grind);have h3:=Rat.mul_le_mul_of_nonneg_right h (c:=x⁻¹ * y⁻¹) (Rat.le_of_lt (Rat.mul_pos h1 h2));have e3:x*(x⁻¹ * y⁻¹)=y⁻¹:=by rw[← Rat.mul_assoc,e1,Rat.one_mul]
 have e4:y*(x⁻¹ * y⁻¹)=x⁻¹:=by rw[Rat.mul_comm x⁻¹,← Rat.mul_assoc,e2,Rat.one_mul]
 rw[e3,e4] at h3;exact h3
theorem zpow_le_zpow_neg{x y:Rat}(h0:0<x)(h:x≤y){j:Int}(hj:j≤0):y^j≤x^j:=by
 obtain⟨n,hn⟩:=Int.eq_ofNat_of_zero_le (a := -j) (by omega);have e:j = -(n:Int):=by omega
 rw[e,Rat.zpow_neg,Rat.zpow_neg,Rat.zpow_natCast,Rat.zpow_natCast];exact inv_le_inv (Rat.pow_pos h0) (pow_le_pow' h0 h n)
structure Btw (v:Rat) (a b:Int):Prop where
 pos:0<v
 lo:2^a≤v
 hi:v≤2^b
theorem Btw.inv{v:Rat}{a b:Int}(h:Btw v a b):Btw v⁻¹ (-b) (-a):=by
 refine⟨Rat.inv_pos.2 h.pos,?_,?_⟩
 ·rw[Rat.zpow_neg];exact inv_le_inv h.pos h.hi
 ·rw[Rat.zpow_neg];exact inv_le_inv (Rat.zpow_pos (by decide)) h.lo
theorem Btw.zpow_neg{v:Rat}{a b:Int}(h:Btw v a b){j:Int}(hj:j≤0):Btw (v^j) (j*b) (j*a):=by
 refine⟨Rat.zpow_pos h.pos,?_,?_⟩
 ·rw[Int.mul_comm,← zpow_mul' two_ne];exact zpow_le_zpow_neg h.pos h.hi hj
 ·rw[Int.mul_comm,← zpow_mul' two_ne];exact zpow_le_zpow_neg (Rat.zpow_pos (by decide)) h.lo hj
theorem Btw.mul{v u:Rat}{a b c d:Int}(h:Btw v a b)(k:Btw u c d):Btw (v*u) (a+c) (b+d):=by
 refine⟨Rat.mul_pos h.pos k.pos,?_,?_⟩
 ·rw[Rat.zpow_add two_ne];have h1:=Rat.mul_le_mul_of_nonneg_right h.lo (c:=2^c) (Rat.le_of_lt (Rat.zpow_pos (by decide)));have h2:=Rat.mul_le_mul_of_nonneg_left k.lo (c:=v) (Rat.le_of_lt h.pos);exact Rat.le_trans h1 h2
 ·rw[Rat.zpow_add two_ne];have h1:=Rat.mul_le_mul_of_nonneg_right h.hi (c:=u) (Rat.le_of_lt k.pos);have h2:=Rat.mul_le_mul_of_nonneg_left k.hi (c:=2^b) (Rat.le_of_lt (Rat.zpow_pos (by decide)));exact Rat.le_trans h1 h2
theorem Btw.lt{v:Rat}{a b:Int}(h:Btw v a b)(hb:b<0):v<1:=by
 have:=two_zpow_lt_one hb
 have:=h.hi
 grind
def eLo (f:Int→Nat) (l:List (Int×Int)):Int:=(l.map fun x=>if x.2<0 then x.2*(hiL f x.1:Int) else x.2*(f x.1:Int)).sum
def eHi (f:Int→Nat) (l:List (Int×Int)):Int:=(l.map fun x=>if x.2<0 then x.2*(f x.1:Int) else x.2*(hiL f x.1:Int)).sum
theorem term_split(k:Int)(a b:Nat):(if k<0 then k*(b:Int) else k*(a:Int))=((k.toNat*a:Nat):Int)-(((-k).toNat*b:Nat):Int):=by
 by_cases h:k<0
 ·rw[if_pos h,show k.toNat=0 by omega];have e:((-k).toNat:Int) = -k:=Int.toNat_of_nonneg (by omega);rw[Int.natCast_mul,Int.natCast_mul,e]
  grind
 ·rw[if_neg h,show (-k).toNat=0 by omega];have e:(k.toNat:Int)=k:=Int.toNat_of_nonneg (by omega);rw[Int.natCast_mul,Int.natCast_mul,e]
  grind
theorem eLo_eq(f:Int→Nat):∀ l:List (Int×Int),eLo f l=(loS f l:Int)-(hiS f (negT l):Int)
 | []=>rfl
 | x::l=>by
  have ih:=eLo_eq f l;unfold eLo at ih ⊢;have e:negT (x::l)=(x.1,-x.2)::negT l:=rfl;rw[List.map_cons,List.sum_cons,ih,e,loS,hiS,term_split]
  dsimp only
  omega
theorem eHi_eq(f:Int→Nat):∀ l:List (Int×Int),eHi f l=(hiS f l:Int)-(loS f (negT l):Int)
 | []=>rfl
 | x::l=>by
  have ih:=eHi_eq f l;unfold eHi at ih ⊢;have e:negT (x::l)=(x.1,-x.2)::negT l:=rfl;rw[List.map_cons,List.sum_cons,ih,e,hiS,loS,term_split]
  dsimp only
  omega
end Go.Proofs.YtepicfdhphiiaaaGreatDoor.LN

namespace Go.Proofs.YtepicfdhphiiaaaGreatDoor
open Go.RowKit Go.Shelf
attribute [local go_sem] Oper.semAt_some
def lgA (p:Int):Int:=match digs p.toNat 62 26 with
 | some s=>s.2.2
 | none=>0
def lgB (p:Int):Int:=if p=2 then lgA p else lgA p+1
def okT (most:Int) (x:Int×Int):Prop:=(-most≤x.2∧x.2≤most)∧(digs x.1.toNat 62 26).isSome=true
instance (most:Int) (x:Int×Int):Decidable (okT most x):=by unfold okT;infer_instance
def lowT (tl:List (Int×Int)):Int:=(tl.map fun x=>min (x.2*lgA x.1) (x.2*lgB x.1)).sum
def highT (tl:List (Int×Int)):Int:=(tl.map fun x=>max (x.2*lgA x.1) (x.2*lgB x.1)).sum
theorem one_cell{w:World}{g:Nat}{a:Value}{t:TypeId}(h:w.heap[g]?=some (.cells #[a] t (0,0))):w.cell? ⟨g,0,none⟩=some a∧w.frozen? ⟨g,0,none⟩=false :=
 ⟨by rw[cell_of_row w g 0 _ t (0,0) h];rfl,by simp[World.frozen?,h]⟩
theorem heap_old{w:World}{g:Nat}{o:Obj}(h:w.heap[g]?=some o)(o':Obj):(w.alloc o').heap[g]?=some o:=by
 exact(Below.heap_alloc w o' g (Array.getElem?_eq_some_iff.1 h).1).trans h
theorem heap_at(w:World)(c:Array Value)(t:TypeId)(k:Nat)(hk:w.heap.size=k):(w.alloc (.cells c t)).heap[k]?=some (.cells c t (0,0)):=by
 subst hk;exact Go.heap_alloc_new w _
structure NearI (B:Nat) (most:Int) (l:List (Int×Int)) (W:World):Prop where
 c3:W.cell? ⟨B+1,0,none⟩=some (.int .i64 most)
 c4:W.cell? ⟨B+1+1,0,none⟩=some (.int .i64 (lowT l))
 c5:W.cell? ⟨B+1+1+1,0,none⟩=some (.int .i64 (highT l))
 c6:W.cell? ⟨B+1+1+1+1,0,none⟩=some (.bool false)
 f4:W.frozen? ⟨B+1+1,0,none⟩=false
 f5:W.frozen? ⟨B+1+1+1,0,none⟩=false
 f6:W.frozen? ⟨B+1+1+1+1,0,none⟩=false
 sz:B+5<W.heap.size
 ok:∀ x∈l,okT most x
structure NearX (B:Nat) (W:World):Prop where
 c4:W.cell? ⟨B+1+1,0,none⟩=some (.int .i64 0)
 c5:W.cell? ⟨B+1+1+1,0,none⟩=some (.int .i64 0)
 c6:W.cell? ⟨B+1+1+1+1,0,none⟩=some (.bool false)
theorem NearI.below{B:Nat}{most:Int}{l:List (Int×Int)}{W W':World}(h:NearI B most l W)(hb:Below W.heap.size W W'):NearI B most l W' :=
 ⟨(hb.cell (block_lt_of_cell h.c3)).trans h.c3,(hb.cell (block_lt_of_cell h.c4)).trans h.c4,(hb.cell (block_lt_of_cell h.c5)).trans h.c5,(hb.cell (block_lt_of_cell h.c6)).trans h.c6,
  (hb.frozen (block_lt_of_cell h.c4)).trans h.f4,(hb.frozen (block_lt_of_cell h.c5)).trans h.f5,(hb.frozen (block_lt_of_cell h.c6)).trans h.f6,Nat.lt_of_lt_of_le h.sz hb.size,h.ok⟩
theorem NearI.kept{B:Nat}{most:Int}{l:List (Int×Int)}{W W':World}{row:Option Nat}(h:NearI B most l W)(hg:W.grownBy W' row)(hr:∀ r,row=some r→∃ o:Obj,W.heap[r]?=some o∧o.isCells=false):NearI B most l W' :=
 ⟨cell_kept h.c3 hg hr,cell_kept h.c4 hg hr,cell_kept h.c5 hg hr,cell_kept h.c6 hg hr,(frozen_kept h.c4 hg hr).trans h.f4,(frozen_kept h.c5 hg hr).trans h.f5,(frozen_kept h.c6 hg hr).trans h.f6,Nat.lt_of_lt_of_le h.sz hg.size,h.ok⟩
theorem NearX.kept{B:Nat}{W W':World}{row:Option Nat}(h:NearX B W)(hg:W.grownBy W' row)(hr:∀ r,row=some r→∃ o:Obj,W.heap[r]?=some o∧o.isCells=false):NearX B W' :=
 ⟨cell_kept h.c4 hg hr,cell_kept h.c5 hg hr,cell_kept h.c6 hg hr⟩
theorem NearI.stored{B:Nat}{most:Int}{l l':List (Int×Int)}{W:World}(h:NearI B most l W){v5 v6:Int}(h5:lowT l'=v5)(h6:highT l'=v6)(ok:∀ x∈l',okT most x):
  NearI B most l' ((W.setCell ⟨B+1+1,0,none⟩ (.int .i64 v5)).setCell ⟨B+1+1+1,0,none⟩ (.int .i64 v6)):=by
 refine⟨?_,?_,?_,?_,?_,?_,?_,?_,ok⟩
 ·rw[World.cell?_setCell_other _ _ _ _ (by simp),World.cell?_setCell_other _ _ _ _ (by simp)];exact h.c3
 ·rw[World.cell?_setCell_other _ _ _ _ (by simp),World.cell?_setCell_same _ _ _ h.c4,h5]
 ·rw[World.cell?_setCell_same _ _ _ (by rw[World.cell?_setCell_other _ _ _ _ (by simp)];exact h.c5),h6]
 ·rw[World.cell?_setCell_other _ _ _ _ (by simp),World.cell?_setCell_other _ _ _ _ (by simp)];exact h.c6
 ·rw[World.frozen?_setCell,World.frozen?_setCell];exact h.f4
 ·rw[World.frozen?_setCell,World.frozen?_setCell];exact h.f5
 ·rw[World.frozen?_setCell,World.frozen?_setCell];exact h.f6
 ·have:=h.sz;simpa using this
end Go.Proofs.YtepicfdhphiiaaaGreatDoor

namespace Go.Proofs.YtepicfdhphiiaaaGreatDoor
open Go.RowKit
structure TermsAt (w:World) (tl:List (Int×Int)) (b1:Option Addr) (b2:Option Addr):Prop where
 r1:Rd w b1 (ints (tl.map Prod.fst))
 r2:Rd w b2 (strs (tl.map fun x=>itx x.2))
 len:tl.length≤1000
 p:∀ x∈tl,2≤x.1∧x.1≤97
 z:∀ x∈tl,ZNum x.2
theorem TermsAt.below{w w':World}{tl:List (Int×Int)}{b1 b2:Option Addr}(h:TermsAt w tl b1 b2)(hb:Below w.heap.size w w'):TermsAt w' tl b1 b2 :=
 ⟨h.r1.below hb nr_,h.r2.below hb nr_,h.len,h.p,h.z⟩
end Go.Proofs.YtepicfdhphiiaaaGreatDoor

namespace Go.Proofs.YtepicfdhphiiaaaGreatDoor
open Go.RowKit Go.Shelf
attribute [local go_sem] Oper.semAt_some
def lf (n:Nat):Int→Nat:=fun p=>lgN p n
structure EndI (B:Nat) (n:Int) (slo shi:ByteArray) (W:World):Prop where
 c3:W.cell? ⟨B+1,0,none⟩=some (.int .i64 n)
 c4:W.cell? ⟨B+1+1,0,none⟩=some (.string slo)
 c5:W.cell? ⟨B+1+1+1,0,none⟩=some (.string shi)
 f4:W.frozen? ⟨B+1+1,0,none⟩=false
 f5:W.frozen? ⟨B+1+1+1,0,none⟩=false
 sz:B+4<W.heap.size
theorem EndI.below{B:Nat}{n:Int}{slo shi:ByteArray}{W W':World}(h:EndI B n slo shi W)(hb:Below W.heap.size W W'):EndI B n slo shi W' :=
 ⟨(hb.cell (block_lt_of_cell h.c3)).trans h.c3,(hb.cell (block_lt_of_cell h.c4)).trans h.c4,(hb.cell (block_lt_of_cell h.c5)).trans h.c5,
  (hb.frozen (block_lt_of_cell h.c4)).trans h.f4,(hb.frozen (block_lt_of_cell h.c5)).trans h.f5,Nat.lt_of_lt_of_le h.sz hb.size⟩
theorem EndI.kept{B:Nat}{n:Int}{slo shi:ByteArray}{W W':World}{row:Option Nat}(h:EndI B n slo shi W)(hg:W.grownBy W' row)(hr:∀ r,row=some r→∃ o:Obj,W.heap[r]?=some o∧o.isCells=false):EndI B n slo shi W' :=
 ⟨cell_kept h.c3 hg hr,cell_kept h.c4 hg hr,cell_kept h.c5 hg hr,(frozen_kept h.c4 hg hr).trans h.f4,(frozen_kept h.c5 hg hr).trans h.f5,Nat.lt_of_lt_of_le h.sz hg.size⟩
theorem EndI.stored{B:Nat}{n:Int}{slo shi:ByteArray}{W:World}(h:EndI B n slo shi W)(s t:ByteArray):
  EndI B n s t ((W.setCell ⟨B+1+1,0,none⟩ (.string s)).setCell ⟨B+1+1+1,0,none⟩ (.string t)):=by
 refine⟨?_,?_,?_,?_,?_,?_⟩
 ·rw[World.cell?_setCell_other _ _ _ _ (by simp),World.cell?_setCell_other _ _ _ _ (by simp)];exact h.c3
 ·rw[World.cell?_setCell_other _ _ _ _ (by simp),World.cell?_setCell_same _ _ _ h.c4]
 ·rw[World.cell?_setCell_same _ _ _ (by rw[World.cell?_setCell_other _ _ _ _ (by simp)];exact h.c5)]
 ·rw[World.frozen?_setCell,World.frozen?_setCell];exact h.f4
 ·rw[World.frozen?_setCell,World.frozen?_setCell];exact h.f5
 ·rw[World.size_setCell,World.size_setCell];exact h.sz
def PrT (tl:List (Int×Int)):Prop:=∀ x∈tl,∃ q:Nat,x.1=q∧(q=2∨q∈oddP)
theorem EndI.cast{B:Nat}{n:Int}{s s' t t':ByteArray}{W:World}(h:EndI B n s t W)(e1:s'=s)(e2:t'=t):EndI B n s' t' W:=by subst e1;subst e2;exact h
end Go.Proofs.YtepicfdhphiiaaaGreatDoor

namespace Go.Proofs.YtepicfdhphiiaaaGreatDoor
open Go.RowKit
theorem textR(w:World)(a:Rat)(hs:Sm 400 a):
  Gives Tryz.prog 94 #[fr a] w (.string (if a.den=1 then itx a.num else itx a.num++⟨#[47]⟩++dec a.den)):=by
 unfold Gives fr fv;have Hb0:=hd_ ((Below.refl w.heap.size w).alloc nr_ (.cells #[.string (itx a.num),.string (dec a.den)] 103));obtain⟨k0,k1,-,-⟩:=two_cells (heap_at w #[.string (itx a.num),.string (dec a.den)] 103 w.heap.size rfl);have ho:=is_one a.den;have z1:(itx a.num).size≤401:=by
  have h1:=itx_size_le a.num;have h2:=(size_lt _ 400 (by decide)).2 hs.1;omega
 have z2:(dec a.den).size≤400:=(size_lt _ 400 (by decide)).2 hs.2
 by_cases h1:a.den=1
 ·rw[if_pos h1];rw[decide_eq_true h1] at ho;clear h1 hs;generalize itx a.num=s at *;generalize dec a.den=t at *;go_enter Tryz.func94,Tryz.ntmps94;go_wp2;go_ret;exact⟨rfl,Hb0.out⟩
 ·rw[if_neg h1];rw[decide_eq_false h1] at ho;clear h1 hs;generalize itx a.num=s at *;generalize dec a.den=t at *;have z3:(s++⟨#[47]⟩).size≤402:=by rw[ByteArray.size_append];show s.size+1≤402;omega
  have a1:∀ W,(Op.stringOp .add s ⟨#[47]⟩).run Tryz.prog W = .ok (.string (s++⟨#[47]⟩)) W:=fun W=>run_string_add W _ _ (by omega) (by decide)
  have a2:∀ W,(Op.stringOp .add (s++⟨#[47]⟩) t).run Tryz.prog W = .ok (.string (s++⟨#[47]⟩++t)) W:=fun W=>run_string_add W _ _ (by omega) (by omega)
  go_enter Tryz.func94,Tryz.ntmps94;go_wp2;go_ret;exact⟨rfl,Hb0.out⟩
theorem tlist_mem{D:Nat}{ps:List Int}{l:List Rat}{x:Int×Int}(hx:x∈tlist D ps l):x.1∈ps∧∃ q∈l,q.num≠0∧x.2=q.num*((D/q.den:Nat):Int):=by
 unfold tlist at hx;obtain⟨y,hy,he⟩:=List.mem_filterMap.1 hx;have h1:=(List.of_mem_zip hy).1;have h2:=(List.of_mem_zip hy).2
 by_cases h:y.2.num=0
 ·rw[if_pos h] at he;cases he
 ·rw[if_neg h] at he;simp only[Option.some.injEq] at he;subst he;exact⟨h1,y.2,h2,h,rfl⟩
def tlQ (ps:List Int) (l:List Rat):List (Int×Int):=tlist (tden l) ps l
theorem rd_obj{w:World}{g:Nat}{cs:Array Value}{t:TypeId}(h:w.heap[g]?=some (.cells cs t (0,0))):Rd w (some ⟨g,0,none⟩) cs.toList:=by
 refine .inr ⟨g,0,rfl,(Array.getElem?_eq_some_iff.1 h).1,fun i v hi=>?_⟩;rw[Nat.zero_add,cell_of_row w g i _ t (0,0) h,← Array.getElem?_toList];exact hi
structure SizeOk (w:World) (ps:List Int) (a0 a:Option Addr) (l:List Rat) (D:Nat):Prop where
 rp:Rd w a0 (ints ps)
 rl:Rd w a (cellsQ l)
 len:l.length=ps.length
 n:ps.length≤100
 pr:∀ p∈ps,2≤p∧p≤97
 sm:∀ q∈l,Sm D q
 d:D≤1000
theorem SizeOk.below{w w':World}{ps:List Int}{a0 a:Option Addr}{l:List Rat}{D:Nat}(h:SizeOk w ps a0 a l D)(hb:Below w.heap.size w w'):SizeOk w' ps a0 a l D :=
 ⟨h.rp.below hb nr_,h.rl.below hb nr_,h.len,h.n,h.pr,h.sm,h.d⟩
theorem SizeOk.i64{w:World}{ps:List Int}{a0 a:Option Addr}{l:List Rat}{D:Nat}(h:SizeOk w ps a0 a l D):I64s ps:=fun x hx=>by have:=h.pr x hx;omega
theorem heap_kept{w w':World}{B g:Nat}{o:Obj}(h:w.heap[g]?=some o)(hb:Below B w w')(hB:w.heap.size≤B):w'.heap[g]?=some o :=
 (hb.block g (Nat.lt_of_lt_of_le (Array.getElem?_eq_some_iff.1 h).1 hB)).trans h
theorem Sm.one:Sm 1 1:=⟨by decide,by decide⟩
structure TrT (tl:List (Int×Int)):Prop where
 p:PrT tl
 nz:∀ x∈tl,x.2≠0
 nd:(tl.map Prod.fst).Nodup
def Dec (tl:List (Int×Int)):Prop:=0≤LN.eLo (lf 1024) tl∨LN.eHi (lf 1024) tl≤0
theorem itx_size(z:Int)(D:Nat)(hD:0<D)(h:z.natAbs<10^D):(itx z).size≤D+1:=by
 have h1:=(size_lt z.natAbs D hD).2 h;have h2:=itx_size_le z;omega
theorem SizeOk.le{w:World}{ps:List Int}{a0 a:Option Addr}{l:List Rat}{D E:Nat}(h:SizeOk w ps a0 a l D)(hE:D≤E)(h1:E≤1000):SizeOk w ps a0 a l E :=
 ⟨h.rp,h.rl,h.len,h.n,h.pr,fun q hq=>(h.sm q hq).le hE,h1⟩
theorem Sm.inv{D:Nat}{q:Rat}(h:Sm D q)(_:0<D):Sm D q⁻¹:=by
 have e:q⁻¹=Rat.inv q:=rfl;have h1:=h.1;have h2:=h.2;rw[e];unfold Rat.inv;split
 ·refine⟨?_,h.1⟩
  show (-(q.den:Int)).natAbs<_
  omega
 ·split
  ·exact⟨by show ((q.den:Nat):Int).natAbs<_;omega,h.1⟩
  ·exact h
structure BW (W:World) where
 w:World
 b:Below W.heap.size W w
theorem BW.cell{W:World}{p:Addr}{v:Value}(h:W.cell? p=some v)(q:BW W):q.w.cell? p=some v:=(q.b.cell (block_lt_of_cell h)).trans h
theorem Sm.two:Sm 1 2:=⟨by decide,by decide⟩
theorem num2:(2:Rat).num=2:=rfl
end Go.Proofs.YtepicfdhphiiaaaGreatDoor

namespace Go.Proofs.YtepicfdhphiiaaaGreatDoor
open Go.RowKit Go.Shelf
def laysJ_ren:Go.Shelf.Ren:=Tryz.lays156_ren
theorem laysJ:Go.Proofs.Lays.n156 Tryz.prog laysJ_ren:=Tryz.lays156
theorem extraJ:Go.Proofs.Builder.Extra Tryz.prog laysJ_ren:=Tryz.Builder_Extra_156
end Go.Proofs.YtepicfdhphiiaaaGreatDoor

namespace Go.Proofs.YtepicfdhphiiaaaGreatDoor
open Go.RowKit
theorem infoStr:(Tryz.prog.info? 9).map (fun i=>(i.zero,i.size,i.bytes))=some (some (.string ⟨#[]⟩),1,16):=by kernel_rfl
theorem elStr:ElemOf Tryz.prog 132 9 (.string ⟨#[]⟩) 1 16:=⟨Tryz.underlying132,info_parts infoStr,rfl,by decide⟩
theorem join_le(xs:List ByteArray)(sep:List UInt8)(B:Nat)(h:∀ x∈xs,x.size≤B):(Lib.join (xs.map (·.data.toList)) sep).length≤xs.length*(B+sep.length):=by
 have hl:∀ ys:List ByteArray,(∀ x∈ys,x.size≤B)→Lib.lens (ys.map (·.data.toList))≤ys.length*B:=by
  intro ys
  induction ys with
  | nil=>intro _;simp[Lib.lens]
  | cons y ys ih =>
   intro hy;have h1:=ih fun x hx=>hy x (List.mem_cons_of_mem _ hx)
   have h2:y.data.toList.length≤B:=hy y List.mem_cons_self;have e:Lib.lens ((y::ys).map (·.data.toList))=y.data.toList.length+Lib.lens (ys.map (·.data.toList)):=by simp[Lib.lens]
   rw[e,List.length_cons,Nat.add_mul];omega
 cases xs with
 | nil=>simp[Lib.join_nil]
 | cons x r =>
  have h1:=hl (x::r) h;rw[List.map_cons] at h1;rw[List.map_cons,Lib.join_length,List.length_map,List.length_cons,Nat.mul_add,Nat.add_mul r.length 1 sep.length,Nat.mul_comm r.length];rw[List.length_cons] at h1;omega
theorem itoa_any(w:World)(z:Int)(h0 : -9223372036854775808≤z)(h1:z≤9223372036854775807)(L:Laid w):Gives Tryz.prog 85 #[.int .i64 z] w (.string (itx z)):=by
 refine(Tryz.strconv_Itoa z h0 h1 w L.tab).mono ?_;rintro e w1 ⟨rfl,hw⟩;exact⟨rfl,below_of_grow hw⟩
instance (D:Nat) (q:Rat):Decidable (Sm D q):=by unfold Sm;infer_instance
theorem k7:((itx 7).toList==[55])=true:=by decide +kernel
theorem rd_ints{w:World}{g:Nat}{l:List Int}{t:TypeId}(h:w.heap[g]?=some (.cells (ints l).toArray t (0,0))):Rd w (some ⟨g,0,none⟩) (ints l):=by
 have:=rd_obj h
 simpa using this
end Go.Proofs.YtepicfdhphiiaaaGreatDoor
