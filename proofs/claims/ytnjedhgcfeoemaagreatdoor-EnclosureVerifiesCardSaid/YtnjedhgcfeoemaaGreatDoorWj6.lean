/- Lemmas for the laws of this seat, part 6. -/
import Derived.Deep.CutBlock
import Derived.Test.YtnjedhgcfeoemaaGreatDoorCards
import Derived.Test.YtnjedhgcfeoemaaGreatDoorTie
import Derived.SevenTiedAt
import Derived.Test.YtnjedhgcfeoemaaGreatDoorWj5
set_option maxRecDepth 100000
set_option maxHeartbeats 16000000
namespace Go.Proofs.YtnjedhgcfeoemaaGreatDoor
open Go.RowKit
theorem Zpb(w:World)(sg n sg' n':Int)(a1 a2:Option Addr)(c1 c2:Nat)(la lb:List (Int×Int×ByteArray))(r1:Rd w a1 (Qq la))(r2:Rd w a2 (Qq lb))(hbig:la.length≤1000000)(hbig2:lb.length≤1000000):
  Kc Tryz.prog 41 #[Zok sg n a1 la.length c1,Zok sg' n' a2 lb.length c2] w (.bool (decide (sg=sg'∧n=n'∧la=lb))):=by
 unfold Kc Zok;obtain⟨v,hv⟩:∃ v,decide (sg=sg'∧n=n'∧la=lb)=v:=⟨_,rfl⟩;have H2:=hd_ (Zw7 w #[.int .i64 sg,.int .i64 n,.slice a1 la.length c1] #[.int .i64 sg',.int .i64 n',.slice a2 lb.length c2] 51);rw[hv]
 by_cases hsg:sg=sg'
 case neg =>
  have Hv:Hid (v=false):=by show _=_;rw[← hv];exact decide_eq_false fun h=>hsg h.1
  have hsb:(sg==sg')=false:=by rw[beq_eq_false_iff_ne];exact hsg
  have hsd:decide (sg=sg')=false:=decide_eq_false hsg;clear hv r1 r2;generalize la.length=m at *
  generalize lb.length=m' at *
  obtain⟨h1,h2,hb⟩:=H2.out;clear H2;go_enter Tryz.func41,Tryz.ntmps41;obtain⟨k0,k1,k2,-⟩:=Ki h1;obtain⟨l0,l1,l2,-⟩:=Ki h2;have HB:=hd_ hb;clear h1 h2 hb
  go_wp2_with fail
  generalize (w.alloc (.cells #[.int .i64 sg,.int .i64 n,.slice a1 m c1] 51)).alloc (.cells #[.int .i64 sg',.int .i64 n',.slice a2 m' c2] 51)=W0 at *
  go_ret;exact⟨by rw[Hv.out];rfl,HB.out⟩
 subst hsg
 by_cases hnn:n=n'
 case neg =>
  have Hv:Hid (v=false):=by show _=_;rw[← hv];exact decide_eq_false fun h=>hnn h.2.1
  have hsb:(n==n')=false:=by rw[beq_eq_false_iff_ne];exact hnn
  have hsd:decide (n=n')=false:=decide_eq_false hnn;clear hv r1 r2;generalize la.length=m at *
  generalize lb.length=m' at *
  obtain⟨h1,h2,hb⟩:=H2.out;clear H2;go_enter Tryz.func41,Tryz.ntmps41;obtain⟨k0,k1,k2,-⟩:=Ki h1;obtain⟨l0,l1,l2,-⟩:=Ki h2;have HB:=hd_ hb;clear h1 h2 hb
  go_wp2_with fail
  generalize (w.alloc (.cells #[.int .i64 sg,.int .i64 n,.slice a1 m c1] 51)).alloc (.cells #[.int .i64 sg,.int .i64 n',.slice a2 m' c2] 51)=W0 at *
  go_ret;exact⟨by rw[Hv.out];rfl,HB.out⟩
 subst hnn
 by_cases hl:la.length=lb.length
 case neg =>
  have Hv:Hid (v=false):=by show _=_;rw[← hv];exact decide_eq_false fun h=>hl (by rw[h.2.2])
  have hsb:((la.length:Int)==lb.length)=false:=by rw[beq_eq_false_iff_ne];omega
  clear hv hl r1 r2;generalize la.length=m at *
  generalize lb.length=m' at *
  obtain⟨h1,h2,hb⟩:=H2.out;clear H2;go_enter Tryz.func41,Tryz.ntmps41;obtain⟨k0,k1,k2,-⟩:=Ki h1;obtain⟨l0,l1,l2,-⟩:=Ki h2;have HB:=hd_ hb;clear h1 h2 hb
  go_wp2_with fail
  generalize (w.alloc (.cells #[.int .i64 sg,.int .i64 n,.slice a1 m c1] 51)).alloc (.cells #[.int .i64 sg,.int .i64 n,.slice a2 m' c2] 51)=W0 at *
  go_ret;exact⟨by rw[Hv.out];rfl,HB.out⟩
 have R1:=hd_ r1;have R2:=hd_ r2;have Hyes:Hid (∀ k,(∀ j (h1:j<la.length) (h2:j<lb.length),j<k→la[j]=lb[j])→k=la.length→v=true):=fun k h hk=>by
  rw[← hv];exact decide_eq_true ⟨rfl,rfl,List.ext_getElem hl fun i h1 h2=>h i h1 h2 (by omega)⟩
 have Hno:Hid (∀ k (h1:k<la.length) (h2:k<lb.length),la[k]≠lb[k]→v=false):=fun k h1 h2 hne=>by
  rw[← hv];exact decide_eq_false fun he=>hne (by obtain⟨-,-,he⟩:=he;subst he;rfl)
 obtain⟨m,hn⟩:∃ m,la.length=m:=⟨_,rfl⟩;have hm:lb.length=m:=hl.symm.trans hn;rw[hn] at hbig H2;rw[hm] at H2;rw[hn,hm];have Hn:=hd_ hn;have Hm:=hd_ hm;clear hl r1 r2 hn hm hbig2 hv;obtain⟨h1,h2,hb⟩:=H2.out;clear H2;go_enter Tryz.func41,Tryz.ntmps41;obtain⟨k0,k1,k2,-⟩:=Ki h1;obtain⟨l0,l1,l2,-⟩:=Ki h2;have HB:=hd_ hb;have HO1:=hd_ h1;have HO2:=hd_ h2;clear h1 h2 hb
 go_wp2_with fail
 generalize (w.alloc (.cells #[.int .i64 sg,.int .i64 n,.slice a1 m c1] 51)).alloc (.cells #[.int .i64 sg,.int .i64 n,.slice a2 m c2] 51)=W0 at *
 clear k0 k1 k2 l0 l1 l2
 go_loopw [5] (fun i wr=>∃ k:Nat,k≤m∧i = .int .i64 k∧Hid (∀ j (h1:j<la.length) (h2:j<lb.length),j<k→la[j]=lb[j])∧Hid (Below W0.heap.size W0 wr)) (fun i _=>m-(intOf i).toNat)
 case atStart=>exact⟨0,Nat.zero_le _,rfl,fun j _ _ hj=>absurd hj (Nat.not_lt_zero _),Below.refl _ _⟩
 case round =>
  obtain⟨k,hk,rfl,Hp,B⟩:=hrel;obtain⟨-,-,k2,-⟩:=Ki (show wr.heap[_]?=_ by rw[B.out.block _ (lt_of_block HO1.out)];exact HO1.out)
  obtain⟨-,-,l2,-⟩:=Ki (show wr.heap[_]?=_ by rw[B.out.block _ (lt_of_block HO2.out)];exact HO2.out)
  have Bw:=hd_ (HB.out.trans (B.out.mono HB.out.size))
  by_cases hlt:k<m
  ·have hlt':(k:Int)<m:=by omega
   have h1:k<la.length:=by rw[Hn.out];exact hlt
   have h2:k<lb.length:=by rw[Hm.out];exact hlt
   have hkw:IntKind.i64.wrap ((k:Int)+1)=((k+1:Nat):Int):=by rw[← Int.natCast_succ];exact iw_ _ (by omega)
   obtain⟨b,off,rfl,x0,x1,x2⟩:=Zj6 R1.out Bw.out nr_ k h1;obtain⟨b',off',rfl,y0,y1,y2⟩:=Zj6 R2.out Bw.out nr_ k h2;have Hp':Hid (la[k]=lb[k]→∀ j (h1:j<la.length) (h2:j<lb.length),j<k+1→la[j]=lb[j]):=fun he j g1 g2 hj=>by
    rcases Nat.lt_or_ge j k with h|h
    ·exact Hp.out j g1 g2 h
    ·have e:j=k:=by omega
     subst e;exact he
   have Hnk:=hd_ (Hno.out k h1 h2);clear Hp;generalize la[k]=p at *
   generalize lb[k]=q at *
   have q0:=cell_regrown x0;have q1:=cell_regrown x1;have q2:=cell_regrown x2;have q3:=cell_regrown y0;have q4:=cell_regrown y1;have q5:=cell_regrown y2;have q6:=cell_regrown k2;have q7:=cell_regrown l2;have HK:=hd_ hlt
   go_wp2_with fail
   clear x0 x1 x2 y0 y1 y2 k2 l2;refine wp_region_quiet_below (by kernel_rfl) (by kernel_rfl) ?_
   repeat (first | go_big_quiet_step (fail) | quiet_step (fail))
   refine BigFrame.wpQuiet_want rfl fun K hK=>Zf3 _ _ _ p q rfl rfl rfl (hK _ ?_)
   refine wpQuiet_nil ?_;intro w6 hw6;obtain⟨⟨dq,osq⟩,rfl⟩:=hw6;have B6:=hd_ (B.out.trans ((below_regrown wr dq osq).mono B.out.size));clear q0 q1 q2 q3 q4 q5 q6 q7 B Bw;generalize Go.Sort.grow (redrawn wr dq) osq=w6 at *
   by_cases hpq:p=q
   ·rw[decide_eq_true hpq];have Hq:=hd_ (Hp'.out hpq);clear hpq Hp' Hnk
    go_wp2_with fail
    go_roundw
    case rel=>exact⟨k+1,HK.out,by go_num,Hq,B6⟩
    case measure=>simp[intOf];omega
   ·rw[decide_eq_false hpq];have Hz:=hd_ (Hnk.out hpq);clear hpq Hp' Hnk
    go_wp2_with fail
    go_ret;exact⟨by rw[Hz.out];rfl,HB.out.trans (B6.out.mono HB.out.size)⟩
  ·have hlt':¬ (k:Int)<m:=by omega
   have Hz:=hd_ (Hyes.out k Hp.out (by rw[Hn.out];omega))
   clear Hp
   go_wp2_with fail
   go_ret;exact⟨by rw[Hz.out];rfl,Bw.out⟩
theorem Zl4:∀ k,k<10→∀ p∈Zas k,p=p.toNat∧(p.toNat=2∨p.toNat∈Yt):=by decide +kernel
theorem Zt5(w:World)(x y:Array Value)(t u:TypeId):
  ((w.alloc (.cells x t)).alloc (.cells y u)).heap[w.heap.size]?=some (.cells x t (0,0))∧((w.alloc (.cells x t)).alloc (.cells y u)).heap[w.heap.size+1]?=some (.cells y u (0,0))∧Below w.heap.size w ((w.alloc (.cells x t)).alloc (.cells y u)):=by
 have h1:=heap_alloc_new w (.cells x t);have h2:=heap_alloc_new (w.alloc (.cells x t)) (.cells y u);have e1:(w.alloc (.cells x t)).heap.size=w.heap.size+1:=by simp
 refine⟨by rw[((Below.refl (w.alloc (.cells x t)).heap.size _).alloc nr_ _).block _ (lt_of_block h1)];exact h1,?_,((Below.refl _ _).alloc nr_ _).alloc (by simp) _⟩
 rw[e1] at h2;exact h2
theorem Zs3(b:Nat)(ps:List Int)(l:List Rat):Zcb b ps l=1∨Zcb b ps l = -1∨Zcb b ps l=0:=by
 unfold Zcb;split
 ·exact .inl rfl
 ·split
  ·exact .inr (.inl rfl)
  ·exact .inr (.inr rfl)
theorem Zze(w:World)(pn:Nat)(nA:Nat→Int)(dA:Nat→Nat)(sg n:Int)(a2:Option Addr)(c2:Nat)(BL:List (Int×Int×ByteArray))(hpn:pn<256)(hnA:∀ k,-128≤nA k∧nA k≤127)(hdA:∀ k,dA k<256)(rb:Rd w a2 (Qq BL))(hbig:BL.length≤9223372036854775807)(L:Qb w):
  Kc Tryz.prog 12 #[.int .u8 pn,.agg (Zbg nA dA),Zok sg n a2 BL.length c2] w (.bool true):=by
 unfold Kc Zok Zbg;have HK:Hid (∀ W,Below w.heap.size w W→Kc Tryz.prog 15 #[] W (.bool true)):=fun W hW=>Zpu W (L.below hW)
 obtain⟨m,hm⟩:∃ m,BL.length=m:=⟨_,rfl⟩;have T0:=hd_ (Zt5 w #[.int .i8 (nA 0),.int .u8 (dA 0),.int .i8 (nA 1),.int .u8 (dA 1),.int .i8 (nA 2),.int .u8 (dA 2),.int .i8 (nA 3),.int .u8 (dA 3)] #[.int .i64 sg,.int .i64 n,.slice a2 m c2] 61 51);rw[hm] at hbig ⊢
 by_cases h6:6<m
 case pos =>
  have h6':(6:Int)<m:=by omega
  clear rb L hnA hdA hm;obtain⟨P0,C0,B⟩:=T0.out;replace P0:=hd_ P0;replace C0:=hd_ C0;replace B:=hd_ B;clear T0;go_enter Tryz.func12,Tryz.ntmps12
  go_wp2_with fail
  generalize (w.alloc (.cells #[.int .i8 (nA 0),.int .u8 (dA 0),.int .i8 (nA 1),.int .u8 (dA 1),.int .i8 (nA 2),.int .u8 (dA 2),.int .i8 (nA 3),.int .u8 (dA 3)] 61)).alloc (.cells #[.int .i64 sg,.int .i64 n,.slice a2 m c2] 51)=w0 at *
  refine cm_ (HK.out _ B.out) ?_;rintro e_ w1 ⟨rfl,hb_⟩;replace P0:=hd_ (Kd P0.out hb_ nr_);replace C0:=hd_ (Kd C0.out hb_ nr_);replace B:=hd_ (B.out.trans (hb_.mono B.out.size));clear hb_;obtain⟨k0,k1,k2,-⟩:=Ki C0.out
  go_wp2_with fail
  refine cm_ (HK.out _ B.out) ?_;rintro e_ w2 ⟨rfl,hb_⟩;replace B:=hd_ (B.out.trans (hb_.mono B.out.size));clear hb_
  go_wp2_with fail
  go_ret;exact⟨rfl,B.out⟩
 have h6':¬ ((6:Int)<m):=by omega
 by_cases h60:60<n∧n≤1000
 case pos =>
  obtain⟨h60,h1000⟩:=h60;clear rb L hnA hdA hm;obtain⟨P0,C0,B⟩:=T0.out;replace P0:=hd_ P0;replace C0:=hd_ C0;replace B:=hd_ B;clear T0;go_enter Tryz.func12,Tryz.ntmps12
  go_wp2_with fail
  generalize (w.alloc (.cells #[.int .i8 (nA 0),.int .u8 (dA 0),.int .i8 (nA 1),.int .u8 (dA 1),.int .i8 (nA 2),.int .u8 (dA 2),.int .i8 (nA 3),.int .u8 (dA 3)] 61)).alloc (.cells #[.int .i64 sg,.int .i64 n,.slice a2 m c2] 51)=w0 at *
  refine cm_ (HK.out _ B.out) ?_;rintro e_ w1 ⟨rfl,hb_⟩;replace P0:=hd_ (Kd P0.out hb_ nr_);replace C0:=hd_ (Kd C0.out hb_ nr_);replace B:=hd_ (B.out.trans (hb_.mono B.out.size));clear hb_;obtain⟨k0,k1,k2,-⟩:=Ki C0.out
  go_wp2_with fail
  refine cm_ (HK.out _ B.out) ?_;rintro e_ w2 ⟨rfl,hb_⟩;replace B:=hd_ (B.out.trans (hb_.mono B.out.size));clear hb_
  go_wp2_with fail
  go_ret;exact⟨rfl,B.out⟩
 have hp:=Zpf (pn%10) (Nat.mod_lt _ (by decide))
 have hps:=Zir (pn%10) (Nat.mod_lt _ (by decide))
 have hod:=Zl4 (pn%10) (Nat.mod_lt _ (by decide))
 have HPr:=hd_ (fun W=>Zpe W pn hpn)
 generalize Zas (pn%10)=ps at *
 obtain⟨hp0,hp4,hp1,hp2⟩:=hp;obtain⟨hq1,hq2⟩:=hps;have hp100:ps.length≤100:=by omega
 have hi:Zjq ps:=fun x hx=>by have:=hp2 x hx;omega
 have HA:Hid (∀ W a0 c0,Below w.heap.size w W→Calls Tryz.prog 33 #[.slice a0 ps.length c0,.agg #[.int .i8 (nA 0),.int .u8 (dA 0),.int .i8 (nA 1),.int .u8 (dA 1),.int .i8 (nA 2),.int .u8 (dA 2),.int .i8 (nA 3),.int .u8 (dA 3)]] W fun e w'=>∃ a c,e = .returned (.slice a ps.length c)∧Rd w' a (Kx (Zbh nA dA ps.length))∧Below W.heap.size W w'):=fun W a0 c0 hW=>by
  refine cm_ (Zut W a0 c0 ps.length hp4 nA dA hnA hdA (L.below hW)) ?_;rintro e w' ⟨a,c,rfl,ho,hb⟩;exact⟨a,c,rfl,ho.rd,hb⟩
 have la1:=Zbw nA dA ps.length;have sa:=Zrm nA dA ps.length;generalize Zbh nA dA ps.length=la at *
 have hpp:∀ p∈ps,∃ q:Nat,p=q∧(q=2∨q∈Yt):=fun p hp=>⟨p.toNat,hod p hp⟩
 have hm2:BL.length≤1000000:=by omega
 have HZ:=hd_ (fun W a1 c1 (hW:Below w.heap.size w W) (r1:Rd W a1 (Kx la))=>Zql W a1 c1 la r1 (by omega) (L.below hW))
 rw[la1] at HZ;have HV:=hd_ (fun W a0 a1 c0 c1 (hW:Below w.heap.size w W) (r0:Rd W a0 (Vc ps)) (r1:Rd W a1 (Kx la))=>Zoz W a0 a1 a2 c0 c1 c2 2 ps la sg n BL r0 r1 (rb.below hW nr_) hm2 hi la1 hp100 hpp sa (by decide) hp0 (L.below hW))
 have HBo:=hd_ (fun (b:Nat) (hb:b≤60) W a0 a1 c0 c1 (hW:Below w.heap.size w W) (r0:Rd W a0 (Vc ps)) (r1:Rd W a1 (Kx la))=>Zla W a0 a1 c0 c1 b ps la r0 r1 la1 hp100 hpp (by omega) (L.below hW))
 have HSa:=hd_ (fun (b:Nat) W a c (hW:Below w.heap.size w W) (r:Rd W a (Qq (Zbq b ps la)))=>Zpb W sg b sg b a2 a c2 c BL (Zbq b ps la) (rb.below hW nr_) r hm2 (Nat.le_trans (Zna b ps la) (by omega)))
 have HDe:=hd_ (fun (b:Nat) (hb:b≤60) W a0 a1 c0 c1 (hW:Below w.heap.size w W) (r0:Rd W a0 (Vc ps)) (r1:Rd W a1 (Kx la))=>Zkz W a0 a1 c0 c1 2 b ps la r0 r1 la1 hp100 hpp sa (by decide) (by omega) (L.below hW))
 obtain⟨vb,hvb⟩:∃ vb,Zo0 sg n BL ps la=vb:=⟨_,rfl⟩;obtain⟨zb,hnz⟩:∃ zb,(!la.any nzQ)=zb:=⟨_,rfl⟩;have hnz2:la.any nzQ = !zb:=by rw[← hnz,Bool.not_not]
 have Hv0:Hid (sg=0→vb=(decide (n=0)&&decide (m=0)&&zb)):=fun h=>by rw[← hvb,← hnz,← hm];unfold Zo0;rw[if_pos h]
 have Hv1:Hid (sg≠0→zb=true→vb=false):=fun h h1=>by rw[← hvb];unfold Zo0;rw[if_neg h,hnz2,h1];rfl
 have Hv2:Hid (sg≠0→(n<0∨60<n)→vb=false):=fun h h1=>by
  rw[← hvb];unfold Zo0;rw[if_neg h,decide_eq_false (show ¬ (0≤n∧n≤1000) by omega),Bool.and_false,Bool.false_and,Bool.false_and]
 have Hv3:Hid (∀ b:Nat,n=b→b≤60→sg≠0→zb=false→vb=(decide (BL=Zbq b ps la)&&decide (Zcb b ps la=sg))):=fun b e hb h h1=>by
  rw[← hvb];unfold Zo0;rw[if_neg h,hnz2,h1,e,decide_eq_true (show (0:Int)≤(b:Nat)∧((b:Nat):Int)≤1000 by omega),Int.toNat_natCast];rfl
 have Hv4:Hid (sg≠0→sg≠1→sg ≠ -1→vb=false):=fun h h1 h2=>by
  rw[← hvb];unfold Zo0;have:=Zs3 n.toNat ps la
  rw[if_neg h,decide_eq_false (show ¬ Zcb n.toNat ps la=sg by omega),Bool.and_false]
 rw[hnz] at HZ;rw[hvb] at HV;rw[hm] at HV HSa;clear hvb hnz hnz2 hpp hod hq1 hq2 hp1 hp2 hi sa la1 hm2 hpn hnA hdA hp0 rb L hm hbig;obtain⟨np,hnp⟩:∃ np,ps.length=np:=⟨_,rfl⟩;rw[hnp] at HPr HA HZ HV HBo HDe;clear hnp hp4 hp100;obtain⟨P0,C0,B⟩:=T0.out;replace P0:=hd_ P0;replace C0:=hd_ C0;replace B:=hd_ B;clear T0;go_enter Tryz.func12,Tryz.ntmps12
 go_upto_region 1 with fail
 generalize (w.alloc (.cells #[.int .i8 (nA 0),.int .u8 (dA 0),.int .i8 (nA 1),.int .u8 (dA 1),.int .i8 (nA 2),.int .u8 (dA 2),.int .i8 (nA 3),.int .u8 (dA 3)] 61)).alloc (.cells #[.int .i64 sg,.int .i64 n,.slice a2 m c2] 51)=w0 at *
 go_cut [28] from 11 to 28 (fun y wx=>y = .bool false∧Hid (Below w0.heap.size w0 wx))
 case first =>
  have hc:¬ 60<n∨(60<n∧¬ n≤1000):=by omega
  clear h60;clear HPr HA HZ HV HBo HSa HDe Hv0 Hv1 Hv2 Hv3 Hv4
  go_wp2_with fail
  refine cm_ (HK.out _ B.out) ?_;rintro e_ w1 ⟨rfl,hb_⟩;have C1:=hd_ (Kd C0.out hb_ nr_);have D:=hd_ hb_;clear hb_;obtain⟨k0,k1,k2,-⟩:=Ki C1.out;rcases hc with h60|⟨h60,h1000⟩
  ·go_wp2_with fail
   go_meet
   exact⟨by rw[decide_eq_false (show ¬ (6:Int)<m by omega)],D⟩
  ·go_wp2_with fail
   go_meet
   exact⟨by rw[decide_eq_false (show ¬ (6:Int)<m by omega),decide_eq_false (show ¬ n≤1000 by omega)];rfl,D⟩
 case rest =>
 obtain⟨rfl,D⟩:=hcut;replace P0:=hd_ (Kd P0.out D.out nr_);replace C0:=hd_ (Kd C0.out D.out nr_);replace B:=hd_ (B.out.trans (D.out.mono B.out.size));clear D
 go_wp2_with fail
 refine cm_ (HPr.out _) ?_;rintro e_ w2 ⟨gp,rfl,rp_,hb_⟩;replace P0:=hd_ (Kd P0.out hb_ nr_);replace C0:=hd_ (Kd C0.out hb_ nr_);replace B:=hd_ (B.out.trans (hb_.mono B.out.size));have Rp:=hd_ rp_;clear hb_ rp_ HPr;have p0:w2.cell? ⟨w.heap.size,0,none⟩=some (.int .i8 (nA 0)):=by rw[cell_of_row _ _ _ _ _ _ P0.out];rfl
 have p1:w2.cell? ⟨w.heap.size,1,none⟩=some (.int .u8 (dA 0)):=by rw[cell_of_row _ _ _ _ _ _ P0.out];rfl
 have p2:w2.cell? ⟨w.heap.size,2,none⟩=some (.int .i8 (nA 1)):=by rw[cell_of_row _ _ _ _ _ _ P0.out];rfl
 have p3:w2.cell? ⟨w.heap.size,3,none⟩=some (.int .u8 (dA 1)):=by rw[cell_of_row _ _ _ _ _ _ P0.out];rfl
 have p4:w2.cell? ⟨w.heap.size,4,none⟩=some (.int .i8 (nA 2)):=by rw[cell_of_row _ _ _ _ _ _ P0.out];rfl
 have p5:w2.cell? ⟨w.heap.size,5,none⟩=some (.int .u8 (dA 2)):=by rw[cell_of_row _ _ _ _ _ _ P0.out];rfl
 have p6:w2.cell? ⟨w.heap.size,6,none⟩=some (.int .i8 (nA 3)):=by rw[cell_of_row _ _ _ _ _ _ P0.out];rfl
 have p7:w2.cell? ⟨w.heap.size,7,none⟩=some (.int .u8 (dA 3)):=by rw[cell_of_row _ _ _ _ _ _ P0.out];rfl
 go_wp2_with fail
 clear p0 p1 p2 p3 p4 p5 p6 p7;refine cm_ (HA.out _ _ _ B.out) ?_;rintro e_ w3 ⟨aa,ca,rfl,ra_,hb_⟩;replace C0:=hd_ (Kd C0.out hb_ nr_);replace Rp:=hd_ (Rp.out.below hb_ nr_);replace B:=hd_ (B.out.trans (hb_.mono B.out.size));have Ra:=hd_ ra_;clear hb_ ra_ HA P0;obtain⟨k0,k1,k2,-⟩:=Ki C0.out
 go_upto_block 0 with fail
 go_cut [9] from 35 to 90 (fun y wx=>y = .bool vb∧Hid (Below w3.heap.size w3 wx))
 case first =>
  clear HV HK
  by_cases hs0:sg=0
  ·have hsb:(sg==0)=true:=by rw[hs0];rfl
   have hv:=Hv0.out hs0;have Hv:=hd_ hv;clear hv Hv0 Hv1 Hv2 Hv3 Hv4 HBo HSa HDe;subst hs0
   go_wp2_with fail
   refine cm_ (HZ.out _ _ _ B.out Ra.out) ?_;rintro e_ w4 ⟨rfl,hb_⟩;have D:=hd_ hb_;replace C0:=hd_ (Kd C0.out hb_ nr_);clear hb_ HZ k0 k1 k2;obtain⟨k0,k1,k2,-⟩:=Ki C0.out;cases zb
   ·go_wp2_with fail
    go_meet
    exact⟨by rw[Hv.out,Bool.and_false],D⟩
   ·by_cases hn0:n=0
    ·subst hn0
     by_cases hm0:m=0
     ·subst hm0
      go_wp2_with fail
      go_meet
      exact⟨by rw[Hv.out];rfl,D⟩
     ·have hmb:((m:Int)==0)=false:=by rw[beq_eq_false_iff_ne];omega
      go_wp2_with fail
      go_meet
      exact⟨by rw[Hv.out,decide_eq_false hm0];rfl,D⟩
    ·have hnb:(n==0)=false:=by rw[beq_eq_false_iff_ne];exact hn0
     go_wp2_with fail
     go_meet
     exact⟨by rw[Hv.out,decide_eq_false hn0];rfl,D⟩
  ·have hsb:(sg==0)=false:=by rw[beq_eq_false_iff_ne];exact hs0
   clear Hv0
   by_cases hs1:sg=1∨sg = -1
   ·have hv1:=Hv1.out hs0;have hv2:=Hv2.out hs0;have hv3:=fun b e hb h1=>Hv3.out b e hb hs0 h1
    have HV1:=hd_ hv1;have HV2:=hd_ hv2;have HV3:=hd_ hv3;clear hv1 hv2 hv3 Hv1 Hv2 Hv3 Hv4;rcases hs1 with rfl|rfl
    all_goals
     go_wp2_with fail
     refine cm_ (HZ.out _ _ _ B.out Ra.out) ?_;rintro e_ w4 ⟨rfl,hb_⟩;have D:=hd_ hb_;replace C0:=hd_ (Kd C0.out hb_ nr_);clear hb_ HZ k0 k1 k2;obtain⟨k0,k1,k2,-⟩:=Ki C0.out;cases zb
     ·by_cases hn:0≤n∧n≤60
      ·obtain⟨hn0,hn6⟩:=hn;obtain⟨b,rfl⟩:=Int.eq_ofNat_of_zero_le hn0;have hb60:b≤60:=by omega
       have Hvb:=hd_ (HV3.out b rfl hb60 rfl);have HBo1:=hd_ (HBo.out b hb60);have HSa1:=hd_ (HSa.out b);have HDe1:=hd_ (HDe.out b hb60);have hxl:=Zna b ps la;generalize Zcb b ps la=dd at *
       generalize Zbq b ps la=XL at *
       have hsa:=HSa1.out;simp only[true_and] at hsa;replace HSa1:=hd_ hsa;obtain⟨q,hq⟩:∃ q,decide (BL=XL)=q:=⟨_,rfl⟩;rw[hq] at HSa1 Hvb;clear HV1 HV2 HV3 HBo HSa HDe hn0 hsa hq hxl;have Bw:=hd_ (B.out.trans (D.out.mono B.out.size));have Rp4:=hd_ (Rp.out.below D.out nr_);have Ra4:=hd_ (Ra.out.below D.out nr_);have q0:=NW.cell k0;have q1:=NW.cell k1;have q2:=NW.cell k2;have hnon:Nonempty (NW w4):=⟨⟨w4,Below.refl _ _⟩⟩;have I:Hid (Below w4.heap.size w4 w4.drew):=(Below.refl _ _).drew
       go_wp2_with fail
       clear k0 k1 k2 C0;refine RP.wp_region_readers 22 [(1,0),(2,1),(1,2),(2,3),(1,4),(2,5),(2,6),(2,7),(1,8),(0,9),(0,10),(0,11),(0,12),(2,13),(2,14),(2,15),(1,16),(2,18),(1,19),(0,17),(0,20),(0,21),(0,22)] (fun w'=>∃ p:NW w4,w'=p.w) (by kernel_rfl) (by kernel_rfl) ?_ ?_
       ·exact⟨⟨_,I.out⟩,rfl⟩
       refine RP.walkR_read ?_;simp only[dz_,Kg,tz_]
       go_big_quiet_step (fail);refine wpQuiet_nil ?_
       iterate 1 (refine RP.walkR_any ?_;simp only[Kh,dz_,Kg,tz_];go_big_quiet_step (fail);refine wpQuiet_nil ?_)
       iterate 1 (refine RP.walkR_read ?_;simp only[Kh,dz_,Kg,tz_];go_big_quiet_step (fail);refine wpQuiet_nil ?_)
       iterate 1 (refine RP.walkR_any ?_;simp only[Kh,dz_,Kg,tz_];go_big_quiet_step (fail);refine wpQuiet_nil ?_)
       iterate 1 (refine RP.walkR_read ?_;simp only[Kh,dz_,Kg,tz_];go_big_quiet_step (fail);refine wpQuiet_nil ?_)
       iterate 3 (refine RP.walkR_any ?_;simp only[Kh,dz_,Kg,tz_];go_big_quiet_step (fail);refine wpQuiet_nil ?_)
       iterate 1 (refine RP.walkR_read ?_;simp only[Kh,dz_,Kg,tz_];go_big_quiet_step (fail);refine wpQuiet_nil ?_)
       refine RP.walkR_move ?_;simp only[Kh,dz_,Kg,tz_]
       go_wp2_with fail
       refine cm_ (HBo1.out _ _ _ _ _ (Bw.out.trans (I.out.mono Bw.out.size)) (Rp4.out.below I.out nr_) (Ra4.out.below I.out nr_)) ?_;rintro e_ x1 ⟨ax,cx,rfl,rx,hb_⟩;have I1:Hid (Below w4.heap.size w4 x1):=I.out.trans (hb_.mono I.out.size);have Rx:=hd_ rx;clear hb_ rx I HBo1
       go_wp2_with fail
       refine⟨⟨⟨_,I1.out⟩,rfl⟩,?_⟩;refine RP.walkR_move ?_;simp only[Kh,dz_,Kg,tz_]
       go_wp2_with fail
       refine⟨⟨⟨_,I1.out⟩,rfl⟩,?_⟩;refine RP.walkR_move ?_;simp only[Kh,dz_,Kg,tz_]
       go_wp2_with fail
       refine cm_ (HSa1.out _ _ _ (Bw.out.trans (I1.out.mono Bw.out.size)) Rx.out) ?_;rintro e_ x2 ⟨rfl,hb_⟩;have I2:Hid (Below w4.heap.size w4 x2):=I1.out.trans (hb_.mono I1.out.size);clear hb_ I1 HSa1 Rx
       go_wp2_with fail
       refine⟨⟨⟨_,I2.out⟩,rfl⟩,?_⟩;refine RP.walkR_move ?_;simp only[Kh,dz_,Kg,tz_]
       go_wp2_with fail
       refine⟨⟨⟨_,I2.out⟩,rfl⟩,?_⟩;cases q
       ·iterate 3 (refine RP.walkR_any ?_;simp only[Kh,dz_,Kg,tz_];go_big_quiet_step (fail);refine wpQuiet_nil ?_)
        iterate 1 (refine RP.walkR_read ?_;simp only[Kh,dz_,Kg,tz_];go_big_quiet_step (fail);refine wpQuiet_nil ?_)
        iterate 1 (refine RP.walkR_any ?_;simp only[Kh,dz_,Kg,tz_];go_big_quiet_step (fail);refine wpQuiet_nil ?_)
        iterate 1 (refine RP.walkR_read ?_;simp only[Kh,dz_,Kg,tz_];go_big_quiet_step (fail);refine wpQuiet_nil ?_)
        clear hnon q0 q1 q2;refine RP.walkR_move ?_;simp only[Kh,dz_,Kg,tz_]
        go_wp2_with fail
        refine⟨⟨⟨_,I2.out⟩,rfl⟩,?_⟩;refine RP.walkR_move ?_;simp only[Kh,dz_,Kg,tz_]
        go_wp2_with fail
        refine⟨⟨⟨_,I2.out⟩,rfl⟩,?_⟩;refine RP.walkR_move ?_;simp only[Kh,dz_,Kg,tz_]
        go_wp2_with fail
        refine⟨⟨⟨_,I2.out⟩,rfl⟩,?_⟩;refine RP.walkR_move ?_;simp only[Kh,dz_,Kg,tz_]
        go_wp2_with fail
        simp only[RP.walkR]
        go_wp2_with fail
        go_meet
        exact⟨by rw[Hvb.out,Bool.false_and],D.out.trans (I2.out.mono D.out.size)⟩
       ·iterate 3 (refine RP.walkR_any ?_;simp only[Kh,dz_,Kg,tz_];go_big_quiet_step (fail);refine wpQuiet_nil ?_)
        iterate 1 (refine RP.walkR_read ?_;simp only[Kh,dz_,Kg,tz_];go_big_quiet_step (fail);refine wpQuiet_nil ?_)
        iterate 1 (refine RP.walkR_any ?_;simp only[Kh,dz_,Kg,tz_];go_big_quiet_step (fail);refine wpQuiet_nil ?_)
        iterate 1 (refine RP.walkR_read ?_;simp only[Kh,dz_,Kg,tz_];go_big_quiet_step (fail);refine wpQuiet_nil ?_)
        clear hnon q0 q1 q2;refine RP.walkR_move ?_;simp only[Kh,dz_,Kg,tz_]
        go_wp2_with fail
        refine cm_ (HDe1.out _ _ _ _ _ (Bw.out.trans (I2.out.mono Bw.out.size)) (Rp4.out.below I2.out nr_) (Ra4.out.below I2.out nr_)) ?_;rintro e_ x3 ⟨rfl,hb_⟩;have I3:Hid (Below w4.heap.size w4 x3):=I2.out.trans (hb_.mono I2.out.size);clear hb_ I2 HDe1
        go_wp2_with fail
        refine⟨⟨⟨_,I3.out⟩,rfl⟩,?_⟩;refine RP.walkR_move ?_;simp only[Kh,dz_,Kg,tz_]
        go_wp2_with fail
        refine⟨⟨⟨_,I3.out⟩,rfl⟩,?_⟩;refine RP.walkR_move ?_;simp only[Kh,dz_,Kg,tz_]
        go_wp2_with fail
        refine⟨⟨⟨_,I3.out⟩,rfl⟩,?_⟩;refine RP.walkR_move ?_;simp only[Kh,dz_,Kg,tz_]
        go_wp2_with fail
        simp only[RP.walkR]
        go_wp2_with fail
        go_meet
        exact⟨by rw[Hvb.out,Bool.true_and];rfl,D.out.trans (I3.out.mono D.out.size)⟩
      ·have Hv:=hd_ (HV2.out (by omega))
       clear HV1 HV2 HV3 HBo HSa HDe
       by_cases hn0:0≤n
       ·have hn6:¬ n≤60:=fun h=>hn ⟨hn0,h⟩
        go_wp2_with fail
        go_meet
        exact⟨by rw[Hv.out,decide_eq_false (show ¬ n≤60 by omega)],D⟩
       ·go_wp2_with fail
        go_meet
        exact⟨by rw[Hv.out],D⟩
     ·have Hv:=hd_ (HV1.out rfl);clear HV1 HV2 HV3 HBo HSa HDe
      go_wp2_with fail
      go_meet
      exact⟨by rw[Hv.out],D⟩
   ·have hs1':¬ sg=1:=fun h=>hs1 (.inl h)
    have hs2':¬ sg = -1:=fun h=>hs1 (.inr h)
    have Hv:=hd_ (Hv4.out hs0 hs1' hs2');have hsb1:(sg==1)=false:=by rw[beq_eq_false_iff_ne];exact hs1'
    have hsb2:(sg == -1)=false:=by rw[beq_eq_false_iff_ne];exact hs2'
    clear Hv1 Hv2 Hv3 Hv4 hs1 HBo HSa HDe HZ
    go_wp2_with fail
    go_meet
    exact⟨by rw[Hv.out],Below.refl _ _⟩
 case rest =>
 obtain⟨rfl,D⟩:=hcut;clear HZ HBo HSa HDe Hv0 Hv1 Hv2 Hv3 Hv4;replace C0:=hd_ (Kd C0.out D.out nr_);replace Rp:=hd_ (Rp.out.below D.out nr_);replace Ra:=hd_ (Ra.out.below D.out nr_);replace B:=hd_ (B.out.trans (D.out.mono B.out.size));clear k0 k1 k2 D;obtain⟨k0,k1,k2,-⟩:=Ki C0.out
 go_wp2_with fail
 refine cm_ (HV.out _ _ _ _ _ B.out Rp.out Ra.out) ?_;rintro e_ w9 ⟨rfl,hb_⟩;replace B:=hd_ (B.out.trans (hb_.mono B.out.size));clear hb_ HV k0 k1 k2 Rp Ra C0;cases vb
 ·rw[if_neg (by decide)]
  go_wp2_with fail
  go_ret;exact⟨rfl,B.out⟩
 ·rw[if_pos rfl]
  go_wp2_with fail
  go_ret;exact⟨rfl,B.out⟩
end Go.Proofs.YtnjedhgcfeoemaaGreatDoor

namespace Go.Proofs.YtnjedhgcfeoemaaGreatDoor
open Go.ChangeShapes Go.WideShapes Go.ChangeAt Go.RowKit
theorem Zbl(os:Os)(started:os.Started)(H:Type)(enc:TypeId×Value→H):
  ReturnsInHanded {} Tryz.checked os 12 .any (fun w args=>(Rows.enclosureVerifiesSpec.pre enc Tryz.prog Tryz.f12 [] false w args∧laidMetH Tryz.prog Zse w)∧sizedMet enc Tryz.prog Tryz.f12 (OpenSpec.ofChange Rows.enclosureVerifiesSpec) false w args)
   (Rows.enclosureVerifiesSpec.post enc Tryz.prog Tryz.f12 false true false false):=by
 refine returnsInHanded_of_change_and (C:=Tryz.checked) (X:=fun w _=>laidMetH Tryz.prog Zse w) (fun _ _ _ hh h=>h.of_heap hh) own started (by kernel_rfl) Tryz.func12
  (ChangeSpec.witness_shaped (enc:=enc) (C:=Tryz.checked) (os:=os) (X:=fun w _=>laidMetH Tryz.prog Zse w) false (World.doorLaid Tryz.prog 400 os) #[.int .u8 0,.agg #[.int .i8 0,.int .u8 0,.int .i8 0,.int .u8 0,.int .i8 0,.int .u8 0,.int .i8 0,.int .u8 0],.agg #[.int .i64 0,.int .i64 0,.slice none 0 0]] 8 rfl (World.shaped_of_RefB (by kernel_rfl) (by kernel_rfl)) (by kernel_rfl) (by kernel_rfl) (by kernel_rfl) (Zvk os _)) ?_
 intro W base args ds gs before hval0 hW _ _ hL _;have hval:∀ (j:Nat) t v,Tryz.f12.params[j]?=some t→args[j]?=some v→Value.okWide Tryz.prog W .any base t v:=hval0;have hW':=hW;obtain⟨p,q,hA0,hV,rfl,hfz,hnd⟩:=hW;have hA:DataW.TrodAll enc Tryz.prog W 0 (fun _=>true) true Tryz.f12.params.toList args.toList ds p:=hA0
 rw[Tryz.params12] at hA hval;obtain⟨v0,vs0,d0,ds0,p0,q0,hargs,rfl,rfl,h0,r0⟩:=trodAll_cons hA;obtain⟨v1,vs1,d1,ds1,p1,q1,rfl,rfl,rfl,h1,r1⟩:=trodAll_cons r0;obtain⟨v2,vs2,d2,ds2,p2,q2,rfl,rfl,rfl,h2,r2⟩:=trodAll_cons r1;obtain⟨rfl,rfl,rfl⟩:=trodAll_nil r2;obtain rfl:args = #[v0,v1,v2]:=by cases args;simp_all
 obtain⟨rfl,rfl⟩:=trodVars_none hV;have k0:=h0;have lt0:∀ x∈p0,x.block<W.heap.size:=by obtain⟨m,hm⟩:=k0;exact DataW.trod_lt m _ _ _ hm
 have k1:=h1;have lt1:∀ x∈p1,x.block<W.heap.size:=by obtain⟨m,hm⟩:=k1;exact DataW.trod_lt m _ _ _ hm
 have k2:=h2;have lt2:∀ x∈p2,x.block<W.heap.size:=by obtain⟨m,hm⟩:=k2;exact DataW.trod_lt m _ _ _ hm
 obtain⟨na,rfl,rfl,rfl,wa⟩:=open_int Tryz.underlying5 (hval 0 5 v0 rfl rfl) h0;have wa':=bounds_u8 wa;obtain⟨pn,rfl⟩:=Int.eq_ofNat_of_zero_le wa'.1;obtain⟨nA,dA,rfl,hnA,hdA⟩:=Zl8 (hval 1 61 v1 rfl rfl) h1;obtain⟨sg,bn,a2,c2,BL,rfl,wsg,wn,rb,wl⟩:=Zuh (hval 2 51 v2 rfl rfl) h2;clear hA0 hval0;refine(Zze W pn nA dA sg bn a2 c2 BL (by omega) hnA hdA rb (Nat.le_trans wl (by decide)) (Zxt hL)).mono fun e W' ⟨he,bel⟩=>?_
 subst he;exact⟨_,rfl,_,_,_,[],_,[],hW',trodAll_mk1 (shut_bool Tryz.underlying4 _),(trodAll_cons_mk (Below.trod Zml (by kernel_rfl) (of_decide_eq_true (by kernel_rfl)) k0 bel lt0) (trodAll_cons_mk (Below.trod Zml (by kernel_rfl) (of_decide_eq_true (by kernel_rfl)) k1 bel lt1) (trodAll_cons_mk (Below.trod Zml (by kernel_rfl) (of_decide_eq_true (by kernel_rfl)) k2 bel lt2) trodAll_mk0))),rfl,bel.frame _,fun h=>by cases h⟩
theorem Zcn:Rows.EnclosureVerifiesSaid :=
 OpenClaim.holds_of_wide 12 Tryz.f12 rfl rfl rfl rfl rfl rfl rfl ⟨rfl,rfl,rfl,rfl,rfl⟩ rfl rfl rfl rfl rfl (by as_aux_lemma=>kernel_rfl) Tryz.func12 (by
   unfold joinedFacts;simp only[Bool.and_eq_true]
   repeat' (refine And.intro ?_ ?_)
   all_goals (as_aux_lemma=>kernel_rfl))
  (by as_aux_lemma=>exact of_decide_eq_true (by kernel_rfl)) (by unfold Func.isWrapper;first | (rw[if_pos (by decide +kernel)];kernel_rfl) | (rw[if_neg (by decide +kernel)];exact⟨rfl,rfl⟩))
  (fun os started H enc _=>Zbl os started H enc)
end Go.Proofs.YtnjedhgcfeoemaaGreatDoor
