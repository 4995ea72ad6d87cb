/- Lemmas for the laws of this seat, part 6. -/
import Derived.Test.YtnjedhgcfeoemaaGreatDoorCards
import Derived.Test.YtnjedhgcfeoemaaGreatDoorTie
import Derived.SevenTiedAt
import Derived.Test.YtnjedhgcfeoemaaGreatDoorWk5
set_option maxRecDepth 100000
set_option maxHeartbeats 16000000
namespace Go.Proofs.YtnjedhgcfeoemaaGreatDoor
open Go.RowKit
def ptQ (b:Nat):Rat:=⟨1,2^b,Nat.ne_of_gt (Nat.two_pow_pos b),Nat.coprime_one_left _⟩
theorem Zsu(b:Nat):(ptQ b).num=1:=rfl
theorem Zsw(b:Nat):(ptQ b).den=2^b:=rfl
theorem Zsv(b:Nat):ptQ b*2^b=1:=by
 have h:mkRat (ptQ b).num (ptQ b).den=ptQ b:=Rat.mkRat_self _;rw[Zsu,Zsw] at h;rw[← h,← Zau,Zal _ _ (Nat.two_pow_pos b)];rfl
theorem Qci(p:Int)(b:Nat):ptQ b*((lgN p b:Nat):Rat)=xE p b:=by
 rw[← Zkh];have h:=Zsv b;generalize (2:Rat)^b=T at *
 grind
theorem Qch(p:Int)(b:Nat):ptQ b*((LN.hiL (lf b) p:Nat):Rat)=yE p b:=by
 rw[← Zkg];have h:=Zsv b;generalize (2:Rat)^b=T at *
 grind
theorem Zf8{b:Nat}(hb:b≤91):8*2^b<10^30:=by
 have h1:2^b≤2^91:=Nat.pow_le_pow_right (by decide) hb
 have h2:8*2^91<10^30:=by decide
 omega
theorem Zx3{b:Nat}(hb:b≤91):Sm 30 (ptQ b):=by
 have h:=Zf8 hb;have h0:=Nat.two_pow_pos b;exact⟨by rw[Zsu];decide,by rw[Zsw];omega⟩
theorem Zx6{n D:Nat}(h:n<10^D)(h1:1<10^D):Sm D ((n:Nat):Rat):=⟨by rw[Rat.num_natCast,Int.natAbs_natCast];exact h,by rw[Rat.den_natCast];exact h1⟩
theorem Qcl{q b:Nat}(hq:q=2∨q∈Yp)(hb:b≤90):Sm 30 ((lgN q b:Nat):Rat)∧Sm 30 ((LN.hiL (lf b) q:Nat):Rat):=by
 have h:=Zf8 (show b≤91 by omega)
 have h1:=Zgx hq (show b≤1056 by omega)
 have h0:=Nat.two_pow_pos b;have h2:LN.hiL (lf b) q≤lgN q b+1:=by unfold LN.hiL lf;split<;>omega
 exact⟨Zx6 (by omega) (by decide),Zx6 (by omega) (by decide)⟩
theorem Zx7(n:Nat):fr ((n:Nat):Rat) = .agg #[.string (dec n),.string ⟨#[49]⟩]:=by
 unfold fr fv;rw[Rat.num_natCast,Rat.den_natCast,Kj,Vg]
theorem Zx5{n:Nat}(h:n<10^30):Num n:=Kw (D:=30) h (by decide) (by decide)
theorem Qaw{b T:Nat}(h:T<7*2^b)(hb:b≤90):Num T:=by
 have:=Zf8 (show b≤91 by omega)
 have:=Nat.two_pow_pos b
 exact Zx5 (by omega)
structure RsI (w:World) (ga gb:Nat) (lo hi:Rat) (wr:World):Prop where
 r0:∃ x y,wr.heap[w.heap.size]?=some (.cells #[x,y] 42 (0,0))
 r1:∃ x y,wr.heap[w.heap.size+1]?=some (.cells #[x,y] 42 (0,0))
 a:Zah wr ga lo
 b:Zah wr gb hi
 na:w.heap.size+2≤ga
 nb:w.heap.size+2≤gb
 bel:Below w.heap.size w wr
structure RsW (v:World) (ga gb:Nat) (lo hi:Rat) where
 w:World
 h:RsI v ga gb lo hi w
theorem RsI.put0{w wr:World}{ga gb:Nat}{lo hi:Rat}(h:RsI w ga gb lo hi wr)(x y:Value):RsI w ga gb lo hi ((wr.setCell ⟨w.heap.size,0,none⟩ x).setCell ⟨w.heap.size,1,none⟩ y):=by
 obtain⟨⟨x0,y0,h0⟩,⟨x1,y1,h1⟩,h2,h3,h4,h5,h6⟩:=h;refine⟨⟨_,_,Zfx h0 x y⟩,⟨_,_,Zbl h1 (by omega) x y⟩,Zah.set h2 (by omega) _ _,Zah.set h3 (by omega) _ _,h4,h5,(h6.setCell (p:=⟨w.heap.size,0,none⟩) nr_ _).setCell (p:=⟨w.heap.size,1,none⟩) nr_ _⟩
theorem RsI.drew{w wr:World}{ga gb:Nat}{lo hi:Rat}(h:RsI w ga gb lo hi wr)(n:Nat):RsI w ga gb lo hi (wr.drewN n):=⟨h.r0,h.r1,h.a,h.b,h.na,h.nb,Qh h.bel n⟩
theorem Zlo(w:World)(a0 a1:Option Addr)(c0 c1 D b:Nat)(ps:List Int)(l:List Rat)(rp:Rd w a0 (Qt ps))(rl:Rd w a1 (Kt l))(hl:l.length=ps.length)(hn:ps.length≤100)(hp:∀ p∈ps,∃ q:Nat,p=q∧(q=2∨q∈Yp))(hs:∀ q∈l,Sm D q)(hD:D≤300)(hb:b≤90)(L:Qd w):
  Kc Tryz.prog 42 #[.slice a0 ps.length c0,.slice a1 ps.length c1,.int .i64 b] w (.tuple #[fr (loE b ps l),fr (hiE b ps l)]):=by
 unfold Kc;have Hp:=hd_ hp;have Hl:=hd_ hl;have Hs:=hd_ hs;have HL:=hd_ L;have Dh:=hd_ rp;have dj:=hd_ rl;have HT:=hd_ (Zyn.mk' w);obtain⟨z,hz⟩:∃ z:Rat,z=0:=⟨_,rfl⟩;have Ih:=hd_ hz;have N0:=hd_ (fun W (hW:Below w.heap.size w W)=>Zgy W 0 1 z (by rw[hz];decide +kernel) (by decide) (by decide) (by decide) (by decide) (L.below hW))
 clear hz;have C':=hd_ (fun W (hW:Below w.heap.size w W)=>Zc4 W 2 b (by decide) (Zk9 (by decide) (by omega)) (by omega) (L.below hW))
 rw[Zdj] at C';have Hv:Hid (True→(loE b ps l=loE b (ps.take ps.length) (l.take ps.length))∧hiE b ps l=hiE b (ps.take ps.length) (l.take ps.length)):=fun _=>by
  rw[List.take_length,List.take_of_length_le (by omega)];exact⟨rfl,rfl⟩
 obtain⟨vlo,hvlo⟩:∃ v,loE b ps l=v:=⟨_,rfl⟩;obtain⟨vhi,hvhi⟩:∃ v,hiE b ps l=v:=⟨_,rfl⟩;rw[hvlo,hvhi] at Hv ⊢;clear L hs hp hl hvlo hvhi rp rl;obtain⟨n,FD⟩:∃ n,ps.length=n:=⟨_,rfl⟩;have Hn:=hd_ FD;rw[FD] at hn Hv ⊢;clear FD;have DS:(ptQ b).num=1:=rfl;have An:itx (ptQ b).num=⟨#[49]⟩:=by rw[DS,show itx 1=dec 1 from Kj 1,Vg]
 have JG:dec (ptQ b).den=dec (2^b):=rfl;have MF:Hid (∀ (W:World) g,W.heap[g]?=some (.cells #[.string ⟨#[49]⟩,.string (dec (2^b))] 42 (0,0))→Zah W g (ptQ b)):=fun W g h=>by unfold Zah;rw[An,JG];exact h
 have pG:Hid ((Value.agg #[.string (itx (ptQ b).num),.string (dec (ptQ b).den)]) = .agg #[.string ⟨#[49]⟩,.string (dec (2^b))]):=by show _=_;rw[An,JG]
 clear DS An JG;have lz:D≤300:=hD;unfold fr fv at N0 ⊢;generalize dec (2^b)=sp at *
 go_enter Tryz.func42,Tryz.ntmps42
 go_wp2_with fail
 generalize (w.alloc (.cells #[.string ⟨#[]⟩,.string ⟨#[]⟩] 42)).alloc (.cells #[.string ⟨#[]⟩,.string ⟨#[]⟩] 42)=W0 at *
 refine cm_ (N0.out _ HT.out.bel) ?_;rintro e w1 ⟨rfl,hZ⟩;have Ly:=hd_ (HT.out.below hZ);clear hZ HT
 go_wp2_with fail
 refine cm_ (N0.out _ Ly.out.bel) ?_;rintro e v ⟨rfl,hZ⟩;have AI:=hd_ (Ly.out.below hZ);clear hZ Ly
 go_wp2_with fail
 have Aa:Hid (EnI v ((v.alloc (.cells #[.string (itx z.num),.string (dec z.den)] 42)).alloc (.cells #[.string (itx z.num),.string (dec z.den)] 42)) z z):=by
  have h1:=Zah.new v z;have h2:=Zah.new (v.alloc (.cells #[.string (itx z.num),.string (dec z.den)] 42)) z;refine⟨h1.below ((Below.refl _ _).alloc nr_ _),?_,((Below.refl _ _).alloc nr_ _).alloc (by simp) _⟩
  have e:(v.alloc (.cells #[.string (itx z.num),.string (dec z.den)] 42)).heap.size=v.heap.size+1:=by simp
  rw[e] at h2;exact h2
 have Av:Hid (v.heap.size+2≤((v.alloc (.cells #[.string (itx z.num),.string (dec z.den)] 42)).alloc (.cells #[.string (itx z.num),.string (dec z.den)] 42)).heap.size):=by show _≤_;simp
 generalize (v.alloc (.cells #[.string (itx z.num),.string (dec z.den)] 42)).alloc (.cells #[.string (itx z.num),.string (dec z.den)] 42)=W1 at *
 have Bm:=hd_ AI.out.bel;refine cm_ (C'.out _ (Bm.out.trans (Aa.out.bel.mono Bm.out.size))) ?_;rintro e w2 ⟨rfl,hZ⟩;have Fc:=hd_ (Aa.out.below (hZ.alloc hZ.size (.cells #[.string ⟨#[49]⟩,.string sp] 42)));have Mq:Hid (v.heap.size+2≤(w2.alloc (.cells #[.string ⟨#[49]⟩,.string sp] 42)).heap.size):=by
  show _≤_
  have:=Nat.le_trans Av.out hZ.size
  simp;omega
 have aZ:=hd_ (MF.out _ _ (heap_alloc_new w2 (.cells #[.string ⟨#[49]⟩,.string sp] 42)));obtain⟨gp,jE⟩:∃ gp,gp=w2.heap.size:=⟨_,rfl⟩;have MR:Hid (v.heap.size+2≤gp):=by show _≤_;rw[jE];exact Nat.le_trans Av.out hZ.size
 clear hZ Aa C' Av MF
 go_wp2_with fail
 rw[← jE] at aZ ⊢;clear jE;generalize w2.alloc (.cells #[.string ⟨#[49]⟩,.string sp] 42)=w3 at *
 rw[Ih.out] at Fc
 go_loopw [11] (fun i wr=>∃ k:Nat,k≤n∧i = .int .i64 k∧Hid (EnI v wr (loE b (ps.take k) (l.take k)) (hiE b (ps.take k) (l.take k)))∧Hid (v.heap.size+2≤wr.heap.size)∧Hid (Zah wr gp (ptQ b))) (fun i _=>n-(intOf i).toNat)
 case atStart=>exact⟨0,Nat.zero_le _,rfl,by simpa [loE,hiE] using Fc,Mq,aZ⟩
 case round =>
  obtain⟨k,hk,rfl,HE,Hy,HG⟩:=hrel;clear Fc Mq aZ
  by_cases H9:k<n
  ·have gm:(k:Int)<n:=by omega
   have GD:k<ps.length:=by rw[Hn.out];exact H9
   have gO:k<l.length:=by rw[Hl.out];exact GD
   have CY:=hd_ (Bm.out.trans (HE.out.bel.mono Bm.out.size));obtain⟨b0,o0,rfl,g7,fB⟩:=Dh.out.open (by rw[Qf];omega)
   have Fb:Hid (∀ W,Below w.heap.size w W→W.cell? ⟨b0,o0+k,none⟩=some (.int .i64 ps[k])):=fun W hW=>by
    rw[hW.cell (p:=⟨b0,o0+k,none⟩) g7];exact fB k _ (Ym ps k GD)
   obtain⟨b1,o1,rfl,hZ,gK⟩:=dj.out.open (by rw[Kz];omega)
   have aR:Hid (∀ W,Below w.heap.size w W→W.cell? ⟨b1,o1+k*2,none⟩=some (.string (itx l[k].num))∧W.cell? ⟨b1,o1+k*2+1,none⟩=some (.string (dec l[k].den))):=fun W hW=>by
    obtain⟨x0,x1⟩:=Qm gK k (by rw[List.length_map];exact gO)
    rw[Qw l k gO] at x0 x1;rw[← hW.cell (p:=⟨b1,o1+k*2,none⟩) hZ] at x0;rw[← hW.cell (p:=⟨b1,o1+k*2+1,none⟩) hZ] at x1;exact⟨x0,x1⟩
   have dR:IntKind.i64.wrap ((k:Int)+1)=((k+1:Nat):Int):=by rw[← Int.natCast_succ];exact iw_ _ (by omega)
   have Gu:=hd_ (Zg4 b ps l k Hl.out GD gO);have F3:=hd_ (Zjv (show b≤1056 by omega) Hp.out Hl.out Hs.out k (Nat.le_of_lt GD))
   have eD:=hd_ (Hs.out l[k] (List.getElem_mem gO));obtain⟨q,hq,Gh⟩:=Hp.out _ (List.getElem_mem GD);have ES:=hd_ (Zyr (p:=ps[k]) (Hp.out _ (List.getElem_mem GD)) (show b≤1056 by omega))
   have CA:=hd_ (fun W (hW:Below w.heap.size w W)=>Zo3 W q b Gh hb (HL.out.below hW))
   have E9:=hd_ (Qcl Gh hb);have IG:=hd_ (Zgx Gh (show b≤1056 by omega))
   rw[← hq] at CA E9 IG;have iQ:1+k*(D+356)≤65700:=by
    have:k*(D+356)≤100*656:=Nat.mul_le_mul (by omega) (by omega)
    omega
   clear fB gK hq Gh;generalize l[k]=c at *
   generalize ps[k]=pk at *
   obtain⟨x0,x1⟩:=aR.out wr CY.out;have q0:=NW.cell x0;have q1:=NW.cell x1;have gk:Nonempty (NW wr):=⟨⟨wr,Below.refl _ _⟩⟩;have I:Hid (Below wr.heap.size wr wr.drew):=(Below.refl _ _).drew;clear x0 x1
   go_wp2_with fail
   refine RP.wp_region_readers 5 [(2,0),(2,1),(2,2),(1,3),(0,4),(0,5)] (fun w'=>∃ p:NW wr,w'=p.w) (by kernel_rfl) (by kernel_rfl) ?_ ?_
   ·exact⟨⟨_,I.out⟩,rfl⟩
   iterate 3 (refine RP.walkR_any ?_;simp only[Kh,dz_,Kg,tz_];go_big_quiet_step (fail);refine wpQuiet_nil ?_)
   refine RP.walkR_read ?_;simp only[Kh,dz_,Kg,tz_];go_big_quiet_step (fail);refine wpQuiet_nil ?_;clear gk q0 q1;refine RP.walkR_move ?_;simp only[Kh,dz_,Kg,tz_]
   go_wp2_with fail
   refine cm_ (N0.out _ (CY.out.trans (I.out.mono CY.out.size))) ?_;rintro e w4 ⟨rfl,hbx⟩;have J:Hid (Below wr.heap.size wr w4):=I.out.trans (hbx.mono I.out.size);clear hbx I
   go_wp2_with fail
   refine⟨⟨⟨_,J.out⟩,rfl⟩,?_⟩;refine RP.walkR_move ?_;simp only[Kh,dz_,Kg,tz_];have hq:∀ W,(binOp .eql 42 (.agg #[.string (itx c.num),.string (dec c.den)]) (.agg #[.string (itx z.num),.string (dec z.den)])).run Tryz.prog W = .ok (.bool (decide (c=z))) W:=fun W=>by rw[Zpd,Zk2]
   have ix:=fun W x y=>Zbu W .eql x y #[.string (itx c.num),.string (dec c.den)] #[.string (itx z.num),.string (dec z.den)]
   go_wp2_with fail
   clear hq ix;simp only[RP.walkR];have Jg:=hd_ (HE.out.below J.out);have lK:=hd_ (Nat.le_trans Hy.out J.out.size);have Dk:=hd_ (HG.out.below J.out);clear HE Hy HG J CY
   by_cases hcz:c=z
   ·rw[decide_eq_true hcz];have El:loE b (ps.take (k+1)) (l.take (k+1))=loE b (ps.take k) (l.take k)∧hiE b (ps.take (k+1)) (l.take (k+1))=hiE b (ps.take k) (l.take k):=by
     obtain⟨e1,e2⟩:=Zln b pk;have:=Gu.out
     rw[hcz,Ih.out,e1,e2,Rat.add_zero,Rat.add_zero] at this;exact this
    have EG:=hd_ El;clear El Gu F3 eD ES CA E9 IG Fb aR hcz
    go_wp2_with fail
    refine⟨⟨k+1,by omega,by go_num,by rw[EG.out.1,EG.out.2];exact Jg,lK,Dk⟩,by simp[intOf];omega⟩
   ·rw[decide_eq_false hcz];clear hcz;have Ij:=hd_ (Bm.out.trans (Jg.out.bel.mono Bm.out.size));have cp:=Fb.out w4 Ij.out;have AJ:=CA.out w4 Ij.out
    go_wp2_with fail
    clear cp;refine cm_ AJ ?_;rintro e w5 ⟨rfl,hbx⟩;have nM:=hd_ (Jg.out.below hbx);have Mp:=hd_ (Nat.le_trans lK.out hbx.size);have BF:=hd_ (Dk.out.below hbx);have jX:=hd_ (Ij.out.trans (hbx.mono Ij.out.size));clear hbx AJ Jg lK Dk Ij CA;have HA:=Zxq w5 (lgN pk b) 1 (Qaw IG.out hb) (Zx5 (by decide)) (HL.out.below jX.out)
    rw[Vg] at HA
    go_wp2_with fail
    refine cm_ HA ?_;rintro e w6 ⟨rfl,hbx⟩;have Fx:=hd_ (nM.out.below hbx);have lJ:=hd_ (Nat.le_trans Mp.out hbx.size);have LS:=hd_ (BF.out.below hbx);have E5:=hd_ (jX.out.trans (hbx.mono jX.out.size));clear hbx HA nM Mp BF jX;have cp:=Fb.out w6 E5.out;obtain⟨M,hM⟩:∃ M,LN.hiL (lf b) pk=M:=⟨_,rfl⟩;obtain⟨T,hT⟩:∃ T,lgN pk b=T:=⟨_,rfl⟩;have lW:=hd_ (Qci pk b);have lV:=hd_ (Qch pk b);have LK:Hid ((pk=2→M=T)∧(pk≠2→M=T+1)):=by
     rw[← hM,← hT];unfold LN.hiL lf;exact⟨fun h=>if_pos h,fun h=>if_neg h⟩
    rw[hT] at lW E9 IG ⊢;rw[hM] at lV E9;clear hM hT
    go_upto_if 45 with fail
    go_cut [13] from 21 to 74 (fun y wx=>y = .string (dec M)∧w6=wx)
    case first =>
     by_cases h2:pk=2
     ·have At:(pk==2)=true:=by rw[h2];rfl
      have e1:=hd_ (LK.out.1 h2);clear h2
      go_wp2_with fail
      go_meet
      exact⟨by rw[e1.out],rfl⟩
     ·have At:(pk==2)=false:=by rw[beq_eq_false_iff_ne];exact h2
      have e1:=hd_ (LK.out.2 h2);clear h2
      go_wp2_with fail
      go_meet
      exact⟨by rw[e1.out],rfl⟩
    case rest =>
    obtain⟨rfl,rfl⟩:=hcut;clear cp LK;have IF:=hd_ (fun W (hW:Below w.heap.size w W)=>Zu9 W (ptQ b) (T:Rat) 30 30 (Zx3 (by omega)) E9.out.1 (by decide) (HL.out.below hW))
    have IE:=hd_ (fun W (hW:Below w.heap.size w W)=>Zu9 W (ptQ b) (M:Rat) 30 30 (Zx3 (by omega)) E9.out.2 (by decide) (HL.out.below hW))
    rw[lW.out,Zx7] at IF;rw[lV.out,Zx7] at IE;have IY:=hd_ (fun W (hW:Below w.heap.size w W)=>Zu9 W c (xE pk b) D 355 eD.out ES.out.1 (by omega) (HL.out.below hW))
    have IX:=hd_ (fun W (hW:Below w.heap.size w W)=>Zu9 W c (yE pk b) D 355 eD.out ES.out.2 (by omega) (HL.out.below hW))
    have GP:=hd_ (eD.out.mul ES.out.1);have GO:=hd_ (eD.out.mul ES.out.2);clear lW lV E9 IG eD ES Fb;unfold fr fv at IF IE IY IX;generalize dec T=sT at *
    generalize dec M=sM at *
    generalize xE pk b=xq at *
    generalize yE pk b=yq at *
    go_upto_region 11 with fail
    go_cut [14] from 21 to 74 (fun y wx=>∃ g,y = .pointer (some ⟨g,0,none⟩)∧Hid (Zah wx g (c*xq))∧Hid (w6.heap.size≤g)∧Hid (Below w6.heap.size w6 wx))
    case first =>
     obtain⟨x0,x1⟩:=aR.out w6 E5.out;obtain⟨x2,x3,-,-⟩:=Ka LS.out;have q0:=NW.cell x0;have q1:=NW.cell x1;have q2:=NW.cell x2;have q3:=NW.cell x3;have gk:Nonempty (NW w6):=⟨⟨w6,Below.refl _ _⟩⟩;have I:Hid (Below w6.heap.size w6 w6.drew):=(Below.refl _ _).drew;clear x0 x1 x2 x3
     go_wp2_with fail
     refine RP.wp_region_tree 10 (.rd 2 0 (.rd 2 1 (.rd 2 2 (.rd 1 3 (.rd 1 4 (.rd 2 5 (.rd 2 6 (.two 7 9 (.two 8 9 (.mv 9 (.mv 10 .nil)) (.mv 8 (.mv 10 .nil))) (.mv 7 (.mv 8 (.mv 10 .nil))))))))))) (fun w'=>∃ p:NW w6,w'=p.w) (by kernel_rfl) (by kernel_rfl) ?_ ?_
     ·exact⟨⟨_,I.out⟩,rfl⟩
     refine RP.walkT_any ?_;simp only[dz_,Kg,tz_]
     first | go_big_quiet_step (fail) | quiet_step (fail)
     refine wpQuiet_nil ?_;refine RP.walkT_any ?_;simp only[Kh,dz_,Kg,tz_]
     first | go_big_quiet_step (fail) | quiet_step (fail)
     refine wpQuiet_nil ?_;refine RP.walkT_any ?_;simp only[Kh,dz_,Kg,tz_]
     first | go_big_quiet_step (fail) | quiet_step (fail)
     refine wpQuiet_nil ?_;refine RP.walkT_read ?_;simp only[Kh,dz_,Kg,tz_]
     first | go_big_quiet_step (fail) | quiet_step (fail)
     refine wpQuiet_nil ?_;refine RP.walkT_read ?_;simp only[Kh,dz_,Kg,tz_]
     first | go_big_quiet_step (fail) | quiet_step (fail)
     refine wpQuiet_nil ?_;refine RP.walkT_any ?_;simp only[Kh,dz_,Kg,tz_]
     first | go_big_quiet_step (fail) | quiet_step (fail)
     refine wpQuiet_nil ?_;refine RP.walkT_any ?_;simp only[Kh,dz_,Kg,tz_]
     first | go_big_quiet_step (fail) | quiet_step (fail)
     refine wpQuiet_nil ?_;clear gk q0 q1 q2 q3;refine RP.walkT_two ?_ ?_
     ·simp only[Kh,dz_,Kg,tz_]
      go_wp2_with fail
      refine cm_ (IF.out _ (E5.out.trans (I.out.mono E5.out.size))) ?_;rintro e_ y1 ⟨rfl,H7⟩;have gI:Hid (Below w6.heap.size w6 y1):=I.out.trans (H7.mono I.out.size);clear H7
      go_wp2_with fail
      refine⟨⟨⟨_,gI.out⟩,rfl⟩,?_⟩;refine RP.walkT_two ?_ ?_
      ·simp only[Kh,dz_,Kg,tz_]
       go_wp2_with fail
       refine cm_ (IY.out _ (E5.out.trans (gI.out.mono E5.out.size))) ?_;rintro e_ y2 ⟨rfl,H7⟩;have fD:Hid (Below w6.heap.size w6 y2):=gI.out.trans (H7.mono gI.out.size);clear H7
       go_wp2_with fail
       refine⟨⟨⟨_,fD.out⟩,rfl⟩,?_⟩;refine RP.walkT_move ?_;simp only[Kh,dz_,Kg,tz_]
       go_wp2_with fail
       have gL:=hd_ (fD.out.alloc fD.out.size (.cells #[.string ⟨#[]⟩,.string ⟨#[]⟩] 42));have gX:Hid ((y2.alloc (.cells #[.string ⟨#[]⟩,.string ⟨#[]⟩] 42)).heap[y2.heap.size]?=some (.cells #[.string ⟨#[]⟩,.string ⟨#[]⟩] 42 (0,0))):=heap_alloc_new y2 _;refine⟨⟨⟨_,gL.out⟩,rfl⟩,?_⟩;obtain⟨g,hg⟩:∃ g,g=y2.heap.size:=⟨_,rfl⟩;rw[← hg] at gX ⊢;have dp:Hid (w6.heap.size≤g):=by show _≤_;rw[hg];exact fD.out.size
       clear hg;generalize y2.alloc (.cells #[.string ⟨#[]⟩,.string ⟨#[]⟩] 42)=y3 at *
       refine RP.walkT_move ?_;simp only[Kh,dz_,Kg,tz_];obtain⟨n0,n1,f0,f1⟩:=Ka gX.out
       go_wp2_with fail
       simp only[RP.walkT];have F9:Hid (Zah ((y3.setCell ⟨g,0,none⟩ (.string (itx (c*xq).num))).setCell ⟨g,1,none⟩ (.string (dec (c*xq).den))) g (c*xq)):=Ya gX.out;have W9:=hd_ ((gL.out.setCell (p:=⟨g,0,none⟩) dp.out (.string (itx (c*xq).num))).setCell (p:=⟨g,1,none⟩) dp.out (.string (dec (c*xq).den)));clear n0 n1 f0 f1;generalize (y3.setCell ⟨g,0,none⟩ (.string (itx (c*xq).num))).setCell ⟨g,1,none⟩ (.string (dec (c*xq).den))=w9 at *
       go_wp2_with fail
       go_meet
       exact⟨g,rfl,F9,dp,W9⟩
      ·simp only[Kh,dz_,Kg,tz_]
       go_wp2_with fail
       have fZ:=hd_ (gI.out.alloc gI.out.size (.cells #[.string ⟨#[]⟩,.string ⟨#[]⟩] 42));have cR:Hid ((y1.alloc (.cells #[.string ⟨#[]⟩,.string ⟨#[]⟩] 42)).heap[y1.heap.size]?=some (.cells #[.string ⟨#[]⟩,.string ⟨#[]⟩] 42 (0,0))):=heap_alloc_new y1 _;refine⟨⟨⟨_,fZ.out⟩,rfl⟩,?_⟩;obtain⟨g,hg⟩:∃ g,g=y1.heap.size:=⟨_,rfl⟩;rw[← hg] at cR ⊢;have dm:Hid (w6.heap.size≤g):=by show _≤_;rw[hg];exact gI.out.size
       clear hg;generalize y1.alloc (.cells #[.string ⟨#[]⟩,.string ⟨#[]⟩] 42)=y4 at *
       refine RP.walkT_move ?_;simp only[Kh,dz_,Kg,tz_]
       go_wp2_with fail
       refine cm_ (IY.out _ (E5.out.trans (fZ.out.mono E5.out.size))) ?_;rintro e_ y5 ⟨rfl,H7⟩;have GG:Hid (Below w6.heap.size w6 y5):=fZ.out.trans (H7.mono fZ.out.size);have f7:=hd_ (Kd cR.out H7 nr_);clear H7
       go_wp2_with fail
       refine⟨⟨⟨_,GG.out⟩,rfl⟩,?_⟩;refine RP.walkT_move ?_;simp only[Kh,dz_,Kg,tz_];obtain⟨n0,n1,f0,f1⟩:=Ka f7.out
       go_wp2_with fail
       simp only[RP.walkT];have F9:Hid (Zah ((y5.setCell ⟨g,0,none⟩ (.string (itx (c*xq).num))).setCell ⟨g,1,none⟩ (.string (dec (c*xq).den))) g (c*xq)):=Ya f7.out;have W9:=hd_ ((GG.out.setCell (p:=⟨g,0,none⟩) dm.out (.string (itx (c*xq).num))).setCell (p:=⟨g,1,none⟩) dm.out (.string (dec (c*xq).den)));clear n0 n1 f0 f1;generalize (y5.setCell ⟨g,0,none⟩ (.string (itx (c*xq).num))).setCell ⟨g,1,none⟩ (.string (dec (c*xq).den))=w9 at *
       go_wp2_with fail
       go_meet
       exact⟨g,rfl,F9,dm,W9⟩
     ·simp only[Kh,dz_,Kg,tz_]
      go_wp2_with fail
      have fc:Hid (Below w6.heap.size w6 (w6.alloc (.cells #[.string ⟨#[]⟩,.string ⟨#[]⟩] 42)).drew):=Qh ((Below.refl _ _).alloc nr_ _) 1;have cQ:Hid ((w6.alloc (.cells #[.string ⟨#[]⟩,.string ⟨#[]⟩] 42)).drew.heap[w6.heap.size]?=some (.cells #[.string ⟨#[]⟩,.string ⟨#[]⟩] 42 (0,0))):=heap_alloc_new w6 _;have eZ:Hid (w6.heap.size≤w6.heap.size):=Nat.le_refl _;refine⟨⟨⟨_,fc.out⟩,rfl⟩,?_⟩;obtain⟨g,hg⟩:∃ g,g=w6.heap.size:=⟨_,rfl⟩;rw[← hg] at cQ ⊢;replace eZ:Hid (w6.heap.size≤g):=Nat.le_of_eq hg.symm;clear hg;generalize (w6.alloc (.cells #[.string ⟨#[]⟩,.string ⟨#[]⟩] 42)).drew=y6 at *
      refine RP.walkT_move ?_;simp only[Kh,dz_,Kg,tz_]
      go_wp2_with fail
      refine cm_ (IF.out _ (E5.out.trans (fc.out.mono E5.out.size))) ?_;rintro e_ y7 ⟨rfl,H7⟩;have fC:Hid (Below w6.heap.size w6 y7):=fc.out.trans (H7.mono fc.out.size);have aw:=hd_ (Kd cQ.out H7 nr_);clear H7
      go_wp2_with fail
      refine⟨⟨⟨_,fC.out⟩,rfl⟩,?_⟩;refine RP.walkT_move ?_;simp only[Kh,dz_,Kg,tz_]
      go_wp2_with fail
      refine cm_ (IY.out _ (E5.out.trans (fC.out.mono E5.out.size))) ?_;rintro e_ y8 ⟨rfl,H7⟩;have eQ:Hid (Below w6.heap.size w6 y8):=fC.out.trans (H7.mono fC.out.size);have cP:=hd_ (Kd aw.out H7 nr_);clear H7
      go_wp2_with fail
      refine⟨⟨⟨_,eQ.out⟩,rfl⟩,?_⟩;refine RP.walkT_move ?_;simp only[Kh,dz_,Kg,tz_];obtain⟨n0,n1,f0,f1⟩:=Ka cP.out
      go_wp2_with fail
      simp only[RP.walkT];have F9:Hid (Zah ((y8.setCell ⟨g,0,none⟩ (.string (itx (c*xq).num))).setCell ⟨g,1,none⟩ (.string (dec (c*xq).den))) g (c*xq)):=Ya cP.out;have W9:=hd_ ((eQ.out.setCell (p:=⟨g,0,none⟩) eZ.out (.string (itx (c*xq).num))).setCell (p:=⟨g,1,none⟩) eZ.out (.string (dec (c*xq).den)));clear n0 n1 f0 f1;generalize (y8.setCell ⟨g,0,none⟩ (.string (itx (c*xq).num))).setCell ⟨g,1,none⟩ (.string (dec (c*xq).den))=w9 at *
      go_wp2_with fail
      go_meet
      exact⟨g,rfl,F9,eZ,W9⟩
    case rest =>
    obtain⟨ga,rfl,BH,hga_,hbx⟩:=hcut;have bb:=hd_ (Fx.out.below hbx.out);have Mo:=hd_ (Nat.le_trans lJ.out hbx.out.size);have LR:=hd_ (LS.out.below hbx.out);have dD:=hd_ (E5.out.trans (hbx.out.mono E5.out.size));have Lb:Hid (v.heap.size+2≤ga):=Nat.le_trans lJ.out hga_.out;clear hbx Fx lJ LS E5 IF IY hga_;obtain⟨w7,hw7⟩:∃ w7,w7=wc:=⟨_,rfl⟩;subst hw7
    go_upto_region 12 with fail
    go_cut [15] from 21 to 74 (fun y wx=>∃ g,y = .pointer (some ⟨g,0,none⟩)∧Hid (Zah wx g (c*yq))∧Hid (w7.heap.size≤g)∧Hid (Below w7.heap.size w7 wx))
    case first =>
     obtain⟨x0,x1⟩:=aR.out w7 dD.out;obtain⟨x2,x3,-,-⟩:=Ka LR.out;have q0:=NW.cell x0;have q1:=NW.cell x1;have q2:=NW.cell x2;have q3:=NW.cell x3;have gk:Nonempty (NW w7):=⟨⟨w7,Below.refl _ _⟩⟩;have I:Hid (Below w7.heap.size w7 w7.drew):=(Below.refl _ _).drew;clear x0 x1 x2 x3
     go_wp2_with fail
     refine RP.wp_region_tree 10 (.rd 2 0 (.rd 2 1 (.rd 2 2 (.rd 1 3 (.rd 1 4 (.rd 2 5 (.rd 2 6 (.two 7 9 (.two 8 9 (.mv 9 (.mv 10 .nil)) (.mv 8 (.mv 10 .nil))) (.mv 7 (.mv 8 (.mv 10 .nil))))))))))) (fun w'=>∃ p:NW w7,w'=p.w) (by kernel_rfl) (by kernel_rfl) ?_ ?_
     ·exact⟨⟨_,I.out⟩,rfl⟩
     refine RP.walkT_any ?_;simp only[dz_,Kg,tz_]
     first | go_big_quiet_step (fail) | quiet_step (fail)
     refine wpQuiet_nil ?_;refine RP.walkT_any ?_;simp only[Kh,dz_,Kg,tz_]
     first | go_big_quiet_step (fail) | quiet_step (fail)
     refine wpQuiet_nil ?_;refine RP.walkT_any ?_;simp only[Kh,dz_,Kg,tz_]
     first | go_big_quiet_step (fail) | quiet_step (fail)
     refine wpQuiet_nil ?_;refine RP.walkT_read ?_;simp only[Kh,dz_,Kg,tz_]
     first | go_big_quiet_step (fail) | quiet_step (fail)
     refine wpQuiet_nil ?_;refine RP.walkT_read ?_;simp only[Kh,dz_,Kg,tz_]
     first | go_big_quiet_step (fail) | quiet_step (fail)
     refine wpQuiet_nil ?_;refine RP.walkT_any ?_;simp only[Kh,dz_,Kg,tz_]
     first | go_big_quiet_step (fail) | quiet_step (fail)
     refine wpQuiet_nil ?_;refine RP.walkT_any ?_;simp only[Kh,dz_,Kg,tz_]
     first | go_big_quiet_step (fail) | quiet_step (fail)
     refine wpQuiet_nil ?_;clear gk q0 q1 q2 q3;refine RP.walkT_two ?_ ?_
     ·simp only[Kh,dz_,Kg,tz_]
      go_wp2_with fail
      refine cm_ (IE.out _ (dD.out.trans (I.out.mono dD.out.size))) ?_;rintro e_ y1 ⟨rfl,H7⟩;have gI:Hid (Below w7.heap.size w7 y1):=I.out.trans (H7.mono I.out.size);clear H7
      go_wp2_with fail
      refine⟨⟨⟨_,gI.out⟩,rfl⟩,?_⟩;refine RP.walkT_two ?_ ?_
      ·simp only[Kh,dz_,Kg,tz_]
       go_wp2_with fail
       refine cm_ (IX.out _ (dD.out.trans (gI.out.mono dD.out.size))) ?_;rintro e_ y2 ⟨rfl,H7⟩;have fD:Hid (Below w7.heap.size w7 y2):=gI.out.trans (H7.mono gI.out.size);clear H7
       go_wp2_with fail
       refine⟨⟨⟨_,fD.out⟩,rfl⟩,?_⟩;refine RP.walkT_move ?_;simp only[Kh,dz_,Kg,tz_]
       go_wp2_with fail
       have gL:=hd_ (fD.out.alloc fD.out.size (.cells #[.string ⟨#[]⟩,.string ⟨#[]⟩] 42));have gX:Hid ((y2.alloc (.cells #[.string ⟨#[]⟩,.string ⟨#[]⟩] 42)).heap[y2.heap.size]?=some (.cells #[.string ⟨#[]⟩,.string ⟨#[]⟩] 42 (0,0))):=heap_alloc_new y2 _;refine⟨⟨⟨_,gL.out⟩,rfl⟩,?_⟩;obtain⟨g,hg⟩:∃ g,g=y2.heap.size:=⟨_,rfl⟩;rw[← hg] at gX ⊢;have dp:Hid (w7.heap.size≤g):=by show _≤_;rw[hg];exact fD.out.size
       clear hg;generalize y2.alloc (.cells #[.string ⟨#[]⟩,.string ⟨#[]⟩] 42)=y3 at *
       refine RP.walkT_move ?_;simp only[Kh,dz_,Kg,tz_];obtain⟨n0,n1,f0,f1⟩:=Ka gX.out
       go_wp2_with fail
       simp only[RP.walkT];have F9:Hid (Zah ((y3.setCell ⟨g,0,none⟩ (.string (itx (c*yq).num))).setCell ⟨g,1,none⟩ (.string (dec (c*yq).den))) g (c*yq)):=Ya gX.out;have W9:=hd_ ((gL.out.setCell (p:=⟨g,0,none⟩) dp.out (.string (itx (c*yq).num))).setCell (p:=⟨g,1,none⟩) dp.out (.string (dec (c*yq).den)));clear n0 n1 f0 f1;generalize (y3.setCell ⟨g,0,none⟩ (.string (itx (c*yq).num))).setCell ⟨g,1,none⟩ (.string (dec (c*yq).den))=w9 at *
       go_wp2_with fail
       go_meet
       exact⟨g,rfl,F9,dp,W9⟩
      ·simp only[Kh,dz_,Kg,tz_]
       go_wp2_with fail
       have fZ:=hd_ (gI.out.alloc gI.out.size (.cells #[.string ⟨#[]⟩,.string ⟨#[]⟩] 42));have cR:Hid ((y1.alloc (.cells #[.string ⟨#[]⟩,.string ⟨#[]⟩] 42)).heap[y1.heap.size]?=some (.cells #[.string ⟨#[]⟩,.string ⟨#[]⟩] 42 (0,0))):=heap_alloc_new y1 _;refine⟨⟨⟨_,fZ.out⟩,rfl⟩,?_⟩;obtain⟨g,hg⟩:∃ g,g=y1.heap.size:=⟨_,rfl⟩;rw[← hg] at cR ⊢;have dm:Hid (w7.heap.size≤g):=by show _≤_;rw[hg];exact gI.out.size
       clear hg;generalize y1.alloc (.cells #[.string ⟨#[]⟩,.string ⟨#[]⟩] 42)=y4 at *
       refine RP.walkT_move ?_;simp only[Kh,dz_,Kg,tz_]
       go_wp2_with fail
       refine cm_ (IX.out _ (dD.out.trans (fZ.out.mono dD.out.size))) ?_;rintro e_ y5 ⟨rfl,H7⟩;have GG:Hid (Below w7.heap.size w7 y5):=fZ.out.trans (H7.mono fZ.out.size);have f7:=hd_ (Kd cR.out H7 nr_);clear H7
       go_wp2_with fail
       refine⟨⟨⟨_,GG.out⟩,rfl⟩,?_⟩;refine RP.walkT_move ?_;simp only[Kh,dz_,Kg,tz_];obtain⟨n0,n1,f0,f1⟩:=Ka f7.out
       go_wp2_with fail
       simp only[RP.walkT];have F9:Hid (Zah ((y5.setCell ⟨g,0,none⟩ (.string (itx (c*yq).num))).setCell ⟨g,1,none⟩ (.string (dec (c*yq).den))) g (c*yq)):=Ya f7.out;have W9:=hd_ ((GG.out.setCell (p:=⟨g,0,none⟩) dm.out (.string (itx (c*yq).num))).setCell (p:=⟨g,1,none⟩) dm.out (.string (dec (c*yq).den)));clear n0 n1 f0 f1;generalize (y5.setCell ⟨g,0,none⟩ (.string (itx (c*yq).num))).setCell ⟨g,1,none⟩ (.string (dec (c*yq).den))=w9 at *
       go_wp2_with fail
       go_meet
       exact⟨g,rfl,F9,dm,W9⟩
     ·simp only[Kh,dz_,Kg,tz_]
      go_wp2_with fail
      have fc:Hid (Below w7.heap.size w7 (w7.alloc (.cells #[.string ⟨#[]⟩,.string ⟨#[]⟩] 42)).drew):=Qh ((Below.refl _ _).alloc nr_ _) 1;have cQ:Hid ((w7.alloc (.cells #[.string ⟨#[]⟩,.string ⟨#[]⟩] 42)).drew.heap[w7.heap.size]?=some (.cells #[.string ⟨#[]⟩,.string ⟨#[]⟩] 42 (0,0))):=heap_alloc_new w7 _;have eZ:Hid (w7.heap.size≤w7.heap.size):=Nat.le_refl _;refine⟨⟨⟨_,fc.out⟩,rfl⟩,?_⟩;obtain⟨g,hg⟩:∃ g,g=w7.heap.size:=⟨_,rfl⟩;rw[← hg] at cQ ⊢;replace eZ:Hid (w7.heap.size≤g):=Nat.le_of_eq hg.symm;clear hg;generalize (w7.alloc (.cells #[.string ⟨#[]⟩,.string ⟨#[]⟩] 42)).drew=y6 at *
      refine RP.walkT_move ?_;simp only[Kh,dz_,Kg,tz_]
      go_wp2_with fail
      refine cm_ (IE.out _ (dD.out.trans (fc.out.mono dD.out.size))) ?_;rintro e_ y7 ⟨rfl,H7⟩;have fC:Hid (Below w7.heap.size w7 y7):=fc.out.trans (H7.mono fc.out.size);have aw:=hd_ (Kd cQ.out H7 nr_);clear H7
      go_wp2_with fail
      refine⟨⟨⟨_,fC.out⟩,rfl⟩,?_⟩;refine RP.walkT_move ?_;simp only[Kh,dz_,Kg,tz_]
      go_wp2_with fail
      refine cm_ (IX.out _ (dD.out.trans (fC.out.mono dD.out.size))) ?_;rintro e_ y8 ⟨rfl,H7⟩;have eQ:Hid (Below w7.heap.size w7 y8):=fC.out.trans (H7.mono fC.out.size);have cP:=hd_ (Kd aw.out H7 nr_);clear H7
      go_wp2_with fail
      refine⟨⟨⟨_,eQ.out⟩,rfl⟩,?_⟩;refine RP.walkT_move ?_;simp only[Kh,dz_,Kg,tz_];obtain⟨n0,n1,f0,f1⟩:=Ka cP.out
      go_wp2_with fail
      simp only[RP.walkT];have F9:Hid (Zah ((y8.setCell ⟨g,0,none⟩ (.string (itx (c*yq).num))).setCell ⟨g,1,none⟩ (.string (dec (c*yq).den))) g (c*yq)):=Ya cP.out;have W9:=hd_ ((eQ.out.setCell (p:=⟨g,0,none⟩) eZ.out (.string (itx (c*yq).num))).setCell (p:=⟨g,1,none⟩) eZ.out (.string (dec (c*yq).den)));clear n0 n1 f0 f1;generalize (y8.setCell ⟨g,0,none⟩ (.string (itx (c*yq).num))).setCell ⟨g,1,none⟩ (.string (dec (c*yq).den))=w9 at *
      go_wp2_with fail
      go_meet
      exact⟨g,rfl,F9,eZ,W9⟩
    case rest =>
    obtain⟨gb,rfl,Ad,hgb_,hbx⟩:=hcut;obtain⟨w8,hw8⟩:∃ w8,w8=wc:=⟨_,rfl⟩;subst hw8;have DH:=hd_ (bb.out.below hbx.out);have Mn:=hd_ (Nat.le_trans Mo.out hbx.out.size);have nL:=hd_ (LR.out.below hbx.out);have Ah:=hd_ (BH.out.below hbx.out);have Mr:=hd_ (dD.out.trans (hbx.out.mono dD.out.size));clear hbx bb Mo LR dD IE IX hgb_ BH aR;obtain⟨k0,k1,-,-⟩:=Ka DH.out.e0;obtain⟨k2,k3,-,-⟩:=Ka DH.out.e1;obtain⟨k4,k5,-,-⟩:=Ka Ah.out;obtain⟨k6,k7,-,-⟩:=Ka Ad.out;have q0:=NW.cell k0;have q1:=NW.cell k1;have q2:=NW.cell k2;have q3:=NW.cell k3;have q4:=NW.cell k4;have q5:=NW.cell k5;have q6:=NW.cell k6;have q7:=NW.cell k7;have gk:Nonempty (NW w8):=⟨⟨w8,Below.refl _ _⟩⟩;have I:Hid (Below w8.heap.size w8 w8.drew):=(Below.refl _ _).drew;have fJ:=hd_ (fun X (hX:Below w8.heap.size w8 X)=>HL.out.below (Mr.out.trans (hX.mono Mr.out.size)))
    have eR:=hd_ (fun X hX=>Zgr X (c*xq) (c*yq) (D+355) (D+355) GP.out GO.out (by omega) (fJ.out X hX))
    have f':=hd_ (fun X hX=>Zgs X (c*xq) (c*yq) (D+355) (D+355) GP.out GO.out (by omega) (fJ.out X hX))
    have Gl:=hd_ (fun X hX=>Zrs X _ _ _ _ F3.out.1 (Zeq GP.out GO.out) (by omega) (fJ.out X hX))
    have Gp:=hd_ (fun X hX=>Zrs X _ _ _ _ F3.out.2 (Zer GP.out GO.out) (by omega) (fJ.out X hX))
    rw[← Gu.out.1] at Gl;rw[← Gu.out.2] at Gp;clear fJ Gu F3 GP GO;unfold fr fv at eR f' Gl Gp;generalize c*xq=va at *
    generalize c*yq=vb at *
    go_wp2_with fail
    clear k0 k1 k2 k3 k4 k5 k6 k7;refine RP.wp_region_readers 10 [(1,0),(1,1),(1,2),(1,5),(1,6),(1,7),(0,3),(0,4),(0,8),(0,9),(0,10),(0,11)] (fun w'=>∃ p:NW w8,w'=p.w) (by kernel_rfl) (by kernel_rfl) ?_ ?_
    ·exact⟨⟨_,I.out⟩,rfl⟩
    iterate 6 (refine RP.walkR_read ?_;simp only[Kh,dz_,Kg,tz_];go_big_quiet_step (fail);refine wpQuiet_nil ?_)
    clear q0 q1 q2 q3 q4 q5 q6 q7 gk;refine RP.walkR_move ?_;simp only[Kh,dz_,Kg,tz_]
    go_wp2_with fail
    refine cm_ (eR.out _ I.out) ?_;rintro e x1 ⟨rfl,hbx⟩;have J1:Hid (Below w8.heap.size w8 x1):=I.out.trans (hbx.mono I.out.size);clear hbx I eR
    go_wp2_with fail
    refine⟨⟨⟨_,J1.out⟩,rfl⟩,?_⟩;refine RP.walkR_move ?_;simp only[Kh,dz_,Kg,tz_]
    go_wp2_with fail
    refine cm_ (Gl.out _ J1.out) ?_;rintro e x2 ⟨rfl,hbx⟩;have J2:Hid (Below w8.heap.size w8 x2):=J1.out.trans (hbx.mono J1.out.size);clear hbx J1 Gl
    go_wp2_with fail
    refine⟨⟨⟨_,J2.out⟩,rfl⟩,?_⟩;refine RP.walkR_move ?_;simp only[Kh,dz_,Kg,tz_]
    go_wp2_with fail
    refine cm_ (f'.out _ J2.out) ?_;rintro e x3 ⟨rfl,hbx⟩;have J3:Hid (Below w8.heap.size w8 x3):=J2.out.trans (hbx.mono J2.out.size);clear hbx J2 f'
    go_wp2_with fail
    refine⟨⟨⟨_,J3.out⟩,rfl⟩,?_⟩;refine RP.walkR_move ?_;simp only[Kh,dz_,Kg,tz_]
    go_wp2_with fail
    refine cm_ (Gp.out _ J3.out) ?_;rintro e x4 ⟨rfl,hbx⟩;have J4:Hid (Below w8.heap.size w8 x4):=J3.out.trans (hbx.mono J3.out.size);clear hbx J3 Gp
    go_wp2_with fail
    refine⟨⟨⟨_,J4.out⟩,rfl⟩,?_⟩;have Fw:=hd_ (DH.out.below J4.out);have Ml:=hd_ (Nat.le_trans Mn.out J4.out.size);have nJ:=hd_ (nL.out.below J4.out);obtain⟨k0,k1,f0,f1⟩:=Ka Fw.out.e0;obtain⟨k2,k3,f2,f3⟩:=Ka Fw.out.e1;have dI:=hd_ (Fw.out.put (loE b (ps.take (k+1)) (l.take (k+1))) (hiE b (ps.take (k+1)) (l.take (k+1))));have Ii:Hid (v.heap.size+2≤(Vu x4 v.heap.size (loE b (ps.take (k+1)) (l.take (k+1))) (hiE b (ps.take (k+1)) (l.take (k+1)))).heap.size):=by
     show _≤_
     unfold Vu;rw[World.size_setCell,World.size_setCell,World.size_setCell,World.size_setCell];exact Ml.out
    have nK:Hid (Zah (Vu x4 v.heap.size (loE b (ps.take (k+1)) (l.take (k+1))) (hiE b (ps.take (k+1)) (l.take (k+1)))) gp (ptQ b)):=by
     unfold Vu;exact Zah.set (Zah.set nJ.out (by have:=MR.out;omega) _ _) (by have:=MR.out;omega) _ _
    unfold Vu at dI Ii nK;clear Fw J4 Ml nJ DH Mn nL;refine RP.walkR_move ?_;simp only[Kh,dz_,Kg,tz_]
    go_wp2_with fail
    refine RP.walkR_move ?_;simp only[Kh,dz_,Kg,tz_]
    go_wp2_with fail
    simp only[RP.walkR]
    go_wp2_with fail
    refine⟨⟨k+1,by omega,by go_num,dI,Ii,nK⟩,by simp[intOf];omega⟩
  ·obtain rfl:k=n:=by omega
   have gm:¬ (k:Int)<k:=by omega
   have ek:=Hv.out trivial;rw[← ek.1,← ek.2] at HE;clear ek Hv HG;have Jc:Hid (RsI w v.heap.size (v.heap.size+1) vlo vhi wr):=by
    have GJ:=Nat.succ_le_of_lt (Array.getElem?_eq_some_iff.1 AI.out.e1).1;have h0:=HE.out.bel.block _ (Array.getElem?_eq_some_iff.1 AI.out.e0).1;have h1:=HE.out.bel.block _ (Array.getElem?_eq_some_iff.1 AI.out.e1).1;exact⟨⟨_,_,h0.trans AI.out.e0⟩,⟨_,_,h1.trans AI.out.e1⟩,HE.out.e0,HE.out.e1,GJ,by omega,Bm.out.trans (HE.out.bel.mono Bm.out.size)⟩
   have HR:=hd_ (Jc.out.drew 1);have Ec:∀ p:RsW w v.heap.size (v.heap.size+1) vlo vhi,p.w.cell? ⟨v.heap.size,0,none⟩=some (.string (itx vlo.num)):=fun p=>(Ka p.h.a).1
   have cm:∀ p:RsW w v.heap.size (v.heap.size+1) vlo vhi,p.w.cell? ⟨v.heap.size,1,none⟩=some (.string (dec vlo.den)):=fun p=>(Ka p.h.a).2.1
   have ck:∀ p:RsW w v.heap.size (v.heap.size+1) vlo vhi,p.w.cell? ⟨v.heap.size+1,0,none⟩=some (.string (itx vhi.num)):=fun p=>(Ka p.h.b).1
   have cg:∀ p:RsW w v.heap.size (v.heap.size+1) vlo vhi,p.w.cell? ⟨v.heap.size+1,1,none⟩=some (.string (dec vhi.den)):=fun p=>(Ka p.h.b).2.1
   have gk:Nonempty (RsW w v.heap.size (v.heap.size+1) vlo vhi):=⟨⟨_,HR.out⟩⟩
   go_wp2_with fail
   refine RP.wp_region_readers 3 [(1,0),(1,1),(0,2),(0,3)] (fun w'=>∃ p:RsW w v.heap.size (v.heap.size+1) vlo vhi,w'=p.w) (by kernel_rfl) (by kernel_rfl) ?_ ?_
   ·exact⟨⟨_,HR.out⟩,rfl⟩
   iterate 2 (refine RP.walkR_read ?_;simp only[Kh,dz_,Kg,tz_];go_big_quiet_step (fail);refine wpQuiet_nil ?_)
   clear gk Ec cm ck cg HE;obtain⟨x0,y0,e0⟩:=Jc.out.r0;obtain⟨k0,k1,f0,f1⟩:=Ka e0;have H0:=hd_ (Zfx e0 (.string (itx vlo.num)) (.string (dec vlo.den)));have LF:=hd_ ((Jc.out.put0 (.string (itx vlo.num)) (.string (dec vlo.den))).drew 1);refine RP.walkR_move ?_;simp only[Kh,dz_,Kg,tz_]
   go_wp2_with fail
   refine⟨⟨⟨_,LF.out⟩,rfl⟩,?_⟩;clear k0 k1 f0 f1 e0 HR Jc;have LE:Hid (RsI w v.heap.size (v.heap.size+1) vlo vhi ((wr.setCell ⟨w.heap.size,0,none⟩ (.string (itx vlo.num))).setCell ⟨w.heap.size,1,none⟩ (.string (dec vlo.den))).drew):=LF.out;replace H0:Hid (((wr.setCell ⟨w.heap.size,0,none⟩ (.string (itx vlo.num))).setCell ⟨w.heap.size,1,none⟩ (.string (dec vlo.den))).drew.heap[w.heap.size]?=some (.cells #[.string (itx vlo.num),.string (dec vlo.den)] 42 (0,0))):=H0.out;generalize ((wr.setCell ⟨w.heap.size,0,none⟩ (.string (itx vlo.num))).setCell ⟨w.heap.size,1,none⟩ (.string (dec vlo.den))).drew=wz at *
   obtain⟨x1,y1,e1⟩:=LE.out.r1;obtain⟨k2,k3,f2,f3⟩:=Ka e1;have H1:=hd_ (Zfx e1 (.string (itx vhi.num)) (.string (dec vhi.den)));have Oq:=hd_ (Zbl H0.out (g:=w.heap.size+1) (by omega) (.string (itx vhi.num)) (.string (dec vhi.den)))
   have B9:=hd_ ((LE.out.bel.setCell (p:=⟨w.heap.size+1,0,none⟩) (Nat.le_succ _) (.string (itx vhi.num))).setCell (p:=⟨w.heap.size+1,1,none⟩) (Nat.le_succ _) (.string (dec vhi.den)));refine RP.walkR_move ?_;simp only[Kh,dz_,Kg,tz_]
   go_wp2_with fail
   simp only[RP.walkR];clear k2 k3 f2 f3 e1 LF LE;generalize (wz.setCell ⟨w.heap.size+1,0,none⟩ (.string (itx vhi.num))).setCell ⟨w.heap.size+1,1,none⟩ (.string (dec vhi.den))=w9 at *
   obtain⟨c0',c1',-,-⟩:=Ka Oq.out;obtain⟨c2',c3',-,-⟩:=Ka H1.out
   go_wp2_with fail
   exact bodyPost_ret (v := .tuple #[.agg #[.string (itx vlo.num),.string (dec vlo.den)],.agg #[.string (itx vhi.num),.string (dec vhi.den)]]) (by simp[results,Tryz.results42,go_sem,c0',c1',c2',c3']) rfl ⟨rfl,B9.out⟩
  end Go.Proofs.YtnjedhgcfeoemaaGreatDoor

namespace Go.Proofs.YtnjedhgcfeoemaaGreatDoor
open Go.RowKit
theorem Zvz(q:Rat):nzQ q=false↔q=0:=by
 unfold nzQ;rw[bne_eq_false_iff_eq,Int.sign_eq_zero_iff_zero,Rat.num_eq_zero]
theorem Zf2(w:World)(a1:Option Addr)(c1:Nat)(l:List Rat)(rl:Rd w a1 (Kt l))(hn:l.length≤1000000)(L:Qd w):
  Kc Tryz.prog 59 #[.slice a1 l.length c1] w (.bool (!l.any nzQ)):=by
 unfold Kc;have dj:=hd_ rl;obtain⟨z,hz⟩:∃ z:Rat,z=0:=⟨_,rfl⟩;have N0:=hd_ (fun W (hW:Below w.heap.size w W)=>Zgy W 0 1 z (by rw[hz];decide +kernel) (by decide) (by decide) (by decide) (by decide) (L.below hW))
 have EC:Hid (∀ k,(∀ j (h:j<l.length),j<k→l[j]=z)→k=l.length→(!l.any nzQ)=true):=fun k h hk=>by
  rw[Bool.not_eq_true',List.any_eq_false];intro x hx;obtain⟨j,hj,rfl⟩:=List.getElem_of_mem hx;rw[h j hj (by omega),hz];decide
 have Cl:Hid (∀ k (h:k<l.length),l[k]≠z→(!l.any nzQ)=false):=fun k h gq=>by
  rw[Bool.not_eq_false',List.any_eq_true];refine⟨_,List.getElem_mem h,?_⟩;cases hb:nzQ l[k] with
  | true=>rfl
  | false=>exact absurd ((Zvz _).1 hb) (by rw[← hz];exact gq)
 clear hz L rl;obtain⟨n,FD⟩:∃ n,l.length=n:=⟨_,rfl⟩;have Hn:=hd_ FD;obtain⟨v,hv⟩:∃ v,(!l.any nzQ)=v:=⟨_,rfl⟩;rw[hv] at EC Cl ⊢;rw[FD] at hn ⊢;clear FD hv;unfold fr fv at N0;go_enter Tryz.func59,Tryz.ntmps59
 go_wp2_with fail
 go_loopw [3] (fun i wr=>∃ k:Nat,k≤n∧i = .int .i64 k∧Hid (∀ j (h:j<l.length),j<k→l[j]=z)∧Hid (Below w.heap.size w wr)) (fun i _=>n-(intOf i).toNat)
 case atStart=>exact⟨0,Nat.zero_le _,rfl,fun j _ hj=>absurd hj (Nat.not_lt_zero _),Below.refl _ _⟩
 case round =>
  obtain⟨k,hk,rfl,HP,HB⟩:=hrel
  by_cases H9:k<n
  ·have gm:(k:Int)<n:=by omega
   have gO:k<l.length:=by rw[Hn.out];exact H9
   have dR:IntKind.i64.wrap ((k:Int)+1)=((k+1:Nat):Int):=by rw[← Int.natCast_succ];exact iw_ _ (by omega)
   obtain⟨b1,o1,rfl,hZ,gK⟩:=dj.out.open (by rw[Kz];omega)
   obtain⟨x0,x1⟩:=Qm gK k (by rw[List.length_map];exact gO)
   rw[Qw l k gO] at x0 x1;rw[← HB.out.cell (p:=⟨b1,o1+k*2,none⟩) hZ] at x0;rw[← HB.out.cell (p:=⟨b1,o1+k*2+1,none⟩) hZ] at x1;have LH:Hid (l[k]=z→∀ j (h:j<l.length),j<k+1→l[j]=z):=fun he j g hj=>by
    rcases Nat.lt_or_ge j k with h|h
    ·exact HP.out j g h
    ·have e:j=k:=by omega
     subst e;exact he
   have Cm:=hd_ (Cl.out k gO);clear gK HP Cl EC;unfold qs at x0 x1;simp only at x0 x1;generalize l[k]=c at *
   have q0:=NW.cell x0;have q1:=NW.cell x1;have gk:Nonempty (NW wr):=⟨⟨wr,Below.refl _ _⟩⟩;have I:Hid (Below wr.heap.size wr wr.drew):=(Below.refl _ _).drew;clear x0 x1
   go_wp2_with fail
   refine RP.wp_region_readers 5 [(2,0),(2,1),(2,2),(1,3),(0,4),(0,5)] (fun w'=>∃ p:NW wr,w'=p.w) (by kernel_rfl) (by kernel_rfl) ?_ ?_
   ·exact⟨⟨_,I.out⟩,rfl⟩
   iterate 3 (refine RP.walkR_any ?_;simp only[Kh,dz_,Kg,tz_];go_big_quiet_step (fail);refine wpQuiet_nil ?_)
   refine RP.walkR_read ?_;simp only[Kh,dz_,Kg,tz_];go_big_quiet_step (fail);refine wpQuiet_nil ?_;clear gk q0 q1;refine RP.walkR_move ?_;simp only[Kh,dz_,Kg,tz_]
   go_wp2_with fail
   refine cm_ (N0.out _ (HB.out.trans (I.out.mono HB.out.size))) ?_;rintro e w4 ⟨rfl,hbx⟩;have J:Hid (Below w.heap.size w w4):=(HB.out.trans (I.out.mono HB.out.size)).trans (hbx.mono (HB.out.trans (I.out.mono HB.out.size)).size);have J0:Hid (Below wr.heap.size wr w4):=I.out.trans (hbx.mono I.out.size);clear hbx I
   go_wp2_with fail
   refine⟨⟨⟨_,J0.out⟩,rfl⟩,?_⟩;refine RP.walkR_move ?_;simp only[Kh,dz_,Kg,tz_];have hq:∀ W,(binOp .neq 42 (.agg #[.string (itx c.num),.string (dec c.den)]) (.agg #[.string (itx z.num),.string (dec z.den)])).run Tryz.prog W = .ok (.bool (!decide (c=z))) W:=fun W=>by rw[Zjh,Zk2]
   have ix:=fun W x y=>Zbu W .neq x y #[.string (itx c.num),.string (dec c.den)] #[.string (itx z.num),.string (dec z.den)]
   go_wp2_with fail
   clear hq ix;simp only[RP.walkR]
   by_cases hcz:c=z
   ·rw[decide_eq_true hcz,Bool.not_true];have Hq:=hd_ (LH.out hcz);clear hcz LH Cm
    go_wp2_with fail
    refine⟨⟨k+1,by omega,by go_num,Hq,J⟩,by simp[intOf];omega⟩
   ·rw[decide_eq_false hcz,Bool.not_false];have Hz:=hd_ (Cm.out hcz);clear hcz LH Cm
    go_wp2_with fail
    go_ret;exact⟨by rw[Hz.out];rfl,J.out⟩
  ·have gm:¬ (k:Int)<n:=by omega
   have Hz:=hd_ (EC.out k HP.out (by rw[Hn.out];omega))
   clear HP EC Cl
   go_wp2_with fail
   go_ret;exact⟨by rw[Hz.out];rfl,HB.out⟩
theorem Zct(w:World)(a0 a1:Option Addr)(c0 c1 D b:Nat)(ps:List Int)(l:List Rat)(rp:Rd w a0 (Qt ps))(rl:Rd w a1 (Kt l))(hl:l.length=ps.length)(hn:ps.length≤100)(hp:∀ p∈ps,∃ q:Nat,p=q∧(q=2∨q∈Yp))(hs:∀ q∈l,Sm D q)(hD:D≤300)(hb:b≤90)(L:Qd w):
  Kc Tryz.prog 61 #[.slice a0 ps.length c0,.slice a1 ps.length c1,.int .i64 b] w (.int .i64 (Zai b ps l)):=by
 have HE:=hd_ (Zlo w a0 a1 c0 c1 D b ps l rp rl hl hn hp hs hD hb L);have hv:=Zi6 b ps l;generalize Zai b ps l=v at *
 generalize loE b ps l=lo at *
 generalize hiE b ps l=hi at *
 have Ha:=hd_ (fun W=>Zi5 W lo)
 have Hb:=hd_ (fun W=>Zi5 W hi)
 have Hv:Hid (v=if 0≤lo.num.sign then 1 else if hi.num.sign≤0 then -1 else 0):=by show _=_;rw[← hv];rfl
 clear hv rp rl hp hs L;unfold Kc at HE ⊢;generalize ps.length=n at *
 unfold fr fv at HE Ha Hb;have H3:=hd_ (fun W=>Zvb.mk' W (itx lo.num) (dec lo.den) (itx hi.num) (dec hi.den))
 generalize lo.num.sign=sa at *
 generalize hi.num.sign=sb at *
 by_cases h1:0≤sa
 ·have FJ:Hid (v=1):=by show _=_;rw[Hv.out,if_pos h1]
  clear Hv Hb;go_enter Tryz.func61,Tryz.ntmps61
  go_wp2_with fail
  refine cm_ HE.out ?_;rintro e w0 ⟨rfl,g7⟩;have B0:=hd_ g7;replace H3:=hd_ (H3.out w0);clear g7 HE;obtain⟨k0,k1,-,-⟩:=Ka H3.out.fa
  go_wp2_with fail
  generalize (w0.alloc (.cells #[.string (itx lo.num),.string (dec lo.den)] 42)).alloc (.cells #[.string (itx hi.num),.string (dec hi.den)] 42)=W0 at *
  clear k0 k1;refine cm_ (Ha.out _) ?_;rintro e w1 ⟨rfl,hZ⟩;have B1:=hd_ (B0.out.trans ((H3.out.bel.trans (hZ.mono H3.out.bel.size)).mono B0.out.size));clear hZ Ha
  go_wp2_with fail
  go_ret;exact⟨by rw[FJ.out];rfl,B1.out⟩
 ·by_cases h2:sb≤0
  ·have FJ:Hid (v = -1):=by show _=_;rw[Hv.out,if_neg h1,if_pos h2]
   clear Hv;go_enter Tryz.func61,Tryz.ntmps61
   go_wp2_with fail
   refine cm_ HE.out ?_;rintro e w0 ⟨rfl,g7⟩;have B0:=hd_ g7;replace H3:=hd_ (H3.out w0);clear g7 HE;obtain⟨k0,k1,-,-⟩:=Ka H3.out.fa
   go_wp2_with fail
   generalize (w0.alloc (.cells #[.string (itx lo.num),.string (dec lo.den)] 42)).alloc (.cells #[.string (itx hi.num),.string (dec hi.den)] 42)=W0 at *
   clear k0 k1;refine cm_ (Ha.out _) ?_;rintro e w1 ⟨rfl,hZ⟩;have H4:=hd_ (H3.out.next hZ);clear hZ Ha H3;obtain⟨k2,k3,-,-⟩:=Ka H4.out.fb
   go_wp2_with fail
   clear k2 k3;refine cm_ (Hb.out _) ?_;rintro e w2 ⟨rfl,hZ⟩;have B1:=hd_ (B0.out.trans ((H4.out.bel.trans (hZ.mono H4.out.bel.size)).mono B0.out.size));clear hZ Hb
   go_wp2_with fail
   go_ret;exact⟨by rw[FJ.out];rfl,B1.out⟩
  ·have FJ:Hid (v=0):=by show _=_;rw[Hv.out,if_neg h1,if_neg h2]
   clear Hv;go_enter Tryz.func61,Tryz.ntmps61
   go_wp2_with fail
   refine cm_ HE.out ?_;rintro e w0 ⟨rfl,g7⟩;have B0:=hd_ g7;replace H3:=hd_ (H3.out w0);clear g7 HE;obtain⟨k0,k1,-,-⟩:=Ka H3.out.fa
   go_wp2_with fail
   generalize (w0.alloc (.cells #[.string (itx lo.num),.string (dec lo.den)] 42)).alloc (.cells #[.string (itx hi.num),.string (dec hi.den)] 42)=W0 at *
   clear k0 k1;refine cm_ (Ha.out _) ?_;rintro e w1 ⟨rfl,hZ⟩;have H4:=hd_ (H3.out.next hZ);clear hZ Ha H3;obtain⟨k2,k3,-,-⟩:=Ka H4.out.fb
   go_wp2_with fail
   clear k2 k3;refine cm_ (Hb.out _) ?_;rintro e w2 ⟨rfl,hZ⟩;have B1:=hd_ (B0.out.trans ((H4.out.bel.trans (hZ.mono H4.out.bel.size)).mono B0.out.size));clear hZ Hb
   go_wp2_with fail
   go_ret;exact⟨by rw[FJ.out];rfl,B1.out⟩
structure BdI (w wr:World) (a:Option Addr) (m c:Nat) (bl:List (Int×Int×ByteArray)):Prop where
 own:wr.ownsRow w.heap.size 27 3 (.slice a m c) m (Qb bl)
 bel:Below w.heap.size w wr
theorem BdI.below{w wr w':World}{a:Option Addr}{m c:Nat}{bl:List (Int×Int×ByteArray)}(h:BdI w wr a m c bl)(hb:Below wr.heap.size wr w'):BdI w w' a m c bl :=
 ⟨Vw h.own hb nr_,h.bel.trans (hb.mono h.bel.size)⟩
theorem BdI.push{w W w5:World}{mm c d:Nat}{a a3:Option Addr}{bl:List (Int×Int×ByteArray)}{x:Int×Int×ByteArray}{news:List Value}(h:BdI w W a mm c bl)
  (hnews:news=[.int .i64 x.1,.int .i64 x.2.1,.string x.2.2])
  (hg:(W.alloc (.cells news.toArray 27)).grownBy w5 (Value.slice a mm c).ownBlock) (ho:w5.ownsRow w.heap.size 27 3 (.slice a3 (mm+1) d) (mm+1) (Qb bl++news)) :
  BdI w w5 a3 (mm+1) d (bl++[x]):=by
 refine⟨?_,(h.bel.alloc h.bel.size _).grown hg (by simp;have:=h.bel.size;omega) (fun k hk=>(World.ownsRow.lt h.own k hk).1)⟩
 rw[Zd9];subst hnews;exact ho
theorem Zbf(w:World)(a0 a1:Option Addr)(c0 c1 b:Nat)(ps:List Int)(l:List Rat)(rp:Rd w a0 (Qt ps))(rl:Rd w a1 (Kt l))(hl:l.length=ps.length)(hn:ps.length≤100)(hp:∀ p∈ps,∃ q:Nat,p=q∧(q=2∨q∈Yp))(hb:b≤90)(L:Qd w):
  Calls Tryz.prog 60 #[.slice a0 ps.length c0,.slice a1 ps.length c1,.int .i64 b] w fun e w'=>∃ a c,e = .returned (.slice a (Zam b ps l).length c)∧Rd w' a (Qb (Zam b ps l))∧Below w.heap.size w w':=by
 have Hp:=hd_ hp;have Hl:=hd_ hl;have HL:=hd_ L;have Dh:=hd_ rp;have dj:=hd_ rl;obtain⟨z,hz⟩:∃ z:Rat,z=0:=⟨_,rfl⟩;have Ih:=hd_ hz;have N0:=hd_ (fun W (hW:Below w.heap.size w W)=>Zgy W 0 1 z (by rw[hz];decide +kernel) (by decide) (by decide) (by decide) (by decide) (L.below hW))
 clear hz L rp rl hp hl;obtain⟨n,FD⟩:∃ n,ps.length=n:=⟨_,rfl⟩;have Hn:=hd_ FD;rw[FD] at hn ⊢;clear FD;unfold fr fv at N0;have G3:Hid (BdI w w none 0 0 (Zam b (ps.take 0) (l.take 0))):=⟨World.ownsRow_nil ..,Below.refl _ _⟩;go_enter Tryz.func60,Tryz.ntmps60
 go_wp2_with fail
 go_loopw [7,8] (fun o i wr=>∃ (k:Nat) (a:Option Addr) (c mm:Nat),k≤n∧o = .slice a mm c∧i = .int .i64 k∧mm≤k∧Hid (mm=(Zam b (ps.take k) (l.take k)).length)∧Hid (BdI w wr a mm c (Zam b (ps.take k) (l.take k)))) (fun _ i _=>n-(intOf i).toNat)
 case atStart=>exact⟨0,none,0,0,Nat.zero_le _,rfl,rfl,Nat.le_refl _,rfl,G3⟩
 case round =>
  obtain⟨k,a,c,mm,hk,rfl,rfl,BU,Hmm,HI⟩:=hrel;clear G3
  by_cases H9:k<n
  ·have gm:(k:Int)<n:=by omega
   have GD:k<ps.length:=by rw[Hn.out];exact H9
   have gO:k<l.length:=by rw[Hl.out];exact GD
   have CY:=hd_ HI.out.bel;obtain⟨b0,o0,rfl,g7,fB⟩:=Dh.out.open (by rw[Qf];omega)
   have Fb:Hid (∀ W,Below w.heap.size w W→W.cell? ⟨b0,o0+k,none⟩=some (.int .i64 ps[k])):=fun W hW=>by
    rw[hW.cell (p:=⟨b0,o0+k,none⟩) g7];exact fB k _ (Ym ps k GD)
   obtain⟨b1,o1,rfl,hZ,gK⟩:=dj.out.open (by rw[Kz];omega)
   obtain⟨x0,x1⟩:=Qm gK k (by rw[List.length_map];exact gO)
   rw[Qw l k gO] at x0 x1;rw[← CY.out.cell (p:=⟨b1,o1+k*2,none⟩) hZ] at x0;rw[← CY.out.cell (p:=⟨b1,o1+k*2+1,none⟩) hZ] at x1;have dR:IntKind.i64.wrap ((k:Int)+1)=((k+1:Nat):Int):=by rw[← Int.natCast_succ];exact iw_ _ (by omega)
   have db:=hd_ (Zhi b ps l k GD gO);obtain⟨q,hq,Gh⟩:=Hp.out _ (List.getElem_mem GD);have CA:=hd_ (fun W (hW:Below w.heap.size w W)=>Zo3 W q b Gh hb (HL.out.below hW))
   rw[hq] at Fb db;clear fB gK hq Gh;unfold qs at x0 x1;simp only at x0 x1;generalize l[k]=cc at *
   have q0:=NW.cell x0;have q1:=NW.cell x1;have gk:Nonempty (NW wr):=⟨⟨wr,Below.refl _ _⟩⟩;have I:Hid (Below wr.heap.size wr wr.drew):=(Below.refl _ _).drew;clear x0 x1
   go_wp2_with fail
   refine RP.wp_region_readers 5 [(2,0),(2,1),(2,2),(1,3),(0,4),(0,5)] (fun w'=>∃ p:NW wr,w'=p.w) (by kernel_rfl) (by kernel_rfl) ?_ ?_
   ·exact⟨⟨_,I.out⟩,rfl⟩
   iterate 3 (refine RP.walkR_any ?_;simp only[Kh,dz_,Kg,tz_];go_big_quiet_step (fail);refine wpQuiet_nil ?_)
   refine RP.walkR_read ?_;simp only[Kh,dz_,Kg,tz_];go_big_quiet_step (fail);refine wpQuiet_nil ?_;clear gk q0 q1;refine RP.walkR_move ?_;simp only[Kh,dz_,Kg,tz_]
   go_wp2_with fail
   refine cm_ (N0.out _ (CY.out.trans (I.out.mono CY.out.size))) ?_;rintro e w4 ⟨rfl,hbx⟩;have J:Hid (Below wr.heap.size wr w4):=I.out.trans (hbx.mono I.out.size);clear hbx I
   go_wp2_with fail
   refine⟨⟨⟨_,J.out⟩,rfl⟩,?_⟩;refine RP.walkR_move ?_;simp only[Kh,dz_,Kg,tz_];have hq:∀ W,(binOp .neq 42 (.agg #[.string (itx cc.num),.string (dec cc.den)]) (.agg #[.string (itx z.num),.string (dec z.den)])).run Tryz.prog W = .ok (.bool (!decide (cc=z))) W:=fun W=>by rw[Zjh,Zk2]
   have ix:=fun W x y=>Zbu W .neq x y #[.string (itx cc.num),.string (dec cc.den)] #[.string (itx z.num),.string (dec z.den)]
   go_wp2_with fail
   clear hq ix;simp only[RP.walkR];have gn:=hd_ (HI.out.below J.out);clear HI J CY
   by_cases hcz:cc=z
   ·rw[decide_eq_true hcz,Bool.not_true];have FI:=db.out;rw[if_pos (by rw[hcz,Ih.out];rfl),List.append_nil] at FI
    have GZ:=hd_ FI;clear FI db CA Fb hcz
    go_wp2_with fail
    refine⟨⟨k+1,a,c,mm,by omega,rfl,by go_num,by omega,by rw[GZ.out];exact Hmm,by rw[GZ.out];exact gn⟩,by simp[intOf];omega⟩
   ·rw[decide_eq_false hcz,Bool.not_false];have FI:=db.out;rw[if_neg (fun h=>hcz (by rw[Ih.out];exact Rat.num_eq_zero.1 h))] at FI
    have GZ:=hd_ FI;clear FI db hcz;have cp:=Fb.out w4 gn.out.bel;have q0:=NW.cell cp;have gk:Nonempty (NW w4):=⟨⟨w4,Below.refl _ _⟩⟩;have I:Hid (Below w4.heap.size w4 w4.drew):=(Below.refl _ _).drew;clear cp
    go_wp2_with fail
    refine RP.wp_region_readers 14 [(2,0),(2,1),(2,2),(2,3),(1,4),(2,5),(2,6),(2,7),(2,8),(1,9),(2,10),(0,11),(0,12),(0,13),(0,14),(0,15)] (fun w'=>∃ p:NW w4,w'=p.w) (by kernel_rfl) (by kernel_rfl) ?_ ?_
    ·exact⟨⟨_,I.out⟩,rfl⟩
    iterate 4 (refine RP.walkR_any ?_;simp only[Kh,dz_,Kg,tz_];go_big_quiet_step (fail);refine wpQuiet_nil ?_)
    iterate 1 (refine RP.walkR_read ?_;simp only[Kh,dz_,Kg,tz_];go_big_quiet_step (fail);refine wpQuiet_nil ?_)
    iterate 4 (refine RP.walkR_any ?_;simp only[Kh,dz_,Kg,tz_];go_big_quiet_step (fail);refine wpQuiet_nil ?_)
    iterate 1 (refine RP.walkR_read ?_;simp only[Kh,dz_,Kg,tz_];go_big_quiet_step (fail);refine wpQuiet_nil ?_)
    iterate 1 (refine RP.walkR_any ?_;simp only[Kh,dz_,Kg,tz_];go_big_quiet_step (fail);refine wpQuiet_nil ?_)
    clear gk q0;refine RP.walkR_move ?_;simp only[Kh,dz_,Kg,tz_]
    go_wp2_with fail
    refine cm_ (CA.out _ (gn.out.bel.trans (I.out.mono gn.out.bel.size))) ?_;rintro e x1 ⟨rfl,hb⟩;have I1:Hid (Below w4.heap.size w4 x1):=I.out.trans (hb.mono I.out.size);clear hb I CA
    go_wp2_with fail
    refine⟨⟨⟨_,I1.out⟩,rfl⟩,?_⟩;refine RP.walkR_move ?_;simp only[Kh,dz_,Kg,tz_]
    go_wp2_with fail
    refine⟨⟨⟨_,I1.out⟩,rfl⟩,?_⟩;refine RP.walkR_move ?_;simp only[Kh,dz_,Kg,tz_]
    go_wp2_with fail
    refine⟨⟨⟨_,I1.out.alloc I1.out.size _⟩,rfl⟩,?_⟩;have gF:=hd_ (gn.out.below I1.out);have fF:=hd_ gF.out.bel.size;refine RP.walkR_move ?_;simp only[Kh,dz_,Kg,tz_]
    go_wp2_with (at_builtin;refine Km rfl (.tmp 21) (.tmp 34) 49 rfl Qcv _ 1 [.int .i64 q,.int .i64 b,.string (dec (lgN q b))] rfl rfl gF.out.own fF.out rfl (by simp[Value.oneCell']) (by omega) (by omega) ?_)
    intro v' w5 gu Gc GM;obtain⟨a3,d3,rfl⟩:=Qk gu;have cH:=gF.out.push (x:=((q:Int),(b:Int),dec (lgN q b))) rfl Gc gu;rw[← GZ.out] at cH;have fK:=hd_ cH;have Cs:Hid (mm+1=(Zam b (ps.take (k+1)) (l.take (k+1))).length):=by
     show _=_
     rw[GZ.out,List.length_append,← Hmm.out];rfl
    clear gu Gc GM cH gF I1
    go_wp2_with fail
    refine RP.walkR_move ?_;simp only[Kh,dz_,Kg,tz_]
    go_wp2_with fail
    simp only[RP.walkR]
    go_wp2_with fail
    refine⟨⟨k+1,a3,d3,mm+1,by omega,rfl,by go_num,by omega,Cs,fK⟩,by simp[intOf];omega⟩
  ·obtain rfl:k=n:=by omega
   have gm:¬ (k:Int)<k:=by omega
   have FS:Zam b (ps.take k) (l.take k)=Zam b ps l:=by
    rw[← Hn.out,List.take_length,List.take_of_length_le (by rw[Hl.out];omega)]
   rw[FS] at Hmm HI;clear FS
   go_wp2_with fail
   go_ret;exact⟨a,⟨c,by rw[← Hmm.out];rfl⟩,Zm9 HI.out.own,HI.out.bel⟩
theorem Zj3(w:World)(a0 a1:Option Addr)(c0 c1 D:Nat)(ps:List Int)(l:List Rat)(rp:Rd w a0 (Qt ps))(rl:Rd w a1 (Kt l))(hl:l.length=ps.length)(hn:ps.length≤100)(hp:∀ p∈ps,∃ q:Nat,p=q∧(q=2∨q∈Yp))(hs:∀ q∈l,Sm D q)(hD:D≤300)(L:Qd w)(hz:l.any nzQ=false):
  Kc Tryz.prog 64 #[.slice a0 ps.length c0,.slice a1 ps.length c1] w (.tuple #[Zee 0 0 none 0 0,.bool true]):=by
 unfold Kc Zee;have BK:(!l.any nzQ)=true:=by rw[hz];rfl
 have HZ:=hd_ (fun W (hW:Below w.heap.size w W)=>Zf2 W a1 c1 l (rl.below hW nr_) (by omega) (L.below hW))
 rw[hl,BK] at HZ;have Ac:=hd_ (fun (b:Nat) (hb:b≤60) W (hW:Below w.heap.size w W)=>Zct W a0 a1 c0 c1 D b ps l (rp.below hW nr_) (rl.below hW nr_) hl hn hp hs hD (by omega) (L.below hW))
 have DJ:=hd_ (fun (b:Nat) (hb:b≤60) W (hW:Below w.heap.size w W)=>Zbf W a0 a1 c0 c1 b ps l (rp.below hW nr_) (rl.below hW nr_) hl hn hp (by omega) (L.below hW))
 clear rp rl hl hn hp hs L;have B0:=hd_ ((Below.refl w.heap.size w).alloc nr_ (.cells #[.int .i64 0,.int .i64 0,.slice none 0 0] 51));have O:Hid ((w.alloc (.cells #[.int .i64 0,.int .i64 0,.slice none 0 0] 51)).heap[w.heap.size]?=some (.cells #[.int .i64 0,.int .i64 0,.slice none 0 0] 51 (0,0))):=heap_alloc_new w _;generalize ps.length=np at *
 go_enter Tryz.func64,Tryz.ntmps64
 go_wp2_with fail
 generalize w.alloc (.cells #[.int .i64 0,.int .i64 0,.slice none 0 0] 51)=W0 at *
 refine cm_ (HZ.out _ B0.out) ?_;rintro e w1 ⟨rfl,hb⟩;replace O:=hd_ (Kd O.out hb nr_);have B1:=hd_ (B0.out.trans (hb.mono B0.out.size));clear hb HZ B0;clear Ac DJ;obtain⟨k0,k1,k2,kf⟩:=Ki O.out;have f0:=kf 0;have f1:=kf 1;have f2:=kf 2;clear kf;go_wp2;obtain⟨z0,z1,z2,hb3⟩:=Zi (.int .i64 0) (.int .i64 0) (.slice none 0 0) k0 k1 k2 nr_ B1.out;generalize ((w1.setCell ⟨w.heap.size,0,none⟩ (.int .i64 0)).setCell ⟨w.heap.size,1,none⟩ (.int .i64 0)).setCell ⟨w.heap.size,2,none⟩ (.slice none 0 0)=w9 at *
 exact bodyPost_ret (v := .tuple #[.agg #[.int .i64 0,.int .i64 0,.slice none 0 0],.bool true]) (by simp[results,Tryz.results64,go_sem,z0,z1,z2]) rfl ⟨rfl,hb3⟩
theorem Zlx(w:World)(a0 a1:Option Addr)(c0 c1 D:Nat)(ps:List Int)(l:List Rat)(rp:Rd w a0 (Qt ps))(rl:Rd w a1 (Kt l))(hl:l.length=ps.length)(hn:ps.length≤100)(hp:∀ p∈ps,∃ q:Nat,p=q∧(q=2∨q∈Yp))(hs:∀ q∈l,Sm D q)(hD:D≤300)(L:Qd w)(hz:l.any nzQ=true)(gJ:∀ j,j<61→Zai j ps l=0):
  Kc Tryz.prog 64 #[.slice a0 ps.length c0,.slice a1 ps.length c1] w (.tuple #[Zee 0 0 none 0 0,.bool false]):=by
 unfold Kc Zee;have BK:(!l.any nzQ)=false:=by rw[hz];rfl
 have F7:=hd_ gJ;clear gJ;have HZ:=hd_ (fun W (hW:Below w.heap.size w W)=>Zf2 W a1 c1 l (rl.below hW nr_) (by omega) (L.below hW))
 rw[hl,BK] at HZ;have Ac:=hd_ (fun (b:Nat) (hb:b≤60) W (hW:Below w.heap.size w W)=>Zct W a0 a1 c0 c1 D b ps l (rp.below hW nr_) (rl.below hW nr_) hl hn hp hs hD (by omega) (L.below hW))
 have DJ:=hd_ (fun (b:Nat) (hb:b≤60) W (hW:Below w.heap.size w W)=>Zbf W a0 a1 c0 c1 b ps l (rp.below hW nr_) (rl.below hW nr_) hl hn hp (by omega) (L.below hW))
 clear rp rl hl hn hp hs L;have B0:=hd_ ((Below.refl w.heap.size w).alloc nr_ (.cells #[.int .i64 0,.int .i64 0,.slice none 0 0] 51));have O:Hid ((w.alloc (.cells #[.int .i64 0,.int .i64 0,.slice none 0 0] 51)).heap[w.heap.size]?=some (.cells #[.int .i64 0,.int .i64 0,.slice none 0 0] 51 (0,0))):=heap_alloc_new w _;generalize ps.length=np at *
 go_enter Tryz.func64,Tryz.ntmps64
 go_wp2_with fail
 generalize w.alloc (.cells #[.int .i64 0,.int .i64 0,.slice none 0 0] 51)=W0 at *
 refine cm_ (HZ.out _ B0.out) ?_;rintro e w1 ⟨rfl,hb⟩;replace O:=hd_ (Kd O.out hb nr_);have B1:=hd_ (B0.out.trans (hb.mono B0.out.size));clear hb HZ B0;clear DJ;clear hz BK
 go_wp2_with fail
 go_loopw [6] (fun i wr=>∃ k:Nat,k≤61∧i = .int .i64 k∧Hid (wr.heap[w.heap.size]?=some (.cells #[.int .i64 0,.int .i64 0,.slice none 0 0] 51 (0,0)))∧Hid (Below w.heap.size w wr)) (fun i _=>61-(intOf i).toNat)
 case atStart=>exact⟨0,Nat.zero_le _,rfl,O,B1⟩
 case round =>
  clear O B1;obtain⟨k,hk,rfl,O,B⟩:=hrel
  by_cases H9:k<61
  ·have gm:(k:Int)≤60:=by omega
   have dR:IntKind.i64.wrap ((k:Int)+1)=((k+1:Nat):Int):=by rw[← Int.natCast_succ];exact iw_ _ (by omega)
   have hd:=Ac.out k (by omega) wr B.out
   rw[F7.out k H9] at hd;have Hd:=hd_ hd;clear hd
   go_wp2_with fail
   refine cm_ Hd.out ?_;rintro e w2 ⟨rfl,hb⟩;have O2:=hd_ (Kd O.out hb nr_);have B2:=hd_ (B.out.trans (hb.mono B.out.size));clear hb Hd
   go_wp2_with fail
   refine⟨⟨k+1,by omega,by go_num,O2,B2⟩,by simp[intOf];omega⟩
  ·obtain rfl:k=61:=by omega
   have gm:¬ ((61:Nat):Int)≤60:=by omega
   obtain⟨k0,k1,k2,kf⟩:=Ki O.out;have f0:=kf 0;have f1:=kf 1;have f2:=kf 2;clear kf;go_wp2;obtain⟨z0,z1,z2,hb3⟩:=Zi (.int .i64 0) (.int .i64 0) (.slice none 0 0) k0 k1 k2 nr_ B.out;generalize ((wr.setCell ⟨w.heap.size,0,none⟩ (.int .i64 0)).setCell ⟨w.heap.size,1,none⟩ (.int .i64 0)).setCell ⟨w.heap.size,2,none⟩ (.slice none 0 0)=w9 at *
   exact bodyPost_ret (v := .tuple #[.agg #[.int .i64 0,.int .i64 0,.slice none 0 0],.bool false]) (by simp[results,Tryz.results64,go_sem,z0,z1,z2]) rfl ⟨rfl,hb3⟩
theorem Zlw(w:World)(a0 a1:Option Addr)(c0 c1 D:Nat)(ps:List Int)(l:List Rat)(rp:Rd w a0 (Qt ps))(rl:Rd w a1 (Kt l))(hl:l.length=ps.length)(hn:ps.length≤100)(hp:∀ p∈ps,∃ q:Nat,p=q∧(q=2∨q∈Yp))(hs:∀ q∈l,Sm D q)(hD:D≤300)(L:Qd w)(hz:l.any nzQ=true)(n:Nat)(h60:n≤60)(gJ:∀ j,j<n→Zai j ps l=0)(gq:Zai n ps l≠0):
  Calls Tryz.prog 64 #[.slice a0 ps.length c0,.slice a1 ps.length c1] w fun e w'=>∃ a c,e = .returned (.tuple #[Zee (Zai n ps l) n a (Zam n ps l).length c,.bool true])∧Rd w' a (Qb (Zam n ps l))∧Below w.heap.size w w':=by
 unfold Zee;have BK:(!l.any nzQ)=false:=by rw[hz];rfl
 have F7:=hd_ gJ;clear gJ;have Dn:(Zai n ps l != 0)=true:=by rw[bne_iff_ne];exact gq
 have ML:=hd_ Dn;clear Dn gq;have HZ:=hd_ (fun W (hW:Below w.heap.size w W)=>Zf2 W a1 c1 l (rl.below hW nr_) (by omega) (L.below hW))
 rw[hl,BK] at HZ;have Ac:=hd_ (fun (b:Nat) (hb:b≤60) W (hW:Below w.heap.size w W)=>Zct W a0 a1 c0 c1 D b ps l (rp.below hW nr_) (rl.below hW nr_) hl hn hp hs hD (by omega) (L.below hW))
 have DJ:=hd_ (fun (b:Nat) (hb:b≤60) W (hW:Below w.heap.size w W)=>Zbf W a0 a1 c0 c1 b ps l (rp.below hW nr_) (rl.below hW nr_) hl hn hp (by omega) (L.below hW))
 clear rp rl hl hn hp hs L;have B0:=hd_ ((Below.refl w.heap.size w).alloc nr_ (.cells #[.int .i64 0,.int .i64 0,.slice none 0 0] 51));have O:Hid ((w.alloc (.cells #[.int .i64 0,.int .i64 0,.slice none 0 0] 51)).heap[w.heap.size]?=some (.cells #[.int .i64 0,.int .i64 0,.slice none 0 0] 51 (0,0))):=heap_alloc_new w _;generalize ps.length=np at *
 go_enter Tryz.func64,Tryz.ntmps64
 go_wp2_with fail
 generalize w.alloc (.cells #[.int .i64 0,.int .i64 0,.slice none 0 0] 51)=W0 at *
 refine cm_ (HZ.out _ B0.out) ?_;rintro e w1 ⟨rfl,hb⟩;replace O:=hd_ (Kd O.out hb nr_);have B1:=hd_ (B0.out.trans (hb.mono B0.out.size));clear hb HZ B0;clear hz BK
 go_wp2_with fail
 go_loopw [6] (fun i wr=>∃ k:Nat,k≤n∧i = .int .i64 k∧Hid (wr.heap[w.heap.size]?=some (.cells #[.int .i64 0,.int .i64 0,.slice none 0 0] 51 (0,0)))∧Hid (Below w.heap.size w wr)) (fun i _=>n-(intOf i).toNat)
 case atStart=>exact⟨0,Nat.zero_le _,rfl,O,B1⟩
 case round =>
  clear O B1;obtain⟨k,hk,rfl,O,B⟩:=hrel
  by_cases H9:k<n
  ·have gm:(k:Int)≤60:=by omega
   have dR:IntKind.i64.wrap ((k:Int)+1)=((k+1:Nat):Int):=by rw[← Int.natCast_succ];exact iw_ _ (by omega)
   have hd:=Ac.out k (by omega) wr B.out
   rw[F7.out k H9] at hd;have Hd:=hd_ hd;clear hd
   go_wp2_with fail
   refine cm_ Hd.out ?_;rintro e w2 ⟨rfl,hb⟩;have O2:=hd_ (Kd O.out hb nr_);have B2:=hd_ (B.out.trans (hb.mono B.out.size));clear hb Hd
   go_wp2_with fail
   refine⟨⟨k+1,by omega,by go_num,O2,B2⟩,by simp[intOf];omega⟩
  ·obtain rfl:k=n:=by omega
   have gm:(k:Int)≤60:=by omega
   have Hd:=hd_ (Ac.out k h60 wr B.out)
   go_wp2_with fail
   refine cm_ Hd.out ?_;rintro e w2 ⟨rfl,hb⟩;replace O:=hd_ (Kd O.out hb nr_);replace B:=hd_ (B.out.trans (hb.mono B.out.size));clear hb Hd Ac;have Dn:=ML.out;have AM:=hd_ (DJ.out k h60 w2 B.out);clear DJ ML;obtain⟨dd,dB⟩:∃ dd,Zai k ps l=dd:=⟨_,rfl⟩;obtain⟨XL,hXL⟩:∃ XL,Zam k ps l=XL:=⟨_,rfl⟩;have BA:=hd_ dB;have M8:=hd_ hXL;rw[dB] at Dn ⊢;rw[hXL] at AM;clear dB hXL
   go_wp2_with fail
   refine cm_ AM.out ?_;rintro e w3 ⟨a,c,rfl,hr,hb⟩;replace O:=hd_ (Kd O.out hb nr_);replace B:=hd_ (B.out.trans (hb.mono B.out.size));have Hr:=hd_ hr;clear hb AM hr;have Nu:=(Array.getElem?_eq_some_iff.1 O.out).1;have Ho:=O;obtain⟨k0,k1,k2,kf⟩:=Ki O.out;have f0:=kf 0;have f1:=kf 1;have f2:=kf 2;clear kf;go_wp2;obtain⟨z0,z1,z2,hb3⟩:=Zi (.int .i64 dd) (.int .i64 k) (.slice a XL.length c) k0 k1 k2 nr_ B.out;have oW:Rd (((w3.setCell ⟨w.heap.size,0,none⟩ (.int .i64 dd)).setCell ⟨w.heap.size,1,none⟩ (.int .i64 k)).setCell ⟨w.heap.size,2,none⟩ (.slice a XL.length c)) a (Qb XL):=Zsr Hr.out Ho.out (fun b hb=>by rw[Below.heap_setCell _ _ _ _ hb,Below.heap_setCell _ _ _ _ hb,Below.heap_setCell _ _ _ _ hb]) (by rw[World.size_setCell,World.size_setCell,World.size_setCell])
   generalize ((w3.setCell ⟨w.heap.size,0,none⟩ (.int .i64 dd)).setCell ⟨w.heap.size,1,none⟩ (.int .i64 k)).setCell ⟨w.heap.size,2,none⟩ (.slice a XL.length c)=w9 at *
   exact bodyPost_ret (v := .tuple #[.agg #[.int .i64 dd,.int .i64 k,.slice a XL.length c],.bool true]) (by simp[results,Tryz.results64,go_sem,z0,z1,z2]) rfl ⟨a,c,by rw[BA.out,M8.out],by rw[M8.out];exact oW,hb3⟩
theorem Zw1(x y:Int×Int×ByteArray):(x.1==y.1&&x.2.1==y.2.1&&x.2.2.toList==y.2.2.toList)=decide (x=y):=by
 by_cases h:x=y
 ·subst h;simp
 ·rw[decide_eq_false h,Bool.eq_false_iff];intro hc;rw[Bool.and_eq_true,Bool.and_eq_true] at hc;exact h (Prod.ext (eq_of_beq hc.1.1) (Prod.ext (eq_of_beq hc.1.2) (toList_inj hc.2)))
theorem Ztb(W:World)(p n p' n':Int)(s s':ByteArray):
  (binOp .neq 27 (.agg #[.int .i64 p,.int .i64 n,.string s]) (.agg #[.int .i64 p',.int .i64 n',.string s'])).run Tryz.prog W = .ok (.bool (!(p==p'&&n==n'&&s.toList==s'.toList))) W:=by
 rw[run_neq_struct,show (10000:Nat)=9998+1+1 from rfl,run_equalIn_agg (ht:=Zop) (hp:=Zsd),Zg3 W _ p n p' n' s s' _ Zpc]
 rfl
theorem Zgn{C:World→Prop}{K:Act→Prop}{a:Act}{o:Oper}(x y:Operand)(r:TypeId)(p q:Int×Int×ByteArray)(h:o.op = .binOp .neq 27 x y r)(hx:a.eval x = .agg #[.int .i64 p.1,.int .i64 p.2.1,.string p.2.2])(hy:a.eval y = .agg #[.int .i64 q.1,.int .i64 q.2.1,.string q.2.2])
  (hk:K (a.put o.dst (.bool (!decide (p=q))))):o.quiet Tryz.prog a C K :=
 ⟨_,fun w _=>by
  unfold Oper.quietAt execOp;rw[h];simp only[Sem.run_bind,hx,hy,Zg1,Ztb,Result.andThen_ok,Sem.run_pure,Zw1];exact⟨rfl,rfl⟩,hk⟩
theorem Zro(w:World)(a1 a2:Option Addr)(c1 c2:Nat)(la lb:List (Int×Int×ByteArray))(r1:Rd w a1 (Qb la))(r2:Rd w a2 (Qb lb))(fY:la.length≤1000000)(hbig2:lb.length≤1000000):
  Kc Tryz.prog 91 #[.slice a1 la.length c1,.slice a2 lb.length c2] w (.bool (decide (la=lb))):=by
 unfold Kc
 by_cases hl:la.length=lb.length
 ·have R1:=hd_ r1;have R2:=hd_ r2;have EC:Hid (∀ k,(∀ j (h1:j<la.length) (h2:j<lb.length),j<k→la[j]=lb[j])→k=la.length→la=lb):=fun k h hk=>List.ext_getElem hl fun i h1 h2=>h i h1 h2 (by omega)
  have Cl:Hid (∀ k (h1:k<la.length) (h2:k<lb.length),la[k]≠lb[k]→¬ la=lb):=fun k h1 h2 gq he=>gq (by subst he;rfl)
  obtain⟨n,hn⟩:∃ n,la.length=n:=⟨_,rfl⟩;have hm:lb.length=n:=hl.symm.trans hn;rw[hn] at fY;rw[hn,hm];have Hn:=hd_ hn;have Hm:=hd_ hm;clear hl r1 r2 hn hm hbig2;go_enter Tryz.func91,Tryz.ntmps91
  go_wp2_with fail
  go_loopw [13] (fun i wr=>∃ k:Nat,k≤n∧i = .int .i64 k∧Hid (∀ j (h1:j<la.length) (h2:j<lb.length),j<k→la[j]=lb[j])∧Hid (Below w.heap.size w wr)) (fun i _=>n-(intOf i).toNat)
  case atStart=>exact⟨0,Nat.zero_le _,rfl,fun j _ _ hj=>absurd hj (Nat.not_lt_zero _),Below.refl _ _⟩
  case round =>
   obtain⟨k,hk,rfl,Hp,B⟩:=hrel
   by_cases H9:k<n
   ·have gm:(k:Int)<n:=by omega
    have h1:k<la.length:=by rw[Hn.out];exact H9
    have h2:k<lb.length:=by rw[Hm.out];exact H9
    obtain⟨b,off,rfl,x0,x1,x2⟩:=Zkz R1.out B.out nr_ k h1;obtain⟨b',off',rfl,y0,y1,y2⟩:=Zkz R2.out B.out nr_ k h2;have Cf:Hid (la[k]=lb[k]→∀ j (h1:j<la.length) (h2:j<lb.length),j<k+1→la[j]=lb[j]):=fun he j g1 g2 hj=>by
     rcases Nat.lt_or_ge j k with h|h
     ·exact Hp.out j g1 g2 h
     ·have e:j=k:=by omega
      subst e;exact he
    have Cm:=hd_ (Cl.out k h1 h2);clear Hp;generalize la[k]=p at *
    generalize lb[k]=q at *
    have q0:=cell_regrown x0;have q1:=cell_regrown x1;have q2:=cell_regrown x2;have q3:=cell_regrown y0;have q4:=cell_regrown y1;have q5:=cell_regrown y2;have HK:=hd_ H9
    go_wp2_with fail
    clear x0 x1 x2 y0 y1 y2;refine wp_region_quiet_below (by kernel_rfl) (by kernel_rfl) ?_
    repeat (first | go_big_quiet_step (fail) | quiet_step (fail))
    refine BigFrame.wpQuiet_want rfl fun K hK=>Zgn _ _ _ p q rfl rfl rfl (hK _ ?_)
    refine wpQuiet_nil ?_;intro w6 hw6;obtain⟨⟨dq,osq⟩,rfl⟩:=hw6;have B6:=hd_ (B.out.trans ((below_regrown wr dq osq).mono B.out.size));clear q0 q1 q2 q3 q4 q5 B;generalize Go.Sort.grow (redrawn wr dq) osq=w6 at *
    by_cases hpq:p=q
    ·rw[decide_eq_true hpq];have Hq:=hd_ (Cf.out hpq);clear hpq Cf Cm
     go_wp2_with fail
     go_roundw
     case rel=>exact⟨k+1,HK.out,by go_num,Hq,B6⟩
     case measure=>simp[intOf];omega
    ·rw[decide_eq_false hpq];have Hz:Hid (decide (la=lb)=false):=decide_eq_false (Cm.out hpq);clear hpq Cf Cm
     go_wp2_with fail
     go_ret;exact⟨by rw[Hz.out];rfl,B6.out⟩
   ·have gm:¬ (k:Int)<n:=by omega
    have Hz:Hid (decide (la=lb)=true):=decide_eq_true (EC.out k Hp.out (by rw[Hn.out];omega))
    clear Hp
    go_wp2_with fail
    go_ret;exact⟨by rw[Hz.out];rfl,B.out⟩
 ·have Hz:Hid (decide (la=lb)=false):=decide_eq_false fun h=>hl (by rw[h])
  have gq:((la.length:Int)==lb.length)=false:=by rw[beq_eq_false_iff_ne];omega
  clear r1 r2 hl;generalize la.length=n at *
  generalize lb.length=m at *
  go_enter Tryz.func91,Tryz.ntmps91
  go_wp2_with fail
  go_ret;exact⟨by rw[Hz.out];rfl,Below.refl _ _⟩
theorem Zyv(w:World)(x y:Array Value)(t:TypeId):
  ((w.alloc (.cells x t)).alloc (.cells y t)).heap[w.heap.size]?=some (.cells x t (0,0))∧((w.alloc (.cells x t)).alloc (.cells y t)).heap[w.heap.size+1]?=some (.cells y t (0,0))∧Below w.heap.size w ((w.alloc (.cells x t)).alloc (.cells y t)):=by
 have h1:=heap_alloc_new w (.cells x t);have h2:=heap_alloc_new (w.alloc (.cells x t)) (.cells y t);have e1:(w.alloc (.cells x t)).heap.size=w.heap.size+1:=by simp
 refine⟨by rw[((Below.refl (w.alloc (.cells x t)).heap.size _).alloc nr_ _).block _ (lt_of_block h1)];exact h1,?_,((Below.refl _ _).alloc nr_ _).alloc (by simp) _⟩
 rw[e1] at h2;exact h2
def Zmk (sg n:Int) (BL:List (Int×Int×ByteArray)) (ps:List Int) (l:List Rat):Bool :=
 if sg=0 then decide (n=0)&&decide (BL.length=0) && !l.any nzQ
 else l.any nzQ&&decide (0≤n∧n≤1000)&&decide (BL=Zam n.toNat ps l)&&decide (Zai n.toNat ps l=sg)
theorem Zvg(w:World)(a0 a1 a2:Option Addr)(c0 c1 c2 m:Nat)(ps:List Int)(_l:List Rat)(n:Int)(zb:Bool)
  (GQ:Hid (∀ W,Below w.heap.size w W→Kc Tryz.prog 22 #[.slice a0 ps.length c0,.slice a1 ps.length c1] W (.int .i64 0)))
  (fE:Hid (∀ W,Below w.heap.size w W→Kc Tryz.prog 85 #[.slice a1 ps.length c1] W (.bool zb))) :
  Kc Tryz.prog 29 #[.slice a0 ps.length c0,.slice a1 ps.length c1,Zee 0 n a2 m c2] w (.int .i64 (if n=0∧m=0∧zb=true then 0 else 23)):=by
 unfold Kc at GQ fE ⊢;unfold Zee
 by_cases hn:n=0
 case neg =>
  have Dn:(n==0)=false:=by rw[beq_eq_false_iff_ne];exact hn
  have bU:decide (n=0)=false:=decide_eq_false hn;have Hv:Hid ((if n=0∧m=0∧zb=true then (0:Int) else 23)=23):=if_neg fun h=>hn h.1
  generalize (if n=0∧m=0∧zb=true then (0:Int) else 23)=v at *
  have B0:=hd_ ((Below.refl w.heap.size w).alloc nr_ (.cells #[.int .i64 0,.int .i64 n,.slice a2 m c2] 51));have O:Hid ((w.alloc (.cells #[.int .i64 0,.int .i64 n,.slice a2 m c2] 51)).heap[w.heap.size]?=some (.cells #[.int .i64 0,.int .i64 n,.slice a2 m c2] 51 (0,0))):=heap_alloc_new w _;go_enter Tryz.func29,Tryz.ntmps29
  go_wp2_with fail
  generalize w.alloc (.cells #[.int .i64 0,.int .i64 n,.slice a2 m c2] 51)=W0 at *
  refine cm_ (GQ.out _ B0.out) ?_;rintro e w1 ⟨rfl,hb⟩;replace O:=hd_ (Kd O.out hb nr_);have B1:=hd_ (B0.out.trans (hb.mono B0.out.size));clear hb GQ B0;obtain⟨p0,p1,p2,-⟩:=Ki O.out
  go_wp2_with fail
  go_ret;exact⟨by rw[Hv.out];rfl,B1.out⟩
 subst hn
 by_cases hm:0<m
 case pos =>
  have OP:(0:Int)<m:=by omega
  have Hv:Hid ((if (0:Int)=0∧m=0∧zb=true then (0:Int) else 23)=23):=if_neg fun h=>by omega
  generalize (if (0:Int)=0∧m=0∧zb=true then (0:Int) else 23)=v at *
  have B0:=hd_ ((Below.refl w.heap.size w).alloc nr_ (.cells #[.int .i64 0,.int .i64 0,.slice a2 m c2] 51));have O:Hid ((w.alloc (.cells #[.int .i64 0,.int .i64 0,.slice a2 m c2] 51)).heap[w.heap.size]?=some (.cells #[.int .i64 0,.int .i64 0,.slice a2 m c2] 51 (0,0))):=heap_alloc_new w _;go_enter Tryz.func29,Tryz.ntmps29
  go_wp2_with fail
  generalize w.alloc (.cells #[.int .i64 0,.int .i64 0,.slice a2 m c2] 51)=W0 at *
  refine cm_ (GQ.out _ B0.out) ?_;rintro e w1 ⟨rfl,hb⟩;replace O:=hd_ (Kd O.out hb nr_);have B1:=hd_ (B0.out.trans (hb.mono B0.out.size));clear hb GQ B0;obtain⟨p0,p1,p2,-⟩:=Ki O.out
  go_wp2_with fail
  go_ret;exact⟨by rw[Hv.out];rfl,B1.out⟩
 obtain rfl:m=0:=by omega
 cases zb
 case false =>
  have Hv:Hid ((if (0:Int)=0∧(0:Nat)=0∧false=true then (0:Int) else 23)=23):=if_neg fun h=>by simp at h
  generalize (if (0:Int)=0∧(0:Nat)=0∧false=true then (0:Int) else 23)=v at *
  have B0:=hd_ ((Below.refl w.heap.size w).alloc nr_ (.cells #[.int .i64 0,.int .i64 0,.slice a2 0 c2] 51));have O:Hid ((w.alloc (.cells #[.int .i64 0,.int .i64 0,.slice a2 0 c2] 51)).heap[w.heap.size]?=some (.cells #[.int .i64 0,.int .i64 0,.slice a2 0 c2] 51 (0,0))):=heap_alloc_new w _;go_enter Tryz.func29,Tryz.ntmps29
  go_wp2_with fail
  generalize w.alloc (.cells #[.int .i64 0,.int .i64 0,.slice a2 0 c2] 51)=W0 at *
  refine cm_ (GQ.out _ B0.out) ?_;rintro e w1 ⟨rfl,hb⟩;replace O:=hd_ (Kd O.out hb nr_);have B1:=hd_ (B0.out.trans (hb.mono B0.out.size));clear hb GQ B0;obtain⟨p0,p1,p2,-⟩:=Ki O.out
  go_wp2_with fail
  refine cm_ (fE.out _ B1.out) ?_;rintro e w2 ⟨rfl,hb⟩;replace O:=hd_ (Kd O.out hb nr_);have B2:=hd_ (B1.out.trans (hb.mono B1.out.size));clear hb fE B1;obtain⟨p0,p1,p2,-⟩:=Ki O.out
  go_wp2_with fail
  go_ret;exact⟨by rw[Hv.out];rfl,B2.out⟩
 have Hv:Hid ((if (0:Int)=0∧(0:Nat)=0∧true=true then (0:Int) else 23)=0):=if_pos ⟨rfl,rfl,rfl⟩
 generalize (if (0:Int)=0∧(0:Nat)=0∧true=true then (0:Int) else 23)=v at *
 have B0:=hd_ ((Below.refl w.heap.size w).alloc nr_ (.cells #[.int .i64 0,.int .i64 0,.slice a2 0 c2] 51));have O:Hid ((w.alloc (.cells #[.int .i64 0,.int .i64 0,.slice a2 0 c2] 51)).heap[w.heap.size]?=some (.cells #[.int .i64 0,.int .i64 0,.slice a2 0 c2] 51 (0,0))):=heap_alloc_new w _;go_enter Tryz.func29,Tryz.ntmps29
 go_wp2_with fail
 generalize w.alloc (.cells #[.int .i64 0,.int .i64 0,.slice a2 0 c2] 51)=W0 at *
 refine cm_ (GQ.out _ B0.out) ?_;rintro e w1 ⟨rfl,hb⟩;replace O:=hd_ (Kd O.out hb nr_);have B1:=hd_ (B0.out.trans (hb.mono B0.out.size));clear hb GQ B0;obtain⟨p0,p1,p2,-⟩:=Ki O.out
 go_wp2_with fail
 refine cm_ (fE.out _ B1.out) ?_;rintro e w2 ⟨rfl,hb⟩;replace O:=hd_ (Kd O.out hb nr_);have B2:=hd_ (B1.out.trans (hb.mono B1.out.size));clear hb fE B1;obtain⟨p0,p1,p2,-⟩:=Ki O.out
 go_wp2_with fail
 go_ret;exact⟨by rw[Hv.out];rfl,B2.out⟩
theorem Qaf(w:World)(a0 a1 a2:Option Addr)(c0 c1 c2 m:Nat)(ps:List Int)(_l:List Rat)(sg n:Int)(zb:Bool)
  (GQ:Hid (∀ W,Below w.heap.size w W→Kc Tryz.prog 22 #[.slice a0 ps.length c0,.slice a1 ps.length c1] W (.int .i64 0)))
  (fE:Hid (∀ W,Below w.heap.size w W→Kc Tryz.prog 85 #[.slice a1 ps.length c1] W (.bool zb))) (ft:¬ sg=0) (Eb:zb=true∨n<0∨1000<n) :
  Kc Tryz.prog 29 #[.slice a0 ps.length c0,.slice a1 ps.length c1,Zee sg n a2 m c2] w (.int .i64 23):=by
 unfold Kc at GQ fE ⊢;unfold Zee;have BP:(sg==0)=false:=by rw[beq_eq_false_iff_ne];exact ft
 have Am:decide (sg=0)=false:=decide_eq_false ft;cases zb
 case true =>
  clear Eb;have B0:=hd_ ((Below.refl w.heap.size w).alloc nr_ (.cells #[.int .i64 sg,.int .i64 n,.slice a2 m c2] 51));have O:Hid ((w.alloc (.cells #[.int .i64 sg,.int .i64 n,.slice a2 m c2] 51)).heap[w.heap.size]?=some (.cells #[.int .i64 sg,.int .i64 n,.slice a2 m c2] 51 (0,0))):=heap_alloc_new w _;go_enter Tryz.func29,Tryz.ntmps29
  go_wp2_with fail
  generalize w.alloc (.cells #[.int .i64 sg,.int .i64 n,.slice a2 m c2] 51)=W0 at *
  refine cm_ (GQ.out _ B0.out) ?_;rintro e w1 ⟨rfl,hb⟩;replace O:=hd_ (Kd O.out hb nr_);have B1:=hd_ (B0.out.trans (hb.mono B0.out.size));clear hb GQ B0;obtain⟨p0,p1,p2,-⟩:=Ki O.out
  go_wp2_with fail
  refine cm_ (fE.out _ B1.out) ?_;rintro e w2 ⟨rfl,hb⟩;replace O:=hd_ (Kd O.out hb nr_);have B2:=hd_ (B1.out.trans (hb.mono B1.out.size));clear hb fE B1;obtain⟨p0,p1,p2,-⟩:=Ki O.out
  go_wp2_with fail
  go_ret;exact⟨rfl,B2.out⟩
 have ic:n<0∨1000<n:=Eb.resolve_left (by simp)
 clear Eb
 by_cases hn:n<0
 case pos =>
  clear ic;have B0:=hd_ ((Below.refl w.heap.size w).alloc nr_ (.cells #[.int .i64 sg,.int .i64 n,.slice a2 m c2] 51));have O:Hid ((w.alloc (.cells #[.int .i64 sg,.int .i64 n,.slice a2 m c2] 51)).heap[w.heap.size]?=some (.cells #[.int .i64 sg,.int .i64 n,.slice a2 m c2] 51 (0,0))):=heap_alloc_new w _;go_enter Tryz.func29,Tryz.ntmps29
  go_wp2_with fail
  generalize w.alloc (.cells #[.int .i64 sg,.int .i64 n,.slice a2 m c2] 51)=W0 at *
  refine cm_ (GQ.out _ B0.out) ?_;rintro e w1 ⟨rfl,hb⟩;replace O:=hd_ (Kd O.out hb nr_);have B1:=hd_ (B0.out.trans (hb.mono B0.out.size));clear hb GQ B0;obtain⟨p0,p1,p2,-⟩:=Ki O.out
  go_wp2_with fail
  refine cm_ (fE.out _ B1.out) ?_;rintro e w2 ⟨rfl,hb⟩;replace O:=hd_ (Kd O.out hb nr_);have B2:=hd_ (B1.out.trans (hb.mono B1.out.size));clear hb fE B1;obtain⟨p0,p1,p2,-⟩:=Ki O.out
  go_wp2_with fail
  go_ret;exact⟨rfl,B2.out⟩
 have Do:1000<n:=by omega
 clear ic;have B0:=hd_ ((Below.refl w.heap.size w).alloc nr_ (.cells #[.int .i64 sg,.int .i64 n,.slice a2 m c2] 51));have O:Hid ((w.alloc (.cells #[.int .i64 sg,.int .i64 n,.slice a2 m c2] 51)).heap[w.heap.size]?=some (.cells #[.int .i64 sg,.int .i64 n,.slice a2 m c2] 51 (0,0))):=heap_alloc_new w _;go_enter Tryz.func29,Tryz.ntmps29
 go_wp2_with fail
 generalize w.alloc (.cells #[.int .i64 sg,.int .i64 n,.slice a2 m c2] 51)=W0 at *
 refine cm_ (GQ.out _ B0.out) ?_;rintro e w1 ⟨rfl,hb⟩;replace O:=hd_ (Kd O.out hb nr_);have B1:=hd_ (B0.out.trans (hb.mono B0.out.size));clear hb GQ B0;obtain⟨p0,p1,p2,-⟩:=Ki O.out
 go_wp2_with fail
 refine cm_ (fE.out _ B1.out) ?_;rintro e w2 ⟨rfl,hb⟩;replace O:=hd_ (Kd O.out hb nr_);have B2:=hd_ (B1.out.trans (hb.mono B1.out.size));clear hb fE B1;obtain⟨p0,p1,p2,-⟩:=Ki O.out
 go_wp2_with fail
 go_ret;exact⟨rfl,B2.out⟩
theorem Qag(w:World)(a0 a1 a2:Option Addr)(c0 c1 c2 m D b:Nat)(ps:List Int)(l:List Rat)(sg:Int)(BL:List (Int×Int×ByteArray))(rp:Rd w a0 (Qt ps))(rl:Rd w a1 (Kt l))(rb:Rd w a2 (Qb BL))(hm:BL.length=m)(EP:m≤1000000)
  (hl:l.length=ps.length) (hn:ps.length≤100) (hp:∀ p∈ps,∃ q:Nat,p=q∧(q=2∨q∈Yp)) (hs:∀ q∈l,Sm D q) (hD:D≤30) (hb:b≤1000) (ft:¬ sg=0) (L:Qd w) (v:Int)
  (hv:v=if BL=Zam b ps l∧Zai b ps l=sg then 0 else 23)
  (GQ:Hid (∀ W,Below w.heap.size w W→Kc Tryz.prog 22 #[.slice a0 ps.length c0,.slice a1 ps.length c1] W (.int .i64 0)))
  (fE:Hid (∀ W,Below w.heap.size w W→Kc Tryz.prog 85 #[.slice a1 ps.length c1] W (.bool false))) :
  Kc Tryz.prog 29 #[.slice a0 ps.length c0,.slice a1 ps.length c1,Zee sg (b:Nat) a2 m c2] w (.int .i64 v):=by
 unfold Kc at GQ fE ⊢;unfold Zee;have Hv:=hd_ hv;have bM:=hd_ (fun W (hW:Below w.heap.size w W)=>Zek W ps l b a0 a1 c0 c1 (rp.below hW nr_) (rl.below hW nr_) hl hn hp hb (L.below hW))
 have eW:=hd_ (fun W (hW:Below w.heap.size w W) R (H:Zmg W R ps l b)=>Zbv W R ps l b b D H hl hn hp hs (by omega) nr_ hb (L.below hW))
 have BE:=hd_ (fun W=>Zjs W (loE b ps l) (hiE b ps l))
 rw[Zi6] at BE;have BG:=hd_ (fun W (hW:Below w.heap.size w W) a c (r:Rd W a (Qb (Zam b ps l)))=>Zro W a2 a c2 c BL (Zam b ps l) (rb.below hW nr_) r (by omega) (Nat.le_trans (Zoc b ps l) (by omega)))
 rw[hm] at BG;have Dh:=hd_ rp;have dj:=hd_ rl;have Hl:=hd_ hl;have gJ:=Yd b ps l hl;have bY:=fun k h1 h2=>Zjk b ps l hl k h1 h2
 have F7:=hd_ gJ;have AD:=hd_ bY;have BP:(sg==0)=false:=by rw[beq_eq_false_iff_ne];exact ft
 have Am:decide (sg=0)=false:=decide_eq_false ft;have g7:¬ ((b:Int)<0):=by omega
 have hZ:¬ (1000<(b:Int)):=by omega
 clear rp rl rb hs hp L hv hm EP gJ bY;unfold fr fv at eW BE;obtain⟨n,Fk⟩:∃ n,ps.length=n:=⟨_,rfl⟩;have Hn:=hd_ Fk;rw[Fk] at hn GQ fE bM ⊢;clear Fk hl;have B0:=hd_ ((Below.refl w.heap.size w).alloc nr_ (.cells #[.int .i64 sg,.int .i64 b,.slice a2 m c2] 51));have O:Hid ((w.alloc (.cells #[.int .i64 sg,.int .i64 b,.slice a2 m c2] 51)).heap[w.heap.size]?=some (.cells #[.int .i64 sg,.int .i64 b,.slice a2 m c2] 51 (0,0))):=heap_alloc_new w _;go_enter Tryz.func29,Tryz.ntmps29
 go_wp2_with fail
 generalize w.alloc (.cells #[.int .i64 sg,.int .i64 b,.slice a2 m c2] 51)=W0 at *
 refine cm_ (GQ.out _ B0.out) ?_;rintro e w1 ⟨rfl,hb⟩;replace O:=hd_ (Kd O.out hb nr_);have B1:=hd_ (B0.out.trans (hb.mono B0.out.size));clear hb GQ B0;obtain⟨p0,p1,p2,-⟩:=Ki O.out
 go_wp2_with fail
 refine cm_ (fE.out _ B1.out) ?_;rintro e w2 ⟨rfl,hb⟩;replace O:=hd_ (Kd O.out hb nr_);have B2:=hd_ (B1.out.trans (hb.mono B1.out.size));clear hb fE B1;obtain⟨p0,p1,p2,-⟩:=Ki O.out
 go_wp2_with fail
 clear p0 p1 p2;refine cm_ (bM.out _ B2.out) ?_;rintro e w3 ⟨R,rfl,hg,hR,hb3⟩;replace O:=hd_ (Kd O.out hb3 nr_);have B3:=hd_ (B2.out.trans (hb3.mono B2.out.size));have HG:=hd_ hg;clear hb3 bM B2 hg hR;have G3:Hid (BdI w3 w3 none 0 0 (Zam b (ps.take 0) (l.take 0))):=⟨World.ownsRow_nil ..,Below.refl _ _⟩
 go_wp2_with fail
 go_loopw [9,54] (fun o i wr=>∃ (k:Nat) (a:Option Addr) (c mm:Nat),k≤n∧o = .slice a mm c∧i = .int .i64 k∧mm≤k∧Hid (mm=(Zam b (ps.take k) (l.take k)).length)∧Hid (BdI w3 wr a mm c (Zam b (ps.take k) (l.take k)))) (fun _ i _=>n-(intOf i).toNat)
 case atStart=>exact⟨0,none,0,0,Nat.zero_le _,rfl,rfl,Nat.le_refl _,rfl,G3⟩
 case round =>
  obtain⟨k,a,c,mm,hk,rfl,rfl,BU,Hmm,HI⟩:=hrel;clear G3;have Bw:=hd_ (B3.out.trans (HI.out.bel.mono B3.out.size))
  by_cases H9:k<n
  ·have gm:(k:Int)<n:=by omega
   have GD:k<ps.length:=by rw[Hn.out];exact H9
   have gO:k<l.length:=by rw[Hl.out,Hn.out];exact H9
   obtain⟨b0,o0,rfl,hb0_,fB⟩:=Dh.out.open (by rw[Qf];omega)
   have Fb:Hid (∀ W,Below w.heap.size w W→W.cell? ⟨b0,o0+k,none⟩=some (.int .i64 ps[k])):=fun W hW=>by
    rw[hW.cell (p:=⟨b0,o0+k,none⟩) hb0_];exact fB k _ (Ym ps k GD)
   obtain⟨b1,o1,rfl,hb1_,gK⟩:=dj.out.open (by rw[Kz];omega)
   obtain⟨x0,x1⟩:=Qm gK k (by rw[List.length_map];exact gO)
   rw[Qw l k gO] at x0 x1;rw[← Bw.out.cell (p:=⟨b1,o1+k*2,none⟩) hb1_] at x0;rw[← Bw.out.cell (p:=⟨b1,o1+k*2+1,none⟩) hb1_] at x1;have dR:IntKind.i64.wrap ((k:Int)+1)=((k+1:Nat):Int):=by rw[← Int.natCast_succ];exact iw_ _ (by omega)
   have f9:=hd_ (fun W=>Zi5 W l[k])
   have db:=hd_ (Zhi b ps l k GD gO);have l8:=hd_ (AD.out k GD gO);clear fB gK;unfold fr fv at f9;unfold qs at x0 x1;simp only at x0 x1;generalize l[k]=q at *
   generalize ps[k]=pk at *
   have CC:=hd_ (HI.out.below ((Below.refl _ _).alloc nr_ (.cells #[.string (itx q.num),.string (dec q.den)] 42)));have k8:=Ka (heap_alloc_new wr (.cells #[.string (itx q.num),.string (dec q.den)] 42))
   by_cases hz:q.num=0
   ·have FI:=db.out;rw[if_pos hz,List.append_nil] at FI;have GZ:=hd_ FI;rw[hz] at f9 x0 k8 CC;clear l8 FI db hz Fb
    go_wp2_with fail
    refine cm_ (f9.out _) ?_;rintro e w4 ⟨rfl,hb⟩;have gn:=hd_ (CC.out.below hb);clear hb f9 k8 CC HI
    go_wp2_with fail
    refine⟨⟨k+1,a,c,mm,by omega,rfl,by go_num,by omega,by rw[GZ.out];exact Hmm,by rw[GZ.out];exact gn⟩,by simp[intOf];omega⟩
   ·have mr:(q.num.sign != 0)=true:=by
     rw[bne_iff_ne];intro h;exact hz (Int.sign_eq_zero_iff_zero.1 h)
    have FI:=db.out;rw[if_neg hz] at FI;have GZ:=hd_ FI;have Ar:=l8.out;rw[if_neg hz] at Ar;have l7:=hd_ Ar;clear FI db hz Ar l8
    go_wp2_with fail
    refine cm_ (f9.out _) ?_;rintro e w4 ⟨rfl,hb⟩;have gn:=hd_ (CC.out.below hb);clear hb f9 k8 CC HI x0 x1;have B4:=hd_ (B3.out.trans (gn.out.bel.mono B3.out.size));have cp:=Fb.out w4 B4.out;obtain⟨-,k1,-,-⟩:=Ki (Kd O.out gn.out.bel nr_);obtain⟨_,_,_,_,al,cl,S⟩:=HG.out.below gn.out.bel;obtain⟨-,-,-,k3,-⟩:=Zc5 S.ob;obtain⟨b2,o2,rfl,HU,Gw⟩:=S.rs.open (by rw[Zb,F7.out];omega)
    have ct:=Gw k _ (Zft _ k (by rw[F7.out];exact GD))
    rw[l7.out] at ct;rw[Hn.out] at k3;have q0:=NW.cell cp;have q1:=NW.cell k1;have q2:=NW.cell k3;have q3:=NW.cell ct;have gk:Nonempty (NW w4):=⟨⟨w4,Below.refl _ _⟩⟩;have I:Hid (Below w4.heap.size w4 w4.drew):=(Below.refl _ _).drew;clear cp k1 k3 ct Gw S HU
    go_wp2_with fail
    refine RP.wp_region_readers 15 [(2,0),(2,1),(2,2),(2,3),(1,4),(2,5),(1,6),(2,7),(2,8),(2,9),(1,10),(2,11),(2,12),(1,13),(0,14),(0,15),(0,16),(0,17)] (fun w'=>∃ p:NW w4,w'=p.w) (by kernel_rfl) (by kernel_rfl) ?_ ?_
    ·exact⟨⟨_,I.out⟩,rfl⟩
    iterate 4 (refine RP.walkR_any ?_;simp only[Kh,dz_,Kg,tz_];go_big_quiet_step (fail);refine wpQuiet_nil ?_)
    iterate 1 (refine RP.walkR_read ?_;simp only[Kh,dz_,Kg,tz_];go_big_quiet_step (fail);refine wpQuiet_nil ?_)
    iterate 1 (refine RP.walkR_any ?_;simp only[Kh,dz_,Kg,tz_];go_big_quiet_step (fail);refine wpQuiet_nil ?_)
    iterate 1 (refine RP.walkR_read ?_;simp only[Kh,dz_,Kg,tz_];go_big_quiet_step (fail);refine wpQuiet_nil ?_)
    iterate 3 (refine RP.walkR_any ?_;simp only[Kh,dz_,Kg,tz_];go_big_quiet_step (fail);refine wpQuiet_nil ?_)
    iterate 1 (refine RP.walkR_read ?_;simp only[Kh,dz_,Kg,tz_];go_big_quiet_step (fail);refine wpQuiet_nil ?_)
    iterate 2 (refine RP.walkR_any ?_;simp only[Kh,dz_,Kg,tz_];go_big_quiet_step (fail);refine wpQuiet_nil ?_)
    iterate 1 (refine RP.walkR_read ?_;simp only[Kh,dz_,Kg,tz_];go_big_quiet_step (fail);refine wpQuiet_nil ?_)
    clear gk q0 q1 q2 q3;refine RP.walkR_move ?_;simp only[Kh,dz_,Kg,tz_]
    go_wp2_with fail
    refine⟨⟨⟨_,I.out⟩,rfl⟩,?_⟩;refine RP.walkR_move ?_;simp only[Kh,dz_,Kg,tz_]
    go_wp2_with fail
    have gF:=hd_ (gn.out.below I.out);have fF:=hd_ gF.out.bel.size;refine RP.walkR_move ?_;simp only[Kh,dz_,Kg,tz_]
    go_wp2_with (at_builtin;refine Km rfl (.tmp 62) (.tmp 77) 49 rfl Qcv _ 1 [.int .i64 pk,.int .i64 b,.string (dec (lgN pk b))] rfl rfl gF.out.own fF.out rfl (by simp[Value.oneCell']) (by omega) (by omega) ?_)
    intro v' w5 gu Gc GM;obtain⟨a3,d3,rfl⟩:=Qk gu;have cH:=gF.out.push (x:=(pk,(b:Int),dec (lgN pk b))) rfl Gc gu;rw[← GZ.out] at cH;have fK:=hd_ cH;have Cs:Hid (mm+1=(Zam b (ps.take (k+1)) (l.take (k+1))).length):=by
     show _=_
     rw[GZ.out,List.length_append,← Hmm.out];rfl
    clear gu Gc GM cH gF I
    go_wp2_with fail
    refine RP.walkR_move ?_;simp only[Kh,dz_,Kg,tz_]
    go_wp2_with fail
    simp only[RP.walkR]
    go_wp2_with fail
    refine⟨⟨k+1,a3,d3,mm+1,by omega,rfl,by go_num,by omega,Cs,fK⟩,by simp[intOf];omega⟩
  ·obtain rfl:k=n:=by omega
   have gm:¬ (k:Int)<k:=by omega
   have FS:Zam b (ps.take k) (l.take k)=Zam b ps l:=by
    rw[← Hn.out,List.take_length,List.take_of_length_le (by rw[Hl.out];omega)]
   rw[FS] at Hmm HI;have Jd:=hd_ (Zm9 HI.out.own);have Ol:=hd_ (HG.out.below HI.out.bel);obtain⟨k0,k1,k2,-⟩:=Ki (Kd O.out HI.out.bel nr_);rw[← Hmm.out] at BG;clear FS HG HI Dh dj O;have q0:=NW.cell k0;have q1:=NW.cell k1;have q2:=NW.cell k2;have gk:Nonempty (NW wr):=⟨⟨wr,Below.refl _ _⟩⟩;have I:Hid (Below wr.heap.size wr wr.drew):=(Below.refl _ _).drew;clear k0 k1 k2
   by_cases hE:BL=Zam b ps l
   ·rw[decide_eq_true hE] at BG;have jY:Hid (v=if Zai b ps l=sg then 0 else 23):=by
     show _=_
     rw[Hv.out]
     by_cases h:Zai b ps l=sg
     ·rw[if_pos ⟨hE,h⟩,if_pos h]
     ·rw[if_neg fun g=>h g.2,if_neg h]
    clear Hv hE
    go_wp2_with fail
    refine RP.wp_region_readers 16 [(2,0),(1,1),(2,2),(0,3),(0,4),(0,5),(2,6),(2,7),(1,8),(2,13),(1,14),(0,9),(2,10),(2,11),(0,12),(0,15),(0,16)] (fun w'=>∃ p:NW wr,w'=p.w) (by kernel_rfl) (by kernel_rfl) ?_ ?_
    ·exact⟨⟨_,I.out⟩,rfl⟩
    iterate 1 (refine RP.walkR_any ?_;simp only[dz_,Kg,tz_];go_big_quiet_step (fail);refine wpQuiet_nil ?_)
    iterate 1 (refine RP.walkR_read ?_;simp only[Kh,dz_,Kg,tz_];go_big_quiet_step (fail);refine wpQuiet_nil ?_)
    iterate 1 (refine RP.walkR_any ?_;simp only[Kh,dz_,Kg,tz_];go_big_quiet_step (fail);refine wpQuiet_nil ?_)
    refine RP.walkR_move ?_;simp only[Kh,dz_,Kg,tz_]
    go_wp2_with fail
    refine cm_ (BG.out _ (Bw.out.trans (I.out.mono Bw.out.size)) _ _ (Jd.out.below I.out nr_)) ?_;rintro e x1 ⟨rfl,hb⟩;have I1:Hid (Below wr.heap.size wr x1):=I.out.trans (hb.mono I.out.size);clear hb I BG
    go_wp2_with fail
    refine⟨⟨⟨_,I1.out⟩,rfl⟩,?_⟩;refine RP.walkR_move ?_;simp only[Kh,dz_,Kg,tz_]
    go_wp2_with fail
    refine⟨⟨⟨_,I1.out⟩,rfl⟩,?_⟩;refine RP.walkR_move ?_;simp only[Kh,dz_,Kg,tz_]
    go_wp2_with fail
    refine⟨⟨⟨_,I1.out⟩,rfl⟩,?_⟩
    iterate 2 (refine RP.walkR_any ?_;simp only[Kh,dz_,Kg,tz_];go_big_quiet_step (fail);refine wpQuiet_nil ?_)
    iterate 1 (refine RP.walkR_read ?_;simp only[Kh,dz_,Kg,tz_];go_big_quiet_step (fail);refine wpQuiet_nil ?_)
    iterate 1 (refine RP.walkR_any ?_;simp only[Kh,dz_,Kg,tz_];go_big_quiet_step (fail);refine wpQuiet_nil ?_)
    iterate 1 (refine RP.walkR_read ?_;simp only[Kh,dz_,Kg,tz_];go_big_quiet_step (fail);refine wpQuiet_nil ?_)
    clear gk q0 q1 q2;refine RP.walkR_move ?_;simp only[Kh,dz_,Kg,tz_]
    go_wp2_with fail
    refine cm_ (eW.out _ (Bw.out.trans (I1.out.mono Bw.out.size)) R (Ol.out.below I1.out)) ?_;rintro e x2 ⟨rfl,hb⟩;have I2:Hid (Below wr.heap.size wr x2):=I1.out.trans (hb.mono I1.out.size);clear hb I1 eW
    go_wp2_with fail
    refine⟨⟨⟨_,I2.out⟩,rfl⟩,?_⟩
    iterate 2 (refine RP.walkR_any ?_;simp only[Kh,dz_,Kg,tz_];go_big_quiet_step (fail);refine wpQuiet_nil ?_)
    refine RP.walkR_move ?_;simp only[Kh,dz_,Kg,tz_]
    go_wp2_with fail
    refine cm_ (BE.out _) ?_;rintro e x3 ⟨rfl,hb⟩;have I3:Hid (Below wr.heap.size wr x3):=I2.out.trans (hb.mono I2.out.size);clear hb I2 BE
    go_wp2_with fail
    refine⟨⟨⟨_,I3.out⟩,rfl⟩,?_⟩;generalize Zai b ps l=dd at *
    have B9:=hd_ (Bw.out.trans (I3.out.mono Bw.out.size))
    by_cases hd:dd=sg
    ·have NQ:(dd==sg)=true:=by rw[hd];exact beq_self_eq_true _
     have Db:Hid (v=0):=by show _=_;rw[jY.out,if_pos hd]
     subst hd;clear jY;refine RP.walkR_move ?_;simp only[Kh,dz_,Kg,tz_]
     go_wp2_with fail
     refine⟨⟨⟨_,I3.out⟩,rfl⟩,?_⟩;refine RP.walkR_move ?_;simp only[Kh,dz_,Kg,tz_]
     go_wp2_with fail
     simp only[RP.walkR]
     go_wp2_with fail
     go_ret;exact⟨by rw[Db.out];rfl,B9.out⟩
    ·have NQ:(dd==sg)=false:=by rw[beq_eq_false_iff_ne];exact hd
     have dB:decide (dd=sg)=false:=decide_eq_false hd;have Db:Hid (v=23):=by show _=_;rw[jY.out,if_neg hd]
     clear jY;refine RP.walkR_move ?_;simp only[Kh,dz_,Kg,tz_]
     go_wp2_with fail
     refine⟨⟨⟨_,I3.out⟩,rfl⟩,?_⟩;refine RP.walkR_move ?_;simp only[Kh,dz_,Kg,tz_]
     go_wp2_with fail
     simp only[RP.walkR]
     go_wp2_with fail
     go_ret;exact⟨by rw[Db.out];rfl,B9.out⟩
   ·rw[decide_eq_false hE] at BG;have Db:Hid (v=23):=by show _=_;rw[Hv.out,if_neg fun g=>hE g.1]
    clear Hv hE
    go_wp2_with fail
    refine RP.wp_region_readers 16 [(2,0),(1,1),(2,2),(0,3),(0,4),(0,5),(2,6),(2,7),(1,8),(2,13),(1,14),(0,9),(2,10),(2,11),(0,12),(0,15),(0,16)] (fun w'=>∃ p:NW wr,w'=p.w) (by kernel_rfl) (by kernel_rfl) ?_ ?_
    ·exact⟨⟨_,I.out⟩,rfl⟩
    iterate 1 (refine RP.walkR_any ?_;simp only[dz_,Kg,tz_];go_big_quiet_step (fail);refine wpQuiet_nil ?_)
    iterate 1 (refine RP.walkR_read ?_;simp only[Kh,dz_,Kg,tz_];go_big_quiet_step (fail);refine wpQuiet_nil ?_)
    iterate 1 (refine RP.walkR_any ?_;simp only[Kh,dz_,Kg,tz_];go_big_quiet_step (fail);refine wpQuiet_nil ?_)
    refine RP.walkR_move ?_;simp only[Kh,dz_,Kg,tz_]
    go_wp2_with fail
    refine cm_ (BG.out _ (Bw.out.trans (I.out.mono Bw.out.size)) _ _ (Jd.out.below I.out nr_)) ?_;rintro e x1 ⟨rfl,hb⟩;have I1:Hid (Below wr.heap.size wr x1):=I.out.trans (hb.mono I.out.size);clear hb I BG
    go_wp2_with fail
    refine⟨⟨⟨_,I1.out⟩,rfl⟩,?_⟩;refine RP.walkR_move ?_;simp only[Kh,dz_,Kg,tz_]
    go_wp2_with fail
    refine⟨⟨⟨_,I1.out⟩,rfl⟩,?_⟩;refine RP.walkR_move ?_;simp only[Kh,dz_,Kg,tz_]
    go_wp2_with fail
    refine⟨⟨⟨_,I1.out⟩,rfl⟩,?_⟩;have B9:=hd_ (Bw.out.trans (I1.out.mono Bw.out.size))
    iterate 2 (refine RP.walkR_any ?_;simp only[Kh,dz_,Kg,tz_];go_big_quiet_step (fail);refine wpQuiet_nil ?_)
    iterate 1 (refine RP.walkR_read ?_;simp only[Kh,dz_,Kg,tz_];go_big_quiet_step (fail);refine wpQuiet_nil ?_)
    iterate 1 (refine RP.walkR_any ?_;simp only[Kh,dz_,Kg,tz_];go_big_quiet_step (fail);refine wpQuiet_nil ?_)
    iterate 1 (refine RP.walkR_read ?_;simp only[Kh,dz_,Kg,tz_];go_big_quiet_step (fail);refine wpQuiet_nil ?_)
    clear gk q0 q1 q2;refine RP.walkR_move ?_;simp only[Kh,dz_,Kg,tz_]
    go_wp2_with fail
    refine⟨⟨⟨_,I1.out⟩,rfl⟩,?_⟩
    iterate 2 (refine RP.walkR_any ?_;simp only[Kh,dz_,Kg,tz_];go_big_quiet_step (fail);refine wpQuiet_nil ?_)
    refine RP.walkR_move ?_;simp only[Kh,dz_,Kg,tz_]
    go_wp2_with fail
    refine⟨⟨⟨_,I1.out⟩,rfl⟩,?_⟩;refine RP.walkR_move ?_;simp only[Kh,dz_,Kg,tz_]
    go_wp2_with fail
    refine⟨⟨⟨_,I1.out⟩,rfl⟩,?_⟩;refine RP.walkR_move ?_;simp only[Kh,dz_,Kg,tz_]
    go_wp2_with fail
    simp only[RP.walkR]
    go_wp2_with fail
    go_ret;exact⟨by rw[Db.out];rfl,B9.out⟩
theorem Zp1(w:World)(a0 a1 a2:Option Addr)(c0 c1 c2 D:Nat)(ps:List Int)(l:List Rat)(sg n:Int)(BL:List (Int×Int×ByteArray))(rp:Rd w a0 (Qt ps))(rl:Rd w a1 (Kt l))(rb:Rd w a2 (Qb BL))(EP:BL.length≤1000000)
  (hi:Ziv ps) (hl:l.length=ps.length) (hn:ps.length≤100) (hp:∀ p∈ps,∃ q:Nat,p=q∧(q=2∨q∈Yp)) (hs:∀ q∈l,Sm D q) (hD:D≤30) (fh:Vo ps=0) (L:Qd w) :
  Kc Tryz.prog 29 #[.slice a0 ps.length c0,.slice a1 ps.length c1,Zee sg n a2 BL.length c2] w (.int .i64 (if Zmk sg n BL ps l=true then 0 else 23)):=by
 have GQ:=hd_ (fun W (hW:Below w.heap.size w W)=>Zd7 W a0 a1 c0 c1 ps l (rp.below hW nr_) (rl.below hW nr_) hi hl hn (fun q hq=>(hs q hq).le hD) fh (L.below hW))
 have fE:=hd_ (fun W (hW:Below w.heap.size w W)=>Zjr W a1 c1 l (rl.below hW nr_) (by omega))
 rw[hl] at fE
 by_cases ft:sg=0
 ·subst ft;have h:=Zvg w a0 a1 a2 c0 c1 c2 BL.length ps l n (!l.any nzQ) GQ fE;have e:(if Zmk 0 n BL ps l=true then (0:Int) else 23)=if n=0∧BL.length=0∧(!l.any nzQ)=true then 0 else 23:=by
   unfold Zmk;rw[if_pos rfl];simp only[Bool.and_eq_true,decide_eq_true_eq,and_assoc]
  rw[e];exact h
 ·by_cases Eb:(!l.any nzQ)=true∨n<0∨1000<n
  ·have h:=Qaf w a0 a1 a2 c0 c1 c2 BL.length ps l sg n (!l.any nzQ) GQ fE ft Eb;have e:(if Zmk sg n BL ps l=true then (0:Int) else 23)=23:=by
    refine if_neg fun hv=>?_
    unfold Zmk at hv;rw[if_neg ft] at hv;simp only[Bool.and_eq_true,decide_eq_true_eq] at hv;obtain⟨⟨⟨h1,h2⟩,-⟩,-⟩:=hv;rcases Eb with h|h|h
    ·rw[h1] at h;simp at h
    ·omega
    ·omega
   rw[e];exact h
  ·have hz:(!l.any nzQ)=false:=by
    cases hb:(!l.any nzQ) with
    | false=>rfl
    | true=>exact absurd (Or.inl hb) Eb
   have h0:¬ n<0:=fun h=>Eb (.inr (.inl h))
   have h1:¬ 1000<n:=fun h=>Eb (.inr (.inr h))
   obtain⟨b,rfl⟩:=Int.eq_ofNat_of_zero_le (show 0≤n by omega)
   rw[hz] at fE;refine Qag w a0 a1 a2 c0 c1 c2 BL.length D b ps l sg BL rp rl rb rfl EP hl hn hp hs hD (by omega) ft L _ ?_ GQ fE
   have Fs:l.any nzQ=true:=by simpa using hz
   have e:(Zmk sg b BL ps l=true)=(BL=Zam b ps l∧Zai b ps l=sg):=by
    unfold Zmk;rw[if_neg ft,Fs,decide_eq_true (show (0:Int)≤(b:Nat)∧((b:Nat):Int)≤1000 by omega),Int.toNat_natCast]
    simp only[Bool.true_and,Bool.and_eq_true,decide_eq_true_eq]
   by_cases h:BL=Zam b ps l∧Zai b ps l=sg
   ·rw[if_pos h,if_pos (by rw[e];exact h)]
   ·rw[if_neg h,if_neg (by rw[e];exact h)]
theorem Zrf(ps:List Int)(l:List Rat)(hi:Ziv ps)(hl:l.length=ps.length)(hn:ps.length≤100)(hp:∀ p∈ps,∃ q:Nat,p=q∧(q=2∨q∈Yp))(Gj:∀ p∈ps,0<p)(Gz:∀ p∈ps,p∈Za9)(hs:∀ q∈l,Sm 30 q)(fh:Vo ps=0)(g:Zke ps l):
  ∃ (SG:Int) (N:Nat) (BL:List (Int×Int×ByteArray)) (F:Bool) (SG2 N2:Int) (BL2:List (Int×Int×ByteArray)),LN.sz ps l=SG∧N≤1000∧BL.length≤100∧BL2.length≤100 ∧
   (∀ W a0 a1 c0 c1,Rd W a0 (Qt ps)→Rd W a1 (Kt l)→Qd W→Qb5 26 #[.slice a0 ps.length c0,.slice a1 ps.length c1] W SG N BL) ∧
   (∀ W a0 a1 c0 c1,Rd W a0 (Qt ps)→Rd W a1 (Kt l)→Qd W→Calls Tryz.prog 64 #[.slice a0 ps.length c0,.slice a1 ps.length c1] W fun e w'=>∃ a c,e = .returned (.tuple #[Zee SG2 N2 a BL2.length c,.bool F])∧Rd w' a (Qb BL2)∧Below W.heap.size W w') ∧
   (F=true→SG2=SG∧N2=N∧BL2=BL)∧Zmk SG N BL ps l=true ∧
   (SG≠0→F=true→N≤60∧Zmk SG ((N+1:Nat):Int) (Zam (N+1) ps l) ps l=true∧∀ M:Nat,N=M+1→Zmk SG (M:Int) (Zam M ps l) ps l=false):=by
 cases hnz:l.any nzQ
 ·have hz:LN.sz ps l=0:=LN.sz_zero Gj fun q hq=>by
   have h:=List.any_eq_false.1 hnz q hq
   by_cases e:q=0
   ·exact e
   ·exact absurd ((Zs7 q).2 e) h
  refine⟨0,0,[],true,0,0,[],hz,by decide,by decide,by decide,fun W a0 a1 c0 c1 rp rl L=>?_,fun W a0 a1 c0 c1 rp rl L=>?_,fun _=>⟨rfl,rfl,rfl⟩,?_,fun h=>absurd rfl h⟩
  ·unfold Qb5;refine cm_ (Zn4 W a0 a1 c0 c1 ps l rp rl hi hl hn hs fh hnz L) ?_;rintro e w' ⟨rfl,hb⟩;exact⟨none,0,rfl,.inl rfl,hb⟩
  ·refine cm_ (Zj3 W a0 a1 c0 c1 30 ps l rp rl hl hn hp hs (by decide) L hnz) ?_
   rintro e w' ⟨rfl,hb⟩;exact⟨none,0,rfl,.inl rfl,hb⟩
  ·unfold Zmk;rw[if_pos rfl,hnz];rfl
 ·obtain⟨q,hq,bS⟩:=List.any_eq_true.1 hnz;have gq:tlQ ps l≠[]:=Qam hl ⟨q,hq,(Zs7 q).1 bS⟩;have GV:=Zun Gz g.nd g.kb hn gq;obtain⟨n,hN⟩:=Zlf (T:=fun b=>Zai b ps l != 0) (by rw[bne_iff_ne];exact GV)
  have jB:∀ b,b<1000→(Zai b ps l != 0)=true→(Zai (b+1) ps l != 0)=true:=fun b hb h=>by
   rw[bne_iff_ne] at h ⊢;exact Zj5 g.pr (by omega) h
  have EZ:Zai n ps l≠0:=by
   have:=hN.at_
   rw[bne_iff_ne] at this;exact this
  have fV:=hN.le;have ft:Zai n ps l=LN.sz ps l:=Zl1 (by omega) g.pr g.nd gq EZ
  have gJ:∀ j,j<n→Zai j ps l=0:=fun j hj=>by
   by_cases h:Zai j ps l=0
   ·exact h
   ·have h1:(Zai j ps l != 0)=true:=by rw[bne_iff_ne];exact h
    have h2:=Zrz (T:=fun b=>Zai b ps l != 0) jB (n-1-j) j (by omega) h1
    rcases hN.low with h3|h3
    ·omega
    ·rw[show j+(n-1-j)=n-1 by omega] at h2
     rw[h2] at h3;cases h3
  have DQ:LN.sz ps l≠0:=by rw[← ft];exact EZ
  have EV:∀ b,b≤1000→Zai b ps l=LN.sz ps l→Zmk (LN.sz ps l) (b:Nat) (Zam b ps l) ps l=true:=fun b hb h=>by
   unfold Zmk;rw[if_neg DQ,hnz,decide_eq_true (show (0:Int)≤(b:Nat)∧((b:Nat):Int)≤1000 by omega),Int.toNat_natCast,decide_eq_true rfl,decide_eq_true h]
   rfl
  have J6:∀ M:Nat,n=M+1→Zmk (LN.sz ps l) (M:Int) (Zam M ps l) ps l=false:=fun M hM=>by
   unfold Zmk;rw[if_neg DQ,Int.toNat_natCast,gJ M (by omega),decide_eq_false (show ¬ (0:Int)=LN.sz ps l from fun h=>DQ h.symm),Bool.and_false]
  have D9:∀ W a0 a1 c0 c1,Rd W a0 (Qt ps)→Rd W a1 (Kt l)→Qd W→Qb5 26 #[.slice a0 ps.length c0,.slice a1 ps.length c1] W (LN.sz ps l) n (Zam n ps l):=fun W a0 a1 c0 c1 rp rl L=>by
   unfold Qb5;refine cm_ (Zlv W a0 a1 c0 c1 30 ps l rp rl hi hl hn hp hs (by decide) fh hnz GV L) ?_
   rintro e w' ⟨m,a,c,rfl,hm,hr,hb⟩;obtain rfl:m=n:=hm.uniq jB hN;rw[ft];exact⟨a,c,rfl,hr,hb⟩
  have Fu:=Nat.le_trans (Zoc n ps l) hn
  by_cases h60:n≤60
  ·refine⟨LN.sz ps l,n,Zam n ps l,true,LN.sz ps l,n,Zam n ps l,rfl,fV,Fu,Fu,D9,fun W a0 a1 c0 c1 rp rl L=>?_,fun _=>⟨rfl,rfl,rfl⟩,EV n fV ft,fun _ _=>⟨h60,EV (n+1) (by omega) (Zl1 (by omega) g.pr g.nd gq (Zj5 g.pr (by omega) EZ)),J6⟩⟩
   refine cm_ (Zlw W a0 a1 c0 c1 30 ps l rp rl hl hn hp hs (by decide) L hnz n h60 gJ EZ) ?_
   rintro e w' ⟨a,c,rfl,hr,hb⟩;rw[ft];exact⟨a,c,rfl,hr,hb⟩
  ·refine⟨LN.sz ps l,n,Zam n ps l,false,0,0,[],rfl,fV,Fu,by decide,D9,fun W a0 a1 c0 c1 rp rl L=>?_,(fun h=>absurd h (by decide)),EV n fV ft,(fun _ h=>absurd h (by decide))⟩
   refine cm_ (Zlx W a0 a1 c0 c1 30 ps l rp rl hl hn hp hs (by decide) L hnz fun j hj=>gJ j (by omega)) ?_
   rintro e w' ⟨rfl,hb⟩;exact⟨none,0,rfl,.inl rfl,hb⟩
theorem Zqc(w:World)(sg n sg' n':Int)(a1 a2:Option Addr)(c1 c2:Nat)(la lb:List (Int×Int×ByteArray))(r1:Rd w a1 (Qb la))(r2:Rd w a2 (Qb lb))(fY:la.length≤1000000)(hbig2:lb.length≤1000000):
  Kc Tryz.prog 41 #[Zee sg n a1 la.length c1,Zee sg' n' a2 lb.length c2] w (.bool (decide (sg=sg'∧n=n'∧la=lb))):=by
 unfold Kc Zee;obtain⟨v,hv⟩:∃ v,decide (sg=sg'∧n=n'∧la=lb)=v:=⟨_,rfl⟩;have H2:=hd_ (Zyv w #[.int .i64 sg,.int .i64 n,.slice a1 la.length c1] #[.int .i64 sg',.int .i64 n',.slice a2 lb.length c2] 51);rw[hv]
 by_cases ft:sg=sg'
 case neg =>
  have Hv:Hid (v=false):=by show _=_;rw[← hv];exact decide_eq_false fun h=>ft h.1
  have BP:(sg==sg')=false:=by rw[beq_eq_false_iff_ne];exact ft
  have Am:decide (sg=sg')=false:=decide_eq_false ft;clear hv r1 r2;generalize la.length=m at *
  generalize lb.length=m' at *
  obtain⟨h1,h2,hb⟩:=H2.out;clear H2;go_enter Tryz.func41,Tryz.ntmps41;obtain⟨k0,k1,k2,-⟩:=Ki h1;obtain⟨l0,l1,l2,-⟩:=Ki h2;have HB:=hd_ hb;clear h1 h2 hb
  go_wp2_with fail
  generalize (w.alloc (.cells #[.int .i64 sg,.int .i64 n,.slice a1 m c1] 51)).alloc (.cells #[.int .i64 sg',.int .i64 n',.slice a2 m' c2] 51)=W0 at *
  go_ret;exact⟨by rw[Hv.out];rfl,HB.out⟩
 subst ft
 by_cases Fk:n=n'
 case neg =>
  have Hv:Hid (v=false):=by show _=_;rw[← hv];exact decide_eq_false fun h=>Fk h.2.1
  have BP:(n==n')=false:=by rw[beq_eq_false_iff_ne];exact Fk
  have Am:decide (n=n')=false:=decide_eq_false Fk;clear hv r1 r2;generalize la.length=m at *
  generalize lb.length=m' at *
  obtain⟨h1,h2,hb⟩:=H2.out;clear H2;go_enter Tryz.func41,Tryz.ntmps41;obtain⟨k0,k1,k2,-⟩:=Ki h1;obtain⟨l0,l1,l2,-⟩:=Ki h2;have HB:=hd_ hb;clear h1 h2 hb
  go_wp2_with fail
  generalize (w.alloc (.cells #[.int .i64 sg,.int .i64 n,.slice a1 m c1] 51)).alloc (.cells #[.int .i64 sg,.int .i64 n',.slice a2 m' c2] 51)=W0 at *
  go_ret;exact⟨by rw[Hv.out];rfl,HB.out⟩
 subst Fk
 by_cases hl:la.length=lb.length
 case neg =>
  have Hv:Hid (v=false):=by show _=_;rw[← hv];exact decide_eq_false fun h=>hl (by rw[h.2.2])
  have BP:((la.length:Int)==lb.length)=false:=by rw[beq_eq_false_iff_ne];omega
  clear hv hl r1 r2;generalize la.length=m at *
  generalize lb.length=m' at *
  obtain⟨h1,h2,hb⟩:=H2.out;clear H2;go_enter Tryz.func41,Tryz.ntmps41;obtain⟨k0,k1,k2,-⟩:=Ki h1;obtain⟨l0,l1,l2,-⟩:=Ki h2;have HB:=hd_ hb;clear h1 h2 hb
  go_wp2_with fail
  generalize (w.alloc (.cells #[.int .i64 sg,.int .i64 n,.slice a1 m c1] 51)).alloc (.cells #[.int .i64 sg,.int .i64 n,.slice a2 m' c2] 51)=W0 at *
  go_ret;exact⟨by rw[Hv.out];rfl,HB.out⟩
 have R1:=hd_ r1;have R2:=hd_ r2;have EC:Hid (∀ k,(∀ j (h1:j<la.length) (h2:j<lb.length),j<k→la[j]=lb[j])→k=la.length→v=true):=fun k h hk=>by
  rw[← hv];exact decide_eq_true ⟨rfl,rfl,List.ext_getElem hl fun i h1 h2=>h i h1 h2 (by omega)⟩
 have Cl:Hid (∀ k (h1:k<la.length) (h2:k<lb.length),la[k]≠lb[k]→v=false):=fun k h1 h2 gq=>by
  rw[← hv];exact decide_eq_false fun he=>gq (by obtain⟨-,-,he⟩:=he;subst he;rfl)
 obtain⟨m,hn⟩:∃ m,la.length=m:=⟨_,rfl⟩;have hm:lb.length=m:=hl.symm.trans hn;rw[hn] at fY H2;rw[hm] at H2;rw[hn,hm];have Hn:=hd_ hn;have Hm:=hd_ hm;clear hl r1 r2 hn hm hbig2 hv;obtain⟨h1,h2,hb⟩:=H2.out;clear H2;go_enter Tryz.func41,Tryz.ntmps41;obtain⟨k0,k1,k2,-⟩:=Ki h1;obtain⟨l0,l1,l2,-⟩:=Ki h2;have HB:=hd_ hb;have Cy:=hd_ h1;have EK:=hd_ h2;clear h1 h2 hb
 go_wp2_with fail
 generalize (w.alloc (.cells #[.int .i64 sg,.int .i64 n,.slice a1 m c1] 51)).alloc (.cells #[.int .i64 sg,.int .i64 n,.slice a2 m c2] 51)=W0 at *
 clear k0 k1 k2 l0 l1 l2
 go_loopw [5] (fun i wr=>∃ k:Nat,k≤m∧i = .int .i64 k∧Hid (∀ j (h1:j<la.length) (h2:j<lb.length),j<k→la[j]=lb[j])∧Hid (Below W0.heap.size W0 wr)) (fun i _=>m-(intOf i).toNat)
 case atStart=>exact⟨0,Nat.zero_le _,rfl,fun j _ _ hj=>absurd hj (Nat.not_lt_zero _),Below.refl _ _⟩
 case round =>
  obtain⟨k,hk,rfl,Hp,B⟩:=hrel;obtain⟨-,-,k2,-⟩:=Ki (show wr.heap[_]?=_ by rw[B.out.block _ (lt_of_block Cy.out)];exact Cy.out)
  obtain⟨-,-,l2,-⟩:=Ki (show wr.heap[_]?=_ by rw[B.out.block _ (lt_of_block EK.out)];exact EK.out)
  have Bw:=hd_ (HB.out.trans (B.out.mono HB.out.size))
  by_cases H9:k<m
  ·have gm:(k:Int)<m:=by omega
   have h1:k<la.length:=by rw[Hn.out];exact H9
   have h2:k<lb.length:=by rw[Hm.out];exact H9
   have dR:IntKind.i64.wrap ((k:Int)+1)=((k+1:Nat):Int):=by rw[← Int.natCast_succ];exact iw_ _ (by omega)
   obtain⟨b,off,rfl,x0,x1,x2⟩:=Zkz R1.out Bw.out nr_ k h1;obtain⟨b',off',rfl,y0,y1,y2⟩:=Zkz R2.out Bw.out nr_ k h2;have Cf:Hid (la[k]=lb[k]→∀ j (h1:j<la.length) (h2:j<lb.length),j<k+1→la[j]=lb[j]):=fun he j g1 g2 hj=>by
    rcases Nat.lt_or_ge j k with h|h
    ·exact Hp.out j g1 g2 h
    ·have e:j=k:=by omega
     subst e;exact he
   have Cm:=hd_ (Cl.out k h1 h2);clear Hp;generalize la[k]=p at *
   generalize lb[k]=q at *
   have q0:=cell_regrown x0;have q1:=cell_regrown x1;have q2:=cell_regrown x2;have q3:=cell_regrown y0;have q4:=cell_regrown y1;have q5:=cell_regrown y2;have q6:=cell_regrown k2;have q7:=cell_regrown l2;have HK:=hd_ H9
   go_wp2_with fail
   clear x0 x1 x2 y0 y1 y2 k2 l2;refine wp_region_quiet_below (by kernel_rfl) (by kernel_rfl) ?_
   repeat (first | go_big_quiet_step (fail) | quiet_step (fail))
   refine BigFrame.wpQuiet_want rfl fun K hK=>Zgn _ _ _ p q rfl rfl rfl (hK _ ?_)
   refine wpQuiet_nil ?_;intro w6 hw6;obtain⟨⟨dq,osq⟩,rfl⟩:=hw6;have B6:=hd_ (B.out.trans ((below_regrown wr dq osq).mono B.out.size));clear q0 q1 q2 q3 q4 q5 q6 q7 B Bw;generalize Go.Sort.grow (redrawn wr dq) osq=w6 at *
   by_cases hpq:p=q
   ·rw[decide_eq_true hpq];have Hq:=hd_ (Cf.out hpq);clear hpq Cf Cm
    go_wp2_with fail
    go_roundw
    case rel=>exact⟨k+1,HK.out,by go_num,Hq,B6⟩
    case measure=>simp[intOf];omega
   ·rw[decide_eq_false hpq];have Hz:=hd_ (Cm.out hpq);clear hpq Cf Cm
    go_wp2_with fail
    go_ret;exact⟨by rw[Hz.out];rfl,HB.out.trans (B6.out.mono HB.out.size)⟩
  ·have gm:¬ (k:Int)<m:=by omega
   have Hz:=hd_ (EC.out k Hp.out (by rw[Hn.out];omega))
   clear Hp
   go_wp2_with fail
   go_ret;exact⟨by rw[Hz.out];rfl,Bw.out⟩
theorem Zm6:∀ k,k<10→∀ p∈Zay k,p=p.toNat∧(p.toNat=2∨p.toNat∈Yp):=by decide +kernel
theorem Zbr{w:World}{a:Option Addr}{BL:List (Int×Int×ByteArray)}{g:Nat}(h:Rd w a (Qb BL))(hob:w.heap[g]?=some (.cells #[.int .i64 0,.int .i64 0,.slice none 0 0] 51 (0,0)))(x y z:Value):
  Rd (((w.setCell ⟨g,0,none⟩ x).setCell ⟨g,1,none⟩ y).setCell ⟨g,2,none⟩ z) a (Qb BL) :=
 Zsr h hob (fun b hb=>by rw[Below.heap_setCell _ _ _ _ hb,Below.heap_setCell _ _ _ _ hb,Below.heap_setCell _ _ _ _ hb]) (by rw[World.size_setCell,World.size_setCell,World.size_setCell])
theorem Ze2{w:World}{R:Nat}{x y z x' y' z':Value}{t:TypeId}(h:w.heap[R]?=some (.cells #[x,y,z] t (0,0))):
  (((w.setCell ⟨R,0,none⟩ x').setCell ⟨R,1,none⟩ y').setCell ⟨R,2,none⟩ z').heap[R]?=some (.cells #[x',y',z'] t (0,0)):=by
 have H9:=lt_of_block h;have h':w.heap[R] = .cells #[x,y,z] t (0,0):=by simpa [Array.getElem?_eq_getElem H9] using h
 have e1:(w.setCell ⟨R,0,none⟩ x').heap[R]?=some (.cells #[x',y,z] t (0,0)):=by
  show (w.heap.modify R _)[R]?=_
  rw[Array.getElem?_eq_getElem (by simpa using H9),Array.getElem_modify_self,h']
  rfl
 have bm:=lt_of_block e1;have Dy:(w.setCell ⟨R,0,none⟩ x').heap[R] = .cells #[x',y,z] t (0,0):=by simpa [Array.getElem?_eq_getElem bm] using e1
 have e2:((w.setCell ⟨R,0,none⟩ x').setCell ⟨R,1,none⟩ y').heap[R]?=some (.cells #[x',y',z] t (0,0)):=by
  show ((w.setCell ⟨R,0,none⟩ x').heap.modify R _)[R]?=_
  rw[Array.getElem?_eq_getElem (by simpa using bm),Array.getElem_modify_self,Dy]
  rfl
 exact Zkw e2
theorem Qa5(w:World)(pn:Nat)(nA:Nat→Int)(dA:Nat→Nat)(An:pn<256)(hnA:∀ k,-128≤nA k∧nA k≤127)(hdA:∀ k,dA k<256)(L:Qd w):
  Kc Tryz.prog 14 #[.int .u8 pn,.agg (Zbs nA dA)] w (.bool true):=by
 unfold Kc Zbs;have HK:Hid (∀ W,Below w.heap.size w W→Kc Tryz.prog 15 #[] W (.bool true)):=fun W hW=>Zq1 W (L.below hW)
 have hp:=Zqh (pn%10) (Nat.mod_lt _ (by decide))
 have bi:=Zjd (pn%10) (Nat.mod_lt _ (by decide))
 have mA:=Zm6 (pn%10) (Nat.mod_lt _ (by decide))
 have LG:=hd_ (fun W=>Zqg W pn An)
 generalize Zay (pn%10)=ps at *
 obtain⟨fh,hp4,DS,Gn⟩:=hp;obtain⟨GR,Gh⟩:=bi;have ep:ps.length≤100:=by omega
 have Gj:∀ p∈ps,0<p:=fun p hp=>by have:=Gn p hp;omega
 have hi:Ziv ps:=fun x hx=>by have:=Gn x hx;omega
 have HA:Hid (∀ W a0 c0,Below w.heap.size w W→Calls Tryz.prog 33 #[.slice a0 ps.length c0,.agg #[.int .i8 (nA 0),.int .u8 (dA 0),.int .i8 (nA 1),.int .u8 (dA 1),.int .i8 (nA 2),.int .u8 (dA 2),.int .i8 (nA 3),.int .u8 (dA 3)]] W fun e w'=>∃ a c,e = .returned (.slice a ps.length c)∧Rd w' a (Kt (Zba nA dA ps.length))∧Below W.heap.size W w'):=fun W a0 c0 hW=>by
  refine cm_ (Zwa W a0 c0 ps.length hp4 nA dA hnA hdA (L.below hW)) ?_;rintro e w' ⟨a,c,rfl,ho,hb⟩;exact⟨a,c,rfl,ho.rd,hb⟩
 have AQ:=Zb5 nA dA ps.length;have sa:=Zs2 nA dA ps.length;have ma:=Zqk nA dA ps.length;generalize Zba nA dA ps.length=la at *
 have g:Zke ps la:=ma.good (ps:=ps) (by decide) (Qat (by decide)) GR Gh
 have Dm:∀ p∈ps,∃ q:Nat,p=q∧(q=2∨q∈Yp):=fun p hp=>⟨p.toNat,mA p hp⟩
 have Jo:∀ q∈la,Sm 30 q:=fun q hq=>(sa q hq).le (by decide)
 obtain⟨SG,N,BL,F,SG2,N2,BL2,GJ,hN,hBL,hBL2,D9,hd14,hF,EV,hmore⟩:=Zrf ps la hi AQ ep Dm Gj GR Jo fh g;have jm:=hd_ (fun W a0 a1 c0 c1 (hW:Below w.heap.size w W) (r0:Rd W a0 (Qt ps)) (r1:Rd W a1 (Kt la))=>D9 W a0 a1 c0 c1 r0 r1 (L.below hW))
 have j9:=hd_ (fun W a0 a1 c0 c1 (hW:Below w.heap.size w W) (r0:Rd W a0 (Qt ps)) (r1:Rd W a1 (Kt la))=>hd14 W a0 a1 c0 c1 r0 r1 (L.below hW))
 have Lz:=hd_ (fun W a0 a1 c0 c1 (hW:Below w.heap.size w W) (r0:Rd W a0 (Qt ps)) (r1:Rd W a1 (Kt la))=>show Kc Tryz.prog 34 #[.slice a0 ps.length c0,.slice a1 ps.length c1] W (.tuple #[.int .i64 SG,.int .i64 0]) from by
  rw[← GJ];exact Zxs W ps a0 a1 c0 c1 la ⟨r0,r1,AQ,ep,fun p hp=>by have:=Gn p hp;omega,Jo,by decide⟩ fh g (L.below hW))
 have AH:=hd_ (fun W a0 a1 a2 c0 c1 c2 (sg n:Int) BB (hW:Below w.heap.size w W) (r0:Rd W a0 (Qt ps)) (r1:Rd W a1 (Kt la)) (rb:Rd W a2 (Qb BB)) (hB:BB.length≤100)=>Zp1 W a0 a1 a2 c0 c1 c2 2 ps la sg n BB r0 r1 rb (by omega) hi AQ ep Dm sa (by decide) fh (L.below hW))
 have DJ:=hd_ (fun (b:Nat) (hb:b≤61) W a0 a1 c0 c1 (hW:Below w.heap.size w W) (r0:Rd W a0 (Qt ps)) (r1:Rd W a1 (Kt la))=>Zbf W a0 a1 c0 c1 b ps la r0 r1 AQ ep Dm (by omega) (L.below hW))
 have Ja:=hd_ (fun W a a' c c' (r:Rd W a (Qb BL)) (r':Rd W a' (Qb BL))=>show Kc Tryz.prog 41 #[Zee SG N a BL.length c,Zee SG N a' BL.length c'] W (.bool true) from by
  have h:=Zqc W SG N SG N a a' c c' BL BL r r' (by omega) (by omega)
  rw[decide_eq_true (show SG=SG∧(N:Int)=N∧BL=BL from ⟨rfl,rfl,rfl⟩)] at h
  exact h)
 have jV:=hd_ (fun b=>Nat.le_trans (Zoc b ps la) ep)
 have HF:=hd_ hF;have Cr:=hd_ hmore;have Ik:=hd_ EV;have AG:Hid (∀ W a0 a1 a2 c0 c1 c2,Below w.heap.size w W→Rd W a0 (Qt ps)→Rd W a1 (Kt la)→Rd W a2 (Qb BL)→Kc Tryz.prog 29 #[.slice a0 ps.length c0,.slice a1 ps.length c1,Zee SG N a2 BL.length c2] W (.int .i64 0)):=fun W a0 a1 a2 c0 c1 c2 hW r0 r1 r2=>by
  have h:=AH.out W a0 a1 a2 c0 c1 c2 SG N BL hW r0 r1 r2 hBL;rw[if_pos EV] at h;exact h
 clear DS Gn fh GR Gh mA An hnA hdA hi AQ sa ma g Dm Jo GJ D9 hd14 hF EV hmore Gj L hp4 ep;obtain⟨np,hnp⟩:∃ np,ps.length=np:=⟨_,rfl⟩;rw[hnp] at LG HA jm j9 Lz AH DJ AG;clear hnp;obtain⟨M,hM⟩:∃ M,BL.length=M:=⟨_,rfl⟩;obtain⟨M2,gV⟩:∃ M2,BL2.length=M2:=⟨_,rfl⟩;have HM:=hd_ hM;have ba:=hd_ gV;unfold Qb5 at jm;rw[hM] at jm Ja AG;rw[gV] at j9;clear hM gV hBL hBL2;have CW:IntKind.i64.wrap ((N:Int)+1)=((N+1:Nat):Int):=by rw[← Int.natCast_succ];exact iw_ _ (by omega)
 have B:=hd_ ((Below.refl w.heap.size w).alloc nr_ (.cells #[.int .i8 (nA 0),.int .u8 (dA 0),.int .i8 (nA 1),.int .u8 (dA 1),.int .i8 (nA 2),.int .u8 (dA 2),.int .i8 (nA 3),.int .u8 (dA 3)] 61));have P0:Hid ((w.alloc (.cells #[.int .i8 (nA 0),.int .u8 (dA 0),.int .i8 (nA 1),.int .u8 (dA 1),.int .i8 (nA 2),.int .u8 (dA 2),.int .i8 (nA 3),.int .u8 (dA 3)] 61)).heap[w.heap.size]?=some (.cells #[.int .i8 (nA 0),.int .u8 (dA 0),.int .i8 (nA 1),.int .u8 (dA 1),.int .i8 (nA 2),.int .u8 (dA 2),.int .i8 (nA 3),.int .u8 (dA 3)] 61 (0,0))):=heap_alloc_new w _;go_enter Tryz.func14,Tryz.ntmps14
 go_wp2_with fail
 generalize w.alloc (.cells #[.int .i8 (nA 0),.int .u8 (dA 0),.int .i8 (nA 1),.int .u8 (dA 1),.int .i8 (nA 2),.int .u8 (dA 2),.int .i8 (nA 3),.int .u8 (dA 3)] 61)=w0 at *
 refine cm_ (HK.out _ B.out) ?_;rintro e_ w1 ⟨rfl,H7⟩;replace P0:=hd_ (Kd P0.out H7 nr_);replace B:=hd_ (B.out.trans (H7.mono B.out.size));clear H7 HK
 go_wp2_with fail
 refine cm_ (LG.out _) ?_;rintro e_ w2 ⟨gp,rfl,rp_,H7⟩;replace P0:=hd_ (Kd P0.out H7 nr_);replace B:=hd_ (B.out.trans (H7.mono B.out.size));have Rp:=hd_ rp_;clear H7 rp_ LG;have p0:w2.cell? ⟨w.heap.size,0,none⟩=some (.int .i8 (nA 0)):=by rw[cell_of_row _ _ _ _ _ _ P0.out];rfl
 have p1:w2.cell? ⟨w.heap.size,1,none⟩=some (.int .u8 (dA 0)):=by rw[cell_of_row _ _ _ _ _ _ P0.out];rfl
 have p2:w2.cell? ⟨w.heap.size,2,none⟩=some (.int .i8 (nA 1)):=by rw[cell_of_row _ _ _ _ _ _ P0.out];rfl
 have p3:w2.cell? ⟨w.heap.size,3,none⟩=some (.int .u8 (dA 1)):=by rw[cell_of_row _ _ _ _ _ _ P0.out];rfl
 have p4:w2.cell? ⟨w.heap.size,4,none⟩=some (.int .i8 (nA 2)):=by rw[cell_of_row _ _ _ _ _ _ P0.out];rfl
 have p5:w2.cell? ⟨w.heap.size,5,none⟩=some (.int .u8 (dA 2)):=by rw[cell_of_row _ _ _ _ _ _ P0.out];rfl
 have p6:w2.cell? ⟨w.heap.size,6,none⟩=some (.int .i8 (nA 3)):=by rw[cell_of_row _ _ _ _ _ _ P0.out];rfl
 have p7:w2.cell? ⟨w.heap.size,7,none⟩=some (.int .u8 (dA 3)):=by rw[cell_of_row _ _ _ _ _ _ P0.out];rfl
 go_wp2_with fail
 clear p0 p1 p2 p3 p4 p5 p6 p7;refine cm_ (HA.out _ _ _ B.out) ?_;rintro e_ w3 ⟨aa,ca,rfl,ra_,H7⟩;replace Rp:=hd_ (Rp.out.below H7 nr_);replace B:=hd_ (B.out.trans (H7.mono B.out.size));have Ra:=hd_ ra_;clear H7 ra_ HA P0
 go_wp2_with fail
 refine cm_ (jm.out _ _ _ _ _ B.out Rp.out Ra.out) ?_;rintro e_ w4 ⟨a7,c7,rfl,r7_,H7⟩;unfold Zee;replace H7:=H7.alloc H7.size (.cells #[.int .i64 SG,.int .i64 N,.slice a7 M c7] 51);replace Rp:=hd_ (Rp.out.below H7 nr_);replace Ra:=hd_ (Ra.out.below H7 nr_);replace B:=hd_ (B.out.trans (H7.mono B.out.size));have R7:=hd_ (r7_.below ((Below.refl w4.heap.size w4).alloc nr_ (.cells #[.int .i64 SG,.int .i64 N,.slice a7 M c7] 51)) nr_);have O7:Hid ((w4.alloc (.cells #[.int .i64 SG,.int .i64 N,.slice a7 M c7] 51)).heap[w4.heap.size]?=some (.cells #[.int .i64 SG,.int .i64 N,.slice a7 M c7] 51 (0,0))):=heap_alloc_new w4 _;clear H7 r7_ jm
 go_wp2_with fail
 generalize w4.alloc (.cells #[.int .i64 SG,.int .i64 N,.slice a7 M c7] 51)=w5 at *
 refine cm_ (j9.out _ _ _ _ _ B.out Rp.out Ra.out) ?_;rintro e_ w6 ⟨a9,c9,rfl,r9_,H7⟩;unfold Zee;replace H7:=H7.alloc H7.size (.cells #[.int .i64 SG2,.int .i64 N2,.slice a9 M2 c9] 51);replace Rp:=hd_ (Rp.out.below H7 nr_);replace Ra:=hd_ (Ra.out.below H7 nr_);replace R7:=hd_ (R7.out.below H7 nr_);replace O7:=hd_ (Kd O7.out H7 nr_);replace B:=hd_ (B.out.trans (H7.mono B.out.size));have R9:=hd_ (r9_.below ((Below.refl w6.heap.size w6).alloc nr_ (.cells #[.int .i64 SG2,.int .i64 N2,.slice a9 M2 c9] 51)) nr_);have O9:Hid ((w6.alloc (.cells #[.int .i64 SG2,.int .i64 N2,.slice a9 M2 c9] 51)).heap[w6.heap.size]?=some (.cells #[.int .i64 SG2,.int .i64 N2,.slice a9 M2 c9] 51 (0,0))):=heap_alloc_new w6 _;clear H7 r9_ j9
 go_wp2_with fail
 generalize w6.alloc (.cells #[.int .i64 SG2,.int .i64 N2,.slice a9 M2 c9] 51)=w7 at *
 refine cm_ (Lz.out _ _ _ _ _ B.out Rp.out Ra.out) ?_;rintro e_ w8 ⟨rfl,H7⟩;replace Rp:=hd_ (Rp.out.below H7 nr_);replace Ra:=hd_ (Ra.out.below H7 nr_);replace R7:=hd_ (R7.out.below H7 nr_);replace R9:=hd_ (R9.out.below H7 nr_);replace O7:=hd_ (Kd O7.out H7 nr_);replace O9:=hd_ (Kd O9.out H7 nr_);replace B:=hd_ (B.out.trans (H7.mono B.out.size));clear H7 Lz;obtain⟨k0,k1,k2,-⟩:=Ki O7.out;obtain⟨l0,l1,l2,-⟩:=Ki O9.out;cases F
 case false =>
  clear HF Cr Ja DJ AH Ik jV
  by_cases hs:SG=0
  ·subst hs
   go_wp2_with fail
   refine cm_ (AG.out _ _ _ _ _ _ _ B.out Rp.out Ra.out R7.out) ?_;rintro e_ w9 ⟨rfl,H7⟩;replace Rp:=hd_ (Rp.out.below H7 nr_);replace Ra:=hd_ (Ra.out.below H7 nr_);replace R7:=hd_ (R7.out.below H7 nr_);replace O7:=hd_ (Kd O7.out H7 nr_);replace B:=hd_ (B.out.trans (H7.mono B.out.size));clear H7;clear k0 k1 k2 l0 l1 l2
   go_wp2_with fail
   go_ret;exact⟨rfl,B.out⟩
  ·have BP:(SG==0)=false:=by rw[beq_eq_false_iff_ne];exact hs
   go_wp2_with fail
   refine cm_ (AG.out _ _ _ _ _ _ _ B.out Rp.out Ra.out R7.out) ?_;rintro e_ w9 ⟨rfl,H7⟩;replace Rp:=hd_ (Rp.out.below H7 nr_);replace Ra:=hd_ (Ra.out.below H7 nr_);replace R7:=hd_ (R7.out.below H7 nr_);replace O7:=hd_ (Kd O7.out H7 nr_);replace B:=hd_ (B.out.trans (H7.mono B.out.size));clear H7;clear k0 k1 k2 l0 l1 l2
   go_wp2_with fail
   go_ret;exact⟨rfl,B.out⟩
 obtain⟨rfl,rfl,rfl⟩:=HF.out rfl;obtain rfl:M=M2:=HM.out.symm.trans ba.out;clear HF ba
 go_wp2_with fail
 refine cm_ (Ja.out _ _ _ _ _ R7.out R9.out) ?_;rintro e_ w9 ⟨rfl,H7⟩;replace Rp:=hd_ (Rp.out.below H7 nr_);replace Ra:=hd_ (Ra.out.below H7 nr_);replace R7:=hd_ (R7.out.below H7 nr_);replace O7:=hd_ (Kd O7.out H7 nr_);replace B:=hd_ (B.out.trans (H7.mono B.out.size));clear H7 Ja R9 O9 k0 k1 k2 l0 l1 l2;obtain⟨k0,k1,k2,-⟩:=Ki O7.out
 go_wp2_with fail
 refine cm_ (AG.out _ _ _ _ _ _ _ B.out Rp.out Ra.out R7.out) ?_;rintro e_ wa ⟨rfl,H7⟩;replace Rp:=hd_ (Rp.out.below H7 nr_);replace Ra:=hd_ (Ra.out.below H7 nr_);replace R7:=hd_ (R7.out.below H7 nr_);replace O7:=hd_ (Kd O7.out H7 nr_);replace B:=hd_ (B.out.trans (H7.mono B.out.size));clear H7;clear k0 k1 k2 AG;obtain⟨k0,k1,k2,-⟩:=Ki O7.out
 by_cases hs:SG2=0
 case pos =>
  subst hs;clear k0 k1 k2
  go_wp2_with fail
  go_ret;exact⟨rfl,B.out⟩
 have BP:(SG2==0)=false:=by rw[beq_eq_false_iff_ne];exact hs
 obtain⟨h60,dK,bP⟩:=Cr.out hs (by first|rfl|trivial)
 have aE:=hd_ dK;have Mt:=hd_ bP;clear dK bP Cr Ik;obtain⟨N1,hN1e⟩:∃ N1,N+1=N1:=⟨_,rfl⟩;rw[hN1e] at CW aE;have ff:=hd_ (DJ.out N1 (by omega))
 have CX:=hd_ (jV.out N1);generalize Zam N1 ps la=XL at *
 have nh:=hd_ (fun W a0 a1 a2 c0 c1 c2 (hW:Below w.heap.size w W) (r0:Rd W a0 (Qt ps)) (r1:Rd W a1 (Kt la)) (r2:Rd W a2 (Qb XL))=>show Kc Tryz.prog 29 #[.slice a0 np c0,.slice a1 np c1,Zee SG2 N1 a2 XL.length c2] W (.int .i64 0) from by
  have h:=AH.out W a0 a1 a2 c0 c1 c2 SG2 N1 XL hW r0 r1 r2 CX.out;rw[if_pos aE.out] at h;exact h)
 clear aE CX
 go_upto_region 12 with fail
 go_cut [13] from 74 to 84 (fun y wx=>∃ g,y = .pointer (some ⟨g,0,none⟩)∧∃ a c,Hid (wx.heap[g]?=some (.cells #[.int .i64 SG2,.int .i64 N1,.slice a XL.length c] 51 (0,0)))∧Hid (Rd wx a (Qb XL))∧Hid (Below wa.heap.size wa wx))
 case first =>
  have q0:=NW.cell k0;have q1:=NW.cell k1;have q2:=NW.cell k2;have gk:Nonempty (NW wa):=⟨⟨wa,Below.refl _ _⟩⟩;have I:Hid (Below wa.heap.size wa wa.drew):=(Below.refl _ _).drew;clear k0 k1 k2
  go_wp2_with fail
  refine RP.wp_region_tree 12 (.rd 2 0 (.rd 2 1 (.rd 1 2 (.rd 2 3 (.rd 2 4 (.rd 2 5 (.rd 2 6 (.rd 1 7 (.rd 2 8 (.two 9 11 (.two 10 11 (.mv 11 (.mv 12 .nil)) (.mv 10 (.mv 12 .nil))) (.mv 9 (.mv 10 (.mv 12 .nil))))))))))))) (fun w'=>∃ p:NW wa,w'=p.w) (by kernel_rfl) (by kernel_rfl) ?_ ?_
  ·exact⟨⟨_,I.out⟩,rfl⟩
  refine RP.walkT_any ?_;simp only[dz_,Kg,tz_]
  first | go_big_quiet_step (fail) | quiet_step (fail)
  refine wpQuiet_nil ?_;refine RP.walkT_any ?_;simp only[Kh,dz_,Kg,tz_]
  first | go_big_quiet_step (fail) | quiet_step (fail)
  refine wpQuiet_nil ?_;refine RP.walkT_read ?_;simp only[Kh,dz_,Kg,tz_]
  first | go_big_quiet_step (fail) | quiet_step (fail)
  refine wpQuiet_nil ?_;refine RP.walkT_any ?_;simp only[Kh,dz_,Kg,tz_]
  first | go_big_quiet_step (fail) | quiet_step (fail)
  refine wpQuiet_nil ?_;refine RP.walkT_any ?_;simp only[Kh,dz_,Kg,tz_]
  first | go_big_quiet_step (fail) | quiet_step (fail)
  refine wpQuiet_nil ?_;refine RP.walkT_any ?_;simp only[Kh,dz_,Kg,tz_]
  first | go_big_quiet_step (fail) | quiet_step (fail)
  refine wpQuiet_nil ?_;refine RP.walkT_any ?_;simp only[Kh,dz_,Kg,tz_]
  first | go_big_quiet_step (fail) | quiet_step (fail)
  refine wpQuiet_nil ?_;refine RP.walkT_read ?_;simp only[Kh,dz_,Kg,tz_]
  first | go_big_quiet_step (fail) | quiet_step (fail)
  refine wpQuiet_nil ?_;refine RP.walkT_any ?_;simp only[Kh,dz_,Kg,tz_]
  first | go_big_quiet_step (fail) | quiet_step (fail)
  refine wpQuiet_nil ?_;clear gk q0 q1 q2;refine RP.walkT_two ?_ ?_
  ·simp only[Kh,dz_,Kg,tz_]
   go_wp2_with fail
   refine cm_ (ff.out _ _ _ _ _ (B.out.trans (I.out.mono B.out.size)) (Rp.out.below I.out nr_) (Ra.out.below I.out nr_)) ?_;rintro e_ y1 ⟨ax,cx,rfl,rx_,H7⟩;have gI:Hid (Below wa.heap.size wa y1):=I.out.trans (H7.mono I.out.size);have Rx:=hd_ rx_;clear H7 rx_
   go_wp2_with fail
   refine⟨⟨⟨_,gI.out⟩,rfl⟩,?_⟩;refine RP.walkT_two ?_ ?_
   ·simp only[Kh,dz_,Kg,tz_]
    go_wp2_with fail
    refine⟨⟨⟨_,gI.out⟩,rfl⟩,?_⟩;refine RP.walkT_move ?_;simp only[Kh,dz_,Kg,tz_]
    go_wp2_with fail
    have gL:=hd_ (gI.out.alloc gI.out.size (.cells #[.int .i64 0,.int .i64 0,.slice none 0 0] 51));have gX:Hid ((y1.alloc (.cells #[.int .i64 0,.int .i64 0,.slice none 0 0] 51)).heap[y1.heap.size]?=some (.cells #[.int .i64 0,.int .i64 0,.slice none 0 0] 51 (0,0))):=heap_alloc_new y1 _;replace Rx:=hd_ (Rx.out.below ((Below.refl y1.heap.size y1).alloc nr_ (.cells #[.int .i64 0,.int .i64 0,.slice none 0 0] 51)) nr_);refine⟨⟨⟨_,gL.out⟩,rfl⟩,?_⟩;obtain⟨g,hg⟩:∃ g,g=y1.heap.size:=⟨_,rfl⟩;rw[← hg] at gX ⊢;have G_:Hid (wa.heap.size≤g):=by show _≤_;rw[hg];exact gI.out.size
    clear hg;generalize y1.alloc (.cells #[.int .i64 0,.int .i64 0,.slice none 0 0] 51)=y3 at *
    refine RP.walkT_move ?_;obtain⟨n0,n1,n2,nf⟩:=Ki gX.out;have f0:=nf 0;have f1:=nf 1;have f2:=nf 2;clear nf;simp only[Kh,dz_,Kg,tz_]
    go_wp2_with fail
    simp only[RP.walkT];have F9:=hd_ (Ze2 (x' := .int .i64 SG2) (y' := .int .i64 N1) (z' := .slice ax XL.length cx) gX.out);have R9:=hd_ (Zbr Rx.out gX.out (.int .i64 SG2) (.int .i64 N1) (.slice ax XL.length cx));have W9:=hd_ (((gL.out.setCell (p:=⟨g,0,none⟩) G_.out (.int .i64 SG2)).setCell (p:=⟨g,1,none⟩) G_.out (.int .i64 N1)).setCell (p:=⟨g,2,none⟩) G_.out (.slice ax XL.length cx));clear n0 n1 n2 f0 f1 f2;generalize ((y3.setCell ⟨g,0,none⟩ (.int .i64 SG2)).setCell ⟨g,1,none⟩ (.int .i64 N1)).setCell ⟨g,2,none⟩ (.slice ax XL.length cx)=w9 at *
    go_wp2_with fail
    go_meet
    exact⟨g,rfl,ax,cx,F9,R9,W9⟩
   ·simp only[Kh,dz_,Kg,tz_]
    go_wp2_with fail
    have gL:=hd_ (gI.out.alloc gI.out.size (.cells #[.int .i64 0,.int .i64 0,.slice none 0 0] 51));have gX:Hid ((y1.alloc (.cells #[.int .i64 0,.int .i64 0,.slice none 0 0] 51)).heap[y1.heap.size]?=some (.cells #[.int .i64 0,.int .i64 0,.slice none 0 0] 51 (0,0))):=heap_alloc_new y1 _;replace Rx:=hd_ (Rx.out.below ((Below.refl y1.heap.size y1).alloc nr_ (.cells #[.int .i64 0,.int .i64 0,.slice none 0 0] 51)) nr_);refine⟨⟨⟨_,gL.out⟩,rfl⟩,?_⟩;obtain⟨g,hg⟩:∃ g,g=y1.heap.size:=⟨_,rfl⟩;rw[← hg] at gX ⊢;have G_:Hid (wa.heap.size≤g):=by show _≤_;rw[hg];exact gI.out.size
    clear hg;generalize y1.alloc (.cells #[.int .i64 0,.int .i64 0,.slice none 0 0] 51)=y3 at *
    refine RP.walkT_move ?_;simp only[Kh,dz_,Kg,tz_]
    go_wp2_with fail
    refine⟨⟨⟨_,gL.out⟩,rfl⟩,?_⟩;refine RP.walkT_move ?_;obtain⟨n0,n1,n2,nf⟩:=Ki gX.out;have f0:=nf 0;have f1:=nf 1;have f2:=nf 2;clear nf;simp only[Kh,dz_,Kg,tz_]
    go_wp2_with fail
    simp only[RP.walkT];have F9:=hd_ (Ze2 (x' := .int .i64 SG2) (y' := .int .i64 N1) (z' := .slice ax XL.length cx) gX.out);have R9:=hd_ (Zbr Rx.out gX.out (.int .i64 SG2) (.int .i64 N1) (.slice ax XL.length cx));have W9:=hd_ (((gL.out.setCell (p:=⟨g,0,none⟩) G_.out (.int .i64 SG2)).setCell (p:=⟨g,1,none⟩) G_.out (.int .i64 N1)).setCell (p:=⟨g,2,none⟩) G_.out (.slice ax XL.length cx));clear n0 n1 n2 f0 f1 f2;generalize ((y3.setCell ⟨g,0,none⟩ (.int .i64 SG2)).setCell ⟨g,1,none⟩ (.int .i64 N1)).setCell ⟨g,2,none⟩ (.slice ax XL.length cx)=w9 at *
    go_wp2_with fail
    go_meet
    exact⟨g,rfl,ax,cx,F9,R9,W9⟩
  ·simp only[Kh,dz_,Kg,tz_]
   go_wp2_with fail
   have gL:Hid (Below wa.heap.size wa (wa.alloc (.cells #[.int .i64 0,.int .i64 0,.slice none 0 0] 51)).drew):=((Below.refl _ _).alloc nr_ _).drew;have gX:Hid (((wa.alloc (.cells #[.int .i64 0,.int .i64 0,.slice none 0 0] 51)).drew).heap[wa.heap.size]?=some (.cells #[.int .i64 0,.int .i64 0,.slice none 0 0] 51 (0,0))):=heap_alloc_new wa _;refine⟨⟨⟨_,gL.out⟩,rfl⟩,?_⟩;obtain⟨g,hg⟩:∃ g,g=wa.heap.size:=⟨_,rfl⟩;rw[← hg] at gX ⊢;have G_:Hid (wa.heap.size≤g):=by show _≤_;rw[hg];exact Nat.le_refl _
   clear hg;generalize (wa.alloc (.cells #[.int .i64 0,.int .i64 0,.slice none 0 0] 51)).drew=y3 at *
   refine RP.walkT_move ?_;simp only[Kh,dz_,Kg,tz_]
   go_wp2_with fail
   refine cm_ (ff.out _ _ _ _ _ (B.out.trans (gL.out.mono B.out.size)) (Rp.out.below gL.out nr_) (Ra.out.below gL.out nr_)) ?_;rintro e_ y5 ⟨ax,cx,rfl,rx_,H7⟩;have GG:Hid (Below wa.heap.size wa y5):=gL.out.trans (H7.mono gL.out.size);have Rx:=hd_ rx_;have f7:=hd_ (Kd gX.out H7 nr_);clear H7 rx_
   go_wp2_with fail
   refine⟨⟨⟨_,GG.out⟩,rfl⟩,?_⟩;refine RP.walkT_move ?_;simp only[Kh,dz_,Kg,tz_]
   go_wp2_with fail
   refine⟨⟨⟨_,GG.out⟩,rfl⟩,?_⟩;refine RP.walkT_move ?_;obtain⟨n0,n1,n2,nf⟩:=Ki f7.out;have f0:=nf 0;have f1:=nf 1;have f2:=nf 2;clear nf;simp only[Kh,dz_,Kg,tz_]
   go_wp2_with fail
   simp only[RP.walkT];have F9:=hd_ (Ze2 (x' := .int .i64 SG2) (y' := .int .i64 N1) (z' := .slice ax XL.length cx) f7.out);have R9:=hd_ (Zbr Rx.out f7.out (.int .i64 SG2) (.int .i64 N1) (.slice ax XL.length cx));have W9:=hd_ (((GG.out.setCell (p:=⟨g,0,none⟩) G_.out (.int .i64 SG2)).setCell (p:=⟨g,1,none⟩) G_.out (.int .i64 N1)).setCell (p:=⟨g,2,none⟩) G_.out (.slice ax XL.length cx));clear n0 n1 n2 f0 f1 f2;generalize ((y5.setCell ⟨g,0,none⟩ (.int .i64 SG2)).setCell ⟨g,1,none⟩ (.int .i64 N1)).setCell ⟨g,2,none⟩ (.slice ax XL.length cx)=w9 at *
   go_wp2_with fail
   go_meet
   exact⟨g,rfl,ax,cx,F9,R9,W9⟩
 case rest =>
 obtain⟨g13,rfl,a13,c13,O13,R13,D⟩:=hcut;replace Rp:=hd_ (Rp.out.below D.out nr_);replace Ra:=hd_ (Ra.out.below D.out nr_);replace R7:=hd_ (R7.out.below D.out nr_);replace O7:=hd_ (Kd O7.out D.out nr_);replace B:=hd_ (B.out.trans (D.out.mono B.out.size));clear D k0 k1 k2;obtain⟨k0,k1,k2,-⟩:=Ki O13.out
 go_wp2_with fail
 refine cm_ (nh.out _ _ _ _ _ _ _ B.out Rp.out Ra.out R13.out) ?_;rintro e_ wb ⟨rfl,H7⟩;replace Rp:=hd_ (Rp.out.below H7 nr_);replace Ra:=hd_ (Ra.out.below H7 nr_);replace R7:=hd_ (R7.out.below H7 nr_);replace O7:=hd_ (Kd O7.out H7 nr_);replace B:=hd_ (B.out.trans (H7.mono B.out.size));clear H7;clear k0 k1 k2 O13 R13 nh ff CW;obtain⟨k0,k1,k2,-⟩:=Ki O7.out
 by_cases du:N=0
 case pos =>
  have Dn:((N:Int)==0)=true:=by rw[du];rfl
  go_wp2_with fail
  go_ret;exact⟨rfl,B.out⟩
 have Dn:((N:Int)==0)=false:=by rw[beq_eq_false_iff_ne];omega
 obtain⟨m3,JN⟩:∃ m3,N=m3+1:=⟨N-1,by omega⟩
 have bP:=Mt.out m3 JN;have Bf:IntKind.i64.wrap ((N:Int)-1)=(m3:Int):=by rw[show (N:Int)-1=(m3:Int) by omega];exact iw_ _ (by omega)
 have GC:=hd_ (DJ.out m3 (by omega))
 have mg:=jV.out m3;generalize Zam m3 ps la=XM at *
 have ng:=hd_ (fun W a0 a1 a2 c0 c1 c2 (hW:Below w.heap.size w W) (r0:Rd W a0 (Qt ps)) (r1:Rd W a1 (Kt la)) (r2:Rd W a2 (Qb XM))=>show Kc Tryz.prog 29 #[.slice a0 np c0,.slice a1 np c1,Zee SG2 m3 a2 XM.length c2] W (.int .i64 23) from by
  have h:=AH.out W a0 a1 a2 c0 c1 c2 SG2 m3 XM hW r0 r1 r2 mg;rw[bP,if_neg (by decide)] at h
  exact h)
 clear bP mg AH DJ jV Mt JN hN1e
 go_upto_region 17 with fail
 go_cut [14] from 93 to 103 (fun y wx=>∃ g,y = .pointer (some ⟨g,0,none⟩)∧∃ a c,Hid (wx.heap[g]?=some (.cells #[.int .i64 SG2,.int .i64 m3,.slice a XM.length c] 51 (0,0)))∧Hid (Rd wx a (Qb XM))∧Hid (Below wb.heap.size wb wx))
 case first =>
  have q0:=NW.cell k0;have q1:=NW.cell k1;have q2:=NW.cell k2;have gk:Nonempty (NW wb):=⟨⟨wb,Below.refl _ _⟩⟩;have I:Hid (Below wb.heap.size wb wb.drew):=(Below.refl _ _).drew;clear k0 k1 k2
  go_wp2_with fail
  refine RP.wp_region_tree 12 (.rd 2 0 (.rd 2 1 (.rd 1 2 (.rd 2 3 (.rd 2 4 (.rd 2 5 (.rd 2 6 (.rd 1 7 (.rd 2 8 (.two 9 11 (.two 10 11 (.mv 11 (.mv 12 .nil)) (.mv 10 (.mv 12 .nil))) (.mv 9 (.mv 10 (.mv 12 .nil))))))))))))) (fun w'=>∃ p:NW wb,w'=p.w) (by kernel_rfl) (by kernel_rfl) ?_ ?_
  ·exact⟨⟨_,I.out⟩,rfl⟩
  refine RP.walkT_any ?_;simp only[dz_,Kg,tz_]
  first | go_big_quiet_step (fail) | quiet_step (fail)
  refine wpQuiet_nil ?_;refine RP.walkT_any ?_;simp only[Kh,dz_,Kg,tz_]
  first | go_big_quiet_step (fail) | quiet_step (fail)
  refine wpQuiet_nil ?_;refine RP.walkT_read ?_;simp only[Kh,dz_,Kg,tz_]
  first | go_big_quiet_step (fail) | quiet_step (fail)
  refine wpQuiet_nil ?_;refine RP.walkT_any ?_;simp only[Kh,dz_,Kg,tz_]
  first | go_big_quiet_step (fail) | quiet_step (fail)
  refine wpQuiet_nil ?_;refine RP.walkT_any ?_;simp only[Kh,dz_,Kg,tz_]
  first | go_big_quiet_step (fail) | quiet_step (fail)
  refine wpQuiet_nil ?_;refine RP.walkT_any ?_;simp only[Kh,dz_,Kg,tz_]
  first | go_big_quiet_step (fail) | quiet_step (fail)
  refine wpQuiet_nil ?_;refine RP.walkT_any ?_;simp only[Kh,dz_,Kg,tz_]
  first | go_big_quiet_step (fail) | quiet_step (fail)
  refine wpQuiet_nil ?_;refine RP.walkT_read ?_;simp only[Kh,dz_,Kg,tz_]
  first | go_big_quiet_step (fail) | quiet_step (fail)
  refine wpQuiet_nil ?_;refine RP.walkT_any ?_;simp only[Kh,dz_,Kg,tz_]
  first | go_big_quiet_step (fail) | quiet_step (fail)
  refine wpQuiet_nil ?_;clear gk q0 q1 q2;refine RP.walkT_two ?_ ?_
  ·simp only[Kh,dz_,Kg,tz_]
   go_wp2_with fail
   refine cm_ (GC.out _ _ _ _ _ (B.out.trans (I.out.mono B.out.size)) (Rp.out.below I.out nr_) (Ra.out.below I.out nr_)) ?_;rintro e_ y1 ⟨ax,cx,rfl,rx_,H7⟩;have gI:Hid (Below wb.heap.size wb y1):=I.out.trans (H7.mono I.out.size);have Rx:=hd_ rx_;clear H7 rx_
   go_wp2_with fail
   refine⟨⟨⟨_,gI.out⟩,rfl⟩,?_⟩;refine RP.walkT_two ?_ ?_
   ·simp only[Kh,dz_,Kg,tz_]
    go_wp2_with fail
    refine⟨⟨⟨_,gI.out⟩,rfl⟩,?_⟩;refine RP.walkT_move ?_;simp only[Kh,dz_,Kg,tz_]
    go_wp2_with fail
    have gL:=hd_ (gI.out.alloc gI.out.size (.cells #[.int .i64 0,.int .i64 0,.slice none 0 0] 51));have gX:Hid ((y1.alloc (.cells #[.int .i64 0,.int .i64 0,.slice none 0 0] 51)).heap[y1.heap.size]?=some (.cells #[.int .i64 0,.int .i64 0,.slice none 0 0] 51 (0,0))):=heap_alloc_new y1 _;replace Rx:=hd_ (Rx.out.below ((Below.refl y1.heap.size y1).alloc nr_ (.cells #[.int .i64 0,.int .i64 0,.slice none 0 0] 51)) nr_);refine⟨⟨⟨_,gL.out⟩,rfl⟩,?_⟩;obtain⟨g,hg⟩:∃ g,g=y1.heap.size:=⟨_,rfl⟩;rw[← hg] at gX ⊢;have G_:Hid (wb.heap.size≤g):=by show _≤_;rw[hg];exact gI.out.size
    clear hg;generalize y1.alloc (.cells #[.int .i64 0,.int .i64 0,.slice none 0 0] 51)=y3 at *
    refine RP.walkT_move ?_;obtain⟨n0,n1,n2,nf⟩:=Ki gX.out;have f0:=nf 0;have f1:=nf 1;have f2:=nf 2;clear nf;simp only[Kh,dz_,Kg,tz_]
    go_wp2_with fail
    simp only[RP.walkT];have F9:=hd_ (Ze2 (x' := .int .i64 SG2) (y' := .int .i64 m3) (z' := .slice ax XM.length cx) gX.out);have R9:=hd_ (Zbr Rx.out gX.out (.int .i64 SG2) (.int .i64 m3) (.slice ax XM.length cx));have W9:=hd_ (((gL.out.setCell (p:=⟨g,0,none⟩) G_.out (.int .i64 SG2)).setCell (p:=⟨g,1,none⟩) G_.out (.int .i64 m3)).setCell (p:=⟨g,2,none⟩) G_.out (.slice ax XM.length cx));clear n0 n1 n2 f0 f1 f2;generalize ((y3.setCell ⟨g,0,none⟩ (.int .i64 SG2)).setCell ⟨g,1,none⟩ (.int .i64 m3)).setCell ⟨g,2,none⟩ (.slice ax XM.length cx)=w9 at *
    go_wp2_with fail
    go_meet
    exact⟨g,rfl,ax,cx,F9,R9,W9⟩
   ·simp only[Kh,dz_,Kg,tz_]
    go_wp2_with fail
    have gL:=hd_ (gI.out.alloc gI.out.size (.cells #[.int .i64 0,.int .i64 0,.slice none 0 0] 51));have gX:Hid ((y1.alloc (.cells #[.int .i64 0,.int .i64 0,.slice none 0 0] 51)).heap[y1.heap.size]?=some (.cells #[.int .i64 0,.int .i64 0,.slice none 0 0] 51 (0,0))):=heap_alloc_new y1 _;replace Rx:=hd_ (Rx.out.below ((Below.refl y1.heap.size y1).alloc nr_ (.cells #[.int .i64 0,.int .i64 0,.slice none 0 0] 51)) nr_);refine⟨⟨⟨_,gL.out⟩,rfl⟩,?_⟩;obtain⟨g,hg⟩:∃ g,g=y1.heap.size:=⟨_,rfl⟩;rw[← hg] at gX ⊢;have G_:Hid (wb.heap.size≤g):=by show _≤_;rw[hg];exact gI.out.size
    clear hg;generalize y1.alloc (.cells #[.int .i64 0,.int .i64 0,.slice none 0 0] 51)=y3 at *
    refine RP.walkT_move ?_;simp only[Kh,dz_,Kg,tz_]
    go_wp2_with fail
    refine⟨⟨⟨_,gL.out⟩,rfl⟩,?_⟩;refine RP.walkT_move ?_;obtain⟨n0,n1,n2,nf⟩:=Ki gX.out;have f0:=nf 0;have f1:=nf 1;have f2:=nf 2;clear nf;simp only[Kh,dz_,Kg,tz_]
    go_wp2_with fail
    simp only[RP.walkT];have F9:=hd_ (Ze2 (x' := .int .i64 SG2) (y' := .int .i64 m3) (z' := .slice ax XM.length cx) gX.out);have R9:=hd_ (Zbr Rx.out gX.out (.int .i64 SG2) (.int .i64 m3) (.slice ax XM.length cx));have W9:=hd_ (((gL.out.setCell (p:=⟨g,0,none⟩) G_.out (.int .i64 SG2)).setCell (p:=⟨g,1,none⟩) G_.out (.int .i64 m3)).setCell (p:=⟨g,2,none⟩) G_.out (.slice ax XM.length cx));clear n0 n1 n2 f0 f1 f2;generalize ((y3.setCell ⟨g,0,none⟩ (.int .i64 SG2)).setCell ⟨g,1,none⟩ (.int .i64 m3)).setCell ⟨g,2,none⟩ (.slice ax XM.length cx)=w9 at *
    go_wp2_with fail
    go_meet
    exact⟨g,rfl,ax,cx,F9,R9,W9⟩
  ·simp only[Kh,dz_,Kg,tz_]
   go_wp2_with fail
   have gL:Hid (Below wb.heap.size wb (wb.alloc (.cells #[.int .i64 0,.int .i64 0,.slice none 0 0] 51)).drew):=((Below.refl _ _).alloc nr_ _).drew;have gX:Hid (((wb.alloc (.cells #[.int .i64 0,.int .i64 0,.slice none 0 0] 51)).drew).heap[wb.heap.size]?=some (.cells #[.int .i64 0,.int .i64 0,.slice none 0 0] 51 (0,0))):=heap_alloc_new wb _;refine⟨⟨⟨_,gL.out⟩,rfl⟩,?_⟩;obtain⟨g,hg⟩:∃ g,g=wb.heap.size:=⟨_,rfl⟩;rw[← hg] at gX ⊢;have G_:Hid (wb.heap.size≤g):=by show _≤_;rw[hg];exact Nat.le_refl _
   clear hg;generalize (wb.alloc (.cells #[.int .i64 0,.int .i64 0,.slice none 0 0] 51)).drew=y3 at *
   refine RP.walkT_move ?_;simp only[Kh,dz_,Kg,tz_]
   go_wp2_with fail
   refine cm_ (GC.out _ _ _ _ _ (B.out.trans (gL.out.mono B.out.size)) (Rp.out.below gL.out nr_) (Ra.out.below gL.out nr_)) ?_;rintro e_ y5 ⟨ax,cx,rfl,rx_,H7⟩;have GG:Hid (Below wb.heap.size wb y5):=gL.out.trans (H7.mono gL.out.size);have Rx:=hd_ rx_;have f7:=hd_ (Kd gX.out H7 nr_);clear H7 rx_
   go_wp2_with fail
   refine⟨⟨⟨_,GG.out⟩,rfl⟩,?_⟩;refine RP.walkT_move ?_;simp only[Kh,dz_,Kg,tz_]
   go_wp2_with fail
   refine⟨⟨⟨_,GG.out⟩,rfl⟩,?_⟩;refine RP.walkT_move ?_;obtain⟨n0,n1,n2,nf⟩:=Ki f7.out;have f0:=nf 0;have f1:=nf 1;have f2:=nf 2;clear nf;simp only[Kh,dz_,Kg,tz_]
   go_wp2_with fail
   simp only[RP.walkT];have F9:=hd_ (Ze2 (x' := .int .i64 SG2) (y' := .int .i64 m3) (z' := .slice ax XM.length cx) f7.out);have R9:=hd_ (Zbr Rx.out f7.out (.int .i64 SG2) (.int .i64 m3) (.slice ax XM.length cx));have W9:=hd_ (((GG.out.setCell (p:=⟨g,0,none⟩) G_.out (.int .i64 SG2)).setCell (p:=⟨g,1,none⟩) G_.out (.int .i64 m3)).setCell (p:=⟨g,2,none⟩) G_.out (.slice ax XM.length cx));clear n0 n1 n2 f0 f1 f2;generalize ((y5.setCell ⟨g,0,none⟩ (.int .i64 SG2)).setCell ⟨g,1,none⟩ (.int .i64 m3)).setCell ⟨g,2,none⟩ (.slice ax XM.length cx)=w9 at *
   go_wp2_with fail
   go_meet
   exact⟨g,rfl,ax,cx,F9,R9,W9⟩
 case rest =>
 obtain⟨g14,rfl,a14,c14,O14,R14,D⟩:=hcut;replace Rp:=hd_ (Rp.out.below D.out nr_);replace Ra:=hd_ (Ra.out.below D.out nr_);replace R7:=hd_ (R7.out.below D.out nr_);replace O7:=hd_ (Kd O7.out D.out nr_);replace B:=hd_ (B.out.trans (D.out.mono B.out.size));clear D k0 k1 k2;obtain⟨k0,k1,k2,-⟩:=Ki O14.out
 go_wp2_with fail
 refine cm_ (ng.out _ _ _ _ _ _ _ B.out Rp.out Ra.out R14.out) ?_;rintro e_ wc ⟨rfl,H7⟩;replace Rp:=hd_ (Rp.out.below H7 nr_);replace Ra:=hd_ (Ra.out.below H7 nr_);replace R7:=hd_ (R7.out.below H7 nr_);replace O7:=hd_ (Kd O7.out H7 nr_);replace B:=hd_ (B.out.trans (H7.mono B.out.size));clear H7;clear k0 k1 k2 ng
 go_wp2_with fail
 go_ret;exact⟨rfl,B.out⟩
end Go.Proofs.YtnjedhgcfeoemaaGreatDoor

namespace Go.Proofs.YtnjedhgcfeoemaaGreatDoor
open Go.ChangeShapes Go.WideShapes Go.ChangeAt Go.RowKit
theorem Zcb(os:Os)(started:os.Started)(H:Type)(enc:TypeId×Value→H):
  ReturnsInHanded {} Tryz.checked os 14 .any (fun w args=>(Rows.enclosureDecidesSpec.pre enc Tryz.prog Tryz.f14 [] false w args∧laidMetH Tryz.prog Ztw w)∧sizedMet enc Tryz.prog Tryz.f14 (OpenSpec.ofChange Rows.enclosureDecidesSpec) false w args)
   (Rows.enclosureDecidesSpec.post enc Tryz.prog Tryz.f14 false true false false):=by
 refine returnsInHanded_of_change_and (C:=Tryz.checked) (X:=fun w _=>laidMetH Tryz.prog Ztw w) (fun _ _ _ hh h=>h.of_heap hh) own started (by kernel_rfl) Tryz.func14
  (ChangeSpec.witness_shaped (enc:=enc) (C:=Tryz.checked) (os:=os) (X:=fun w _=>laidMetH Tryz.prog Ztw w) false (World.doorLaid Tryz.prog 400 os) #[.int .u8 0,.agg #[.int .i8 0,.int .u8 0,.int .i8 0,.int .u8 0,.int .i8 0,.int .u8 0,.int .i8 0,.int .u8 0]] 8 rfl (World.shaped_of_RefB (by kernel_rfl) (by kernel_rfl)) (by kernel_rfl) (by kernel_rfl) (by kernel_rfl) (Zw6 os _)) ?_
 intro W base args ds gs before hval0 hW _ _ hL _;have gQ:∀ (j:Nat) t v,Tryz.f14.params[j]?=some t→args[j]?=some v→Value.okWide Tryz.prog W .any base t v:=hval0;have Be:=hW;obtain⟨p,q,hA0,hV,rfl,hfz,bU⟩:=hW;have hA:DataW.TrodAll enc Tryz.prog W 0 (fun _=>true) true Tryz.f14.params.toList args.toList ds p:=hA0
 rw[Tryz.params14] at hA gQ;obtain⟨v0,vs0,d0,ds0,p0,q0,hargs,rfl,rfl,h0,r0⟩:=trodAll_cons hA;obtain⟨v1,vs1,d1,ds1,p1,q1,rfl,rfl,rfl,h1,r1⟩:=trodAll_cons r0;obtain⟨rfl,rfl,rfl⟩:=trodAll_nil r1;obtain rfl:args = #[v0,v1]:=by cases args;simp_all
 obtain⟨rfl,rfl⟩:=trodVars_none hV;have k0:=h0;have nS:∀ x∈p0,x.block<W.heap.size:=by obtain⟨m,hm⟩:=k0;exact DataW.trod_lt m _ _ _ hm
 have k1:=h1;have nR:∀ x∈p1,x.block<W.heap.size:=by obtain⟨m,hm⟩:=k1;exact DataW.trod_lt m _ _ _ hm
 obtain⟨na,rfl,rfl,rfl,wa⟩:=open_int Tryz.underlying5 (gQ 0 5 v0 rfl rfl) h0;have nO:=bounds_u8 wa;obtain⟨pn,rfl⟩:=Int.eq_ofNat_of_zero_le nO.1;obtain⟨nA,dA,rfl,hnA,hdA⟩:=Zna (gQ 1 61 v1 rfl rfl) h1;clear hA0 hval0;refine(Qa5 W pn nA dA (by omega) hnA hdA (Zzh hL)).mono fun e W' ⟨he,bel⟩=>?_
 subst he;exact⟨_,rfl,_,_,_,[],_,[],Be,trodAll_mk1 (shut_bool Tryz.underlying4 _),(trodAll_cons_mk (Below.trod Ztv (by kernel_rfl) (of_decide_eq_true (by kernel_rfl)) k0 bel nS) (trodAll_cons_mk (Below.trod Ztv (by kernel_rfl) (of_decide_eq_true (by kernel_rfl)) k1 bel nR) trodAll_mk0)),rfl,bel.frame _,fun h=>by cases h⟩
theorem Zdb:Rows.EnclosureDecidesSaid :=
 OpenClaim.holds_of_wide 14 Tryz.f14 rfl rfl rfl rfl rfl rfl rfl ⟨rfl,rfl,rfl,rfl,rfl⟩ rfl rfl rfl rfl rfl (by as_aux_lemma=>kernel_rfl) Tryz.func14 (by
   unfold joinedFacts;simp only[Bool.and_eq_true]
   repeat' (refine And.intro ?_ ?_)
   all_goals (as_aux_lemma=>kernel_rfl))
  (by as_aux_lemma=>exact of_decide_eq_true (by kernel_rfl)) (by unfold Func.isWrapper;first | (rw[if_pos (by decide +kernel)];kernel_rfl) | (rw[if_neg (by decide +kernel)];exact⟨rfl,rfl⟩))
  (fun os started H enc _=>Zcb os started H enc)
end Go.Proofs.YtnjedhgcfeoemaaGreatDoor
