/- Lemmas for the laws of this seat, part 4. -/
import Derived.WalkMore
import Derived.Scope
import Derived.Laws.AppendOwnNone
import Derived.BigQuiet
import Derived.Deep.OwnRows
import Derived.Test.YtnjedhgcfeoemaaGreatDoorWk3
set_option maxRecDepth 100000
set_option maxHeartbeats 16000000
namespace Go.Proofs.YtnjedhgcfeoemaaGreatDoor
open Go.RowKit
def Zyq (w w':World) (B R P:Nat) (st:Option (Bool×Nat×Nat)) (e:Ending):Prop :=
 w.grownBy w' (some R)∧match st with
  | none=>e = .returned (.tuple #[.bool false,.bool false])
  | some x=>e = .returned (.tuple #[.bool x.1,.bool true])∧Zu5 w' B R P x.2.1 x.2.2
theorem Za0{w w':World}{R:Nat}(h:Below w.heap.size w w'):w.grownBy w' (some R):=⟨h.os,h.tape,h.output,h.size,fun k hk _=>h.block k hk⟩
theorem Zlj(W:World)(R j:Nat)(v:Value):W.grownBy (W.setCell ⟨R,j,none⟩ v) (some R) :=
 ⟨rfl,rfl,rfl,(KeepsWalks.setCell W _ v).size,fun k _ hk=>Below.heap_setCell _ _ _ k (fun e=>hk (by rw[e]))⟩
theorem Qy.grown{w w':World}{B R:Nat}{a:Option Addr}{c:Nat}{l:List Nat}(h:Qy w B a c l)(hg:w.grownBy w' (some R))(hR:R<B):Qy w' B a c l:=by
 refine World.ownsRow.kept h hg ?_;cases hv:(Value.slice a l.length c).ownBlock with
 | none=>simp
 | some k =>
  have:=(World.ownsRow.lt h k hv).1
  exact .inr (fun e=>by cases e;omega)
theorem Zr5{w:World}{R:Nat}{x y z x' y':Value}{t:TypeId}(h:w.heap[R]?=some (.cells #[x,y,z] t (0,0))):
  ((w.setCell ⟨R,0,none⟩ x').setCell ⟨R,1,none⟩ y').heap[R]?=some (.cells #[x',y',z] t (0,0)):=by
 have H9:=lt_of_block h;have h':w.heap[R] = .cells #[x,y,z] t (0,0):=by simpa [Array.getElem?_eq_getElem H9] using h
 have e1:(w.setCell ⟨R,0,none⟩ x').heap[R]?=some (.cells #[x',y,z] t (0,0)):=by
  show (w.heap.modify R _)[R]?=_
  rw[Array.getElem?_eq_getElem (by simpa using H9),Array.getElem_modify_self,h']
  rfl
 have Gb:=lt_of_block e1;have ER:(w.setCell ⟨R,0,none⟩ x').heap[R] = .cells #[x',y,z] t (0,0):=by simpa [Array.getElem?_eq_getElem Gb] using e1
 show ((w.setCell ⟨R,0,none⟩ x').heap.modify R _)[R]?=_
 rw[Array.getElem?_eq_getElem (by simpa using Gb),Array.getElem_modify_self,ER]
 rfl
theorem MaS.put{w w0:World}{B R P C:Nat}{a1 a2 b1 b2:Option Addr}{c1 c2 d1 d2:Nat}{L H L' H':List Nat}(h:MaS w B R P a1 c1 L a2 c2 H)(hC:R<C)(o1:Qy w C b1 d1 L')(o2:Qy w C b2 d2 H')(p1:Wds L')(p2:Wds H')(hg:w0.grownBy w (some R)):
  MaS ((w.setCell ⟨R,0,none⟩ (.slice b1 L'.length d1)).setCell ⟨R,1,none⟩ (.slice b2 H'.length d2)) C R P b1 d1 L' b2 d2 H'∧w0.grownBy ((w.setCell ⟨R,0,none⟩ (.slice b1 L'.length d1)).setCell ⟨R,1,none⟩ (.slice b2 H'.length d2)) (some R):=by
 have g2:=Ql (Zlj w R 0 (.slice b1 L'.length d1)) (Zlj _ R 1 (.slice b2 H'.length d2));exact⟨⟨Zr5 h.ob,o1.grown g2 hC,o2.grown g2 hC,p1,p2⟩,Ql hg g2⟩
theorem MaS.mono{w:World}{B C R P:Nat}{a1 a2:Option Addr}{c1 c2:Nat}{L H:List Nat}(h:MaS w C R P a1 c1 L a2 c2 H)(hB:B≤C):MaS w B R P a1 c1 L a2 c2 H :=
 ⟨h.ob,h.o1.mono hB,h.o2.mono hB,h.p1,h.p2⟩
theorem Zzy(w:World)(B R P lo hi:Nat)(M:Zu5 w B R P lo hi)(hP:P≤2000)(hB:B≤w.heap.size)(fV:lo≤hi)
  (dU:∀ x,Zfp (2^P) lo hi=some x→x.2.1<18446744073709551616^(P/64+2)∧x.2.2<18446744073709551616^(P/64+2)) :
  Calls Tryz.prog 196 #[.pointer (some ⟨R,0,none⟩)] w fun e w'=>Zyq w w' B R P (Zfp (2^P) lo hi) e:=by
 obtain⟨a1,c1,L,a2,c2,H,S,jK,l1,l2,v1,v2⟩:=M;obtain⟨wo,hwo⟩:∃ wo,P/64=wo:=⟨_,rfl⟩;obtain⟨r,hr⟩:∃ r,P%64=r:=⟨_,rfl⟩;have jH:P=64*wo+r:=by omega
 have bg:r<64:=by omega
 have As:R<w.heap.size:=(Array.getElem?_eq_some_iff.1 S.ob).1;obtain⟨k0,k1,k2,kf⟩:=Ki S.ob;rw[l1] at k0;rw[l2] at k1;rw[hwo] at k0 k1 l1 l2 dU;have HP:=hd_ jH;have Na:wo≤40:=by omega
 have jW:=hd_ hwo;have nv:Hid (∀ W,Below w.heap.size w W→Calls Tryz.prog 223 #[.slice a1 (wo+2) c1] W fun e w'=>∃ a c LL,e = .returned (.slice a (2*(wo+2)+1) c)∧LL.length=2*(wo+2)+1∧Qy w' W.heap.size a c LL∧Wds LL∧vW LL=lo*lo∧Below W.heap.size W w'):=fun W hW=>by
  have:=Zh3 W a1 c1 L (S.o1.reads.below hW nr_) S.p1 (by omega)
  rw[l1,v1] at this;exact this
 have nt:Hid (∀ W,Below w.heap.size w W→Calls Tryz.prog 223 #[.slice a2 (wo+2) c2] W fun e w'=>∃ a c LL,e = .returned (.slice a (2*(wo+2)+1) c)∧LL.length=2*(wo+2)+1∧Qy w' W.heap.size a c LL∧Wds LL∧vW LL=hi*hi∧Below W.heap.size W w'):=fun W hW=>by
  have:=Zh3 W a2 c2 H (S.o2.reads.below hW nr_) S.p2 (by omega)
  rw[l2,v2] at this;exact this
 have HS:=hd_ S;have bN:=hd_ dU
 -- the shifts
 have ni:Hid (∀ W a c (LL:List Nat) v,Qn W a LL→Wds LL→LL.length=2*(wo+2)+1→vW LL=v→Calls Tryz.prog 224 #[.slice a (2*(wo+2)+1) c,.int .i64 P] W fun e w'=>∃ a c S,e = .returned (.slice a (wo+5) c)∧S.length=wo+5∧Qy w' W.heap.size a c S∧Wds S∧vW S=v/2^P∧Below W.heap.size W w'):=fun W a c LL v h1 h2 h3 h4=>by
  have:=Zgl W a c LL P wo r jH bg h1 h2 (by omega) (by omega)
  rw[h3,show 2*(wo+2)+1-wo=wo+5 by omega] at this
  refine this.mono ?_;rintro e w' ⟨a',c',rfl,ho,hb⟩;refine⟨a',c',_,rfl,Vj ..,ho,Zmt h2 bg,?_,hb⟩;rw[Zmu h2 bg (by omega),h4,← jH]
 have nx:Hid (∀ W a c (LL:List Nat) k v,Qn W a LL→Wds LL→LL.length=k→0<k→k≤1000→vW LL=v→Calls Tryz.prog 225 #[.slice a k c] W fun e w'=>∃ a c S,e = .returned (.slice a (k+1) c)∧S.length=k+1∧Qy w' W.heap.size a c S∧Wds S∧vW S=v+1∧Below W.heap.size W w'):=fun W a c LL k v h1 h2 h3 h0 hk h4=>by
  have:=Zv2 W a c LL h1 h2 (by omega) (by omega)
  rw[h3,h4] at this;exact this
 have LC:Hid (∀ W a c (LL:List Nat) k v,Qn W a LL→Wds LL→LL.length=k→wo+2<k→k≤1000→vW LL=v→Kc Tryz.prog 226 #[.slice a k c,.int .i64 ((P:Int)+1)] W (.bool (decide (2*2^P≤v)))):=fun W a c LL k v h1 h2 h3 h0 hk h4=>by
  have:=Zm1 W a c LL (P+1) ((P+1)/64) ((P+1)%64) (by omega) (Nat.mod_lt _ (by decide)) h1 h2 (by omega) (by omega)
  rw[h3,h4,Nat.pow_succ,Nat.mul_comm] at this;exact this
 have m5:IntKind.i64.wrap ((P:Int)+1)=(P:Int)+1:=iw_ _ (by omega)
 have nj:Hid (∀ W a c (LL:List Nat) k v,Qn W a LL→Wds LL→LL.length=k→0<k→k≤1000→vW LL=v→Calls Tryz.prog 224 #[.slice a k c,.int .i64 1] W fun e w'=>∃ a c S,e = .returned (.slice a k c)∧S.length=k∧Qy w' W.heap.size a c S∧Wds S∧vW S=v/2∧Below W.heap.size W w'):=fun W a c LL k v h1 h2 h3 h0 hk h4=>by
  have:=Zgl W a c LL 1 0 1 rfl (by decide) h1 h2 (by omega) (by omega)
  rw[h3,Nat.sub_zero] at this;refine this.mono ?_;rintro e w' ⟨a',c',rfl,ho,hb⟩;refine⟨a',c',_,rfl,Vj ..,ho,Zmt h2 (by decide),?_,hb⟩
  rw[Zmu h2 (by decide) (by omega),h4]
 have hq:Int.tdiv (P:Int) 64=(wo:Nat):=by rw[Int.tdiv_eq_ediv_of_nonneg (by omega)];omega
 have JF:(P:Int)/64=(wo:Nat):=by omega
 have bh:IntKind.i64.wrap ((wo:Int)+2)=(wo:Int)+2:=iw_ _ (by omega)
 have o7:Hid (lo*lo/2^P≤hi*hi/2^P+1):=Nat.le_succ_of_le (Nat.div_le_div_right (Nat.mul_le_mul fV fV));have Gu:Hid (Zfp (2^P) lo hi=if 2*2^P≤lo*lo/2^P then some (true,lo*lo/2^P/2,(hi*hi/2^P+1)/2+1) else if 2*2^P≤hi*hi/2^P+1 then none else some (false,lo*lo/2^P,hi*hi/2^P+1)):=rfl
 generalize Zfp (2^P) lo hi=st at *
 clear S dU l1 l2 v1 v2 jH hwo hr;have q0:=NW.cell k0;have q1:=NW.cell k1;have q2:=NW.cell k2;have gk:Nonempty (NW w):=⟨⟨w,Below.refl _ _⟩⟩;have I:Hid (Below w.heap.size w w.drew):=(Below.refl _ _).drew;go_enter Tryz.func196,Tryz.ntmps196
 go_wp2_with fail
 refine RP.wp_region_readers 25 [(2,0),(2,1),(2,2),(2,3),(2,4),(1,5),(2,7),(2,8),(2,9),(1,10),(2,12),(2,13),(2,14),(1,15),(2,17),(2,18),(2,19),(1,20),(0,6),(0,11),(0,16),(0,21),(0,22),(2,23),(2,24),(0,25),(2,26),(2,27),(0,28)] (fun w'=>∃ p:NW w,w'=p.w) (by kernel_rfl) (by kernel_rfl) ?_ ?_
 ·exact⟨⟨_,I.out⟩,rfl⟩
 iterate 5 (refine RP.walkR_any ?_;simp only[Kh,dz_,Kg,tz_];go_big_quiet_step (fail);refine wpQuiet_nil ?_)
 iterate 1 (refine RP.walkR_read ?_;simp only[Kh,dz_,Kg,tz_];go_big_quiet_step (fail);refine wpQuiet_nil ?_)
 iterate 3 (refine RP.walkR_any ?_;simp only[Kh,dz_,Kg,tz_];go_big_quiet_step (fail);refine wpQuiet_nil ?_)
 iterate 1 (refine RP.walkR_read ?_;simp only[Kh,dz_,Kg,tz_];go_big_quiet_step (fail);refine wpQuiet_nil ?_)
 iterate 3 (refine RP.walkR_any ?_;simp only[Kh,dz_,Kg,tz_];go_big_quiet_step (fail);refine wpQuiet_nil ?_)
 iterate 1 (refine RP.walkR_read ?_;simp only[Kh,dz_,Kg,tz_];go_big_quiet_step (fail);refine wpQuiet_nil ?_)
 iterate 3 (refine RP.walkR_any ?_;simp only[Kh,dz_,Kg,tz_];go_big_quiet_step (fail);refine wpQuiet_nil ?_)
 iterate 1 (refine RP.walkR_read ?_;simp only[Kh,dz_,Kg,tz_];go_big_quiet_step (fail);refine wpQuiet_nil ?_)
 clear gk q0 q1 q2 k0 k1 k2;refine RP.walkR_move ?_;simp only[Kh,dz_,Kg,tz_]
 go_wp2_with fail
 refine cm_ (nv.out _ I.out) ?_;rintro e w1 ⟨b1,d1,L1,rfl,hl,ho,hp,hv,hb⟩;have I1:Hid (Below w.heap.size w w1):=I.out.trans (hb.mono I.out.size);have LP:=hd_ (And.intro hl hv);have O1:=hd_ ho;have P1:=hd_ hp;clear hl ho hp hv hb nv I
 go_wp2_with fail
 refine⟨⟨⟨_,I1.out⟩,rfl⟩,?_⟩;refine RP.walkR_move ?_;simp only[Kh,dz_,Kg,tz_]
 go_wp2_with fail
 refine cm_ (ni.out _ _ _ L1 (lo*lo) O1.out.reads P1.out LP.out.1 LP.out.2) ?_;rintro e w2 ⟨b2,d2,L2,rfl,hl,ho,hp,hv,hb⟩;have I2:Hid (Below w.heap.size w w2):=I1.out.trans (hb.mono I1.out.size);have Dj:=hd_ (And.intro hl hv);have O2:=hd_ (ho.mono I1.out.size);have P2:=hd_ hp;clear hl ho hp hv hb LP O1 P1 I1
 go_wp2_with fail
 refine⟨⟨⟨_,I2.out⟩,rfl⟩,?_⟩;refine RP.walkR_move ?_;simp only[Kh,dz_,Kg,tz_]
 go_wp2_with fail
 refine cm_ (nt.out _ I2.out) ?_;rintro e w3 ⟨b3,d3,L3,rfl,hl,ho,hp,hv,hb⟩;have I3:Hid (Below w.heap.size w w3):=I2.out.trans (hb.mono I2.out.size);have Ic:=hd_ (O2.out.below hb nr_);have LO:=hd_ (And.intro hl hv);have O3:=hd_ ho;have P3:=hd_ hp;clear hl ho hp hv hb nt I2 O2
 go_wp2_with fail
 refine⟨⟨⟨_,I3.out⟩,rfl⟩,?_⟩;refine RP.walkR_move ?_;simp only[Kh,dz_,Kg,tz_]
 go_wp2_with fail
 refine cm_ (ni.out _ _ _ L3 (hi*hi) O3.out.reads P3.out LO.out.1 LO.out.2) ?_;rintro e w4 ⟨b4,d4,L4,rfl,hl,ho,hp,hv,hb⟩;have I4:Hid (Below w.heap.size w w4):=I3.out.trans (hb.mono I3.out.size);have O2:=hd_ (Ic.out.below hb nr_);have AJ:=hd_ (And.intro hl hv);have O4:=hd_ ho;have P4:=hd_ hp;clear hl ho hp hv hb LO O3 P3 I3 Ic
 go_wp2_with fail
 refine⟨⟨⟨_,I4.out⟩,rfl⟩,?_⟩;refine RP.walkR_move ?_;simp only[Kh,dz_,Kg,tz_]
 go_wp2_with fail
 refine cm_ (nx.out _ _ _ L4 (wo+5) (hi*hi/2^P) O4.out.reads P4.out AJ.out.1 (by omega) (by omega) AJ.out.2) ?_
 rintro e w5 ⟨b5,d5,L5,rfl,hl,ho,hp,hv,hb⟩;have I5:Hid (Below w.heap.size w w5):=I4.out.trans (hb.mono I4.out.size);have Ic:=hd_ (O2.out.below hb nr_);have Di:=hd_ (And.intro hl hv);have O5:=hd_ (ho.mono I4.out.size);have P5:=hd_ hp;have LB:=hd_ (HS.out.below I5.out);obtain⟨k0,k1,k2,kf⟩:=Ki LB.out.ob;clear hl ho hp hv hb AJ O4 P4 I4 O2
 go_wp2_with fail
 refine⟨⟨⟨_,I5.out⟩,rfl⟩,?_⟩
 iterate 2 (refine RP.walkR_any ?_;simp only[Kh,dz_,Kg,tz_];go_big_quiet_step (fail);refine wpQuiet_nil ?_)
 have iB:=kf 0;have ah:=kf 1;refine RP.walkR_move ?_;simp only[Kh,dz_,Kg,tz_]
 go_wp2_with fail
 iterate 2 (refine RP.walkR_any ?_;simp only[Kh,dz_,Kg,tz_];go_big_quiet_step (fail);refine wpQuiet_nil ?_)
 refine RP.walkR_move ?_;simp only[Kh,dz_,Kg,tz_]
 go_wp2_with fail
 simp only[RP.walkR];have GU:=LB.out.put As Ic.out O5.out P2.out P5.out (Za0 I5.out);rw[Dj.out.1,Di.out.1] at GU;have lj:=GU.1;have G6:=hd_ GU.2;obtain⟨k0,k1,k2,kf⟩:=Ki lj.ob;rw[Dj.out.1] at k0;rw[Di.out.1] at k1;have Jb:=hd_ lj;clear GU lj LB Ic O5 iB ah I5 HS;generalize (w5.setCell ⟨R,0,none⟩ (.slice b2 (wo+5) d2)).setCell ⟨R,1,none⟩ (.slice b5 (wo+5+1) d5)=w6 at *
 have q0:=NW.cell k0;have q1:=NW.cell k1;have q2:=NW.cell k2;have gk:Nonempty (NW w6):=⟨⟨w6,Below.refl _ _⟩⟩;have I:Hid (Below w6.heap.size w6 w6.drew):=(Below.refl _ _).drew
 go_wp2_with fail
 refine RP.wp_region_readers 19 [(2,0),(2,1),(2,2),(1,3),(2,4),(2,5),(2,6),(1,7),(2,8),(2,10),(2,11),(2,12),(1,13),(2,14),(2,15),(2,16),(1,17),(2,18),(0,9),(0,19),(2,20),(2,21)] (fun w'=>∃ p:NW w6,w'=p.w) (by kernel_rfl) (by kernel_rfl) ?_ ?_
 ·exact⟨⟨_,I.out⟩,rfl⟩
 iterate 3 (refine RP.walkR_any ?_;simp only[Kh,dz_,Kg,tz_];go_big_quiet_step (fail);refine wpQuiet_nil ?_)
 iterate 1 (refine RP.walkR_read ?_;simp only[Kh,dz_,Kg,tz_];go_big_quiet_step (fail);refine wpQuiet_nil ?_)
 iterate 3 (refine RP.walkR_any ?_;simp only[Kh,dz_,Kg,tz_];go_big_quiet_step (fail);refine wpQuiet_nil ?_)
 iterate 1 (refine RP.walkR_read ?_;simp only[Kh,dz_,Kg,tz_];go_big_quiet_step (fail);refine wpQuiet_nil ?_)
 iterate 4 (refine RP.walkR_any ?_;simp only[Kh,dz_,Kg,tz_];go_big_quiet_step (fail);refine wpQuiet_nil ?_)
 iterate 1 (refine RP.walkR_read ?_;simp only[Kh,dz_,Kg,tz_];go_big_quiet_step (fail);refine wpQuiet_nil ?_)
 iterate 3 (refine RP.walkR_any ?_;simp only[Kh,dz_,Kg,tz_];go_big_quiet_step (fail);refine wpQuiet_nil ?_)
 iterate 1 (refine RP.walkR_read ?_;simp only[Kh,dz_,Kg,tz_];go_big_quiet_step (fail);refine wpQuiet_nil ?_)
 iterate 1 (refine RP.walkR_any ?_;simp only[Kh,dz_,Kg,tz_];go_big_quiet_step (fail);refine wpQuiet_nil ?_)
 clear gk q0 q1 q2 k0 k1 k2;refine RP.walkR_move ?_;simp only[Kh,dz_,Kg,tz_]
 go_wp2_with fail
 refine cm_ (LC.out _ _ _ L2 (wo+5) (lo*lo/2^P) ((Jb.out.o1.reads.below I.out nr_)) P2.out Dj.out.1 (by omega) (by omega) Dj.out.2) ?_
 rintro e w7 ⟨rfl,hb⟩;have I7:Hid (Below w6.heap.size w6 w7):=I.out.trans (hb.mono I.out.size);clear hb I
 go_wp2_with fail
 refine⟨⟨⟨_,I7.out⟩,rfl⟩,?_⟩;refine RP.walkR_move ?_;simp only[Kh,dz_,Kg,tz_]
 go_wp2_with fail
 refine cm_ (LC.out _ _ _ L5 (wo+5+1) (hi*hi/2^P+1) ((Jb.out.o2.reads.below I7.out nr_)) P5.out Di.out.1 (by omega) (by omega) Di.out.2) ?_
 rintro e w8 ⟨rfl,hb⟩;have I8:Hid (Below w6.heap.size w6 w8):=I7.out.trans (hb.mono I7.out.size);clear hb I7 LC
 go_wp2_with fail
 iterate 2 (refine RP.walkR_any ?_;simp only[Kh,dz_,Kg,tz_];go_big_quiet_step (fail);refine wpQuiet_nil ?_)
 simp only[RP.walkR];have di:=hd_ (Jb.out.below I8.out);have G8:=hd_ (Ql G6.out (Za0 (R:=R) I8.out));clear Jb G6 I8;generalize lo*lo/2^P=M at *
 generalize hi*hi/2^P+1=G at *
 generalize 2*2^P=u2 at *
 by_cases cA:u2≤M
 ·have cB:u2≤G:=Nat.le_trans cA o7.out;have fT:st=some (true,M/2,G/2+1):=by rw[Gu.out,if_pos cA]
  subst fT;rw[decide_eq_true cA,decide_eq_true cB];obtain⟨k0,k1,k2,kf⟩:=Ki di.out.ob;rw[Dj.out.1] at k0;rw[Di.out.1] at k1;have q0:=NW.cell k0;have q1:=NW.cell k1;have gk:Nonempty (NW w8):=⟨⟨w8,Below.refl _ _⟩⟩;have I:Hid (Below w8.heap.size w8 w8.drew):=(Below.refl _ _).drew;clear k2 kf
  go_wp2_with fail
  refine RP.wp_region_readers 15 [(2,0),(2,1),(2,2),(2,3),(2,4),(1,5),(2,7),(2,8),(2,9),(1,10),(0,6),(0,11),(0,12),(2,13),(2,14),(0,15),(2,16),(2,17),(0,18)] (fun w'=>∃ p:NW w8,w'=p.w) (by kernel_rfl) (by kernel_rfl) ?_ ?_
  ·exact⟨⟨_,I.out⟩,rfl⟩
  iterate 5 (refine RP.walkR_any ?_;simp only[Kh,dz_,Kg,tz_];go_big_quiet_step (fail);refine wpQuiet_nil ?_)
  iterate 1 (refine RP.walkR_read ?_;simp only[Kh,dz_,Kg,tz_];go_big_quiet_step (fail);refine wpQuiet_nil ?_)
  iterate 3 (refine RP.walkR_any ?_;simp only[Kh,dz_,Kg,tz_];go_big_quiet_step (fail);refine wpQuiet_nil ?_)
  iterate 1 (refine RP.walkR_read ?_;simp only[Kh,dz_,Kg,tz_];go_big_quiet_step (fail);refine wpQuiet_nil ?_)
  clear gk q0 q1 k0 k1;refine RP.walkR_move ?_;simp only[Kh,dz_,Kg,tz_]
  go_wp2_with fail
  refine cm_ (nj.out _ _ _ L2 (wo+5) M (di.out.o1.reads.below I.out nr_) P2.out Dj.out.1 (by omega) (by omega) Dj.out.2) ?_
  rintro e w9 ⟨b6,d6,L6,rfl,hl,ho,hp,hv,hb⟩;have I9:Hid (Below w8.heap.size w8 w9):=I.out.trans (hb.mono I.out.size);have aY:=hd_ (And.intro hl hv);have O6:=hd_ (ho.mono I.out.size);have P6:=hd_ hp;clear hl ho hp hv hb I
  go_wp2_with fail
  refine⟨⟨⟨_,I9.out⟩,rfl⟩,?_⟩;refine RP.walkR_move ?_;simp only[Kh,dz_,Kg,tz_]
  go_wp2_with fail
  refine cm_ (nj.out _ _ _ L5 (wo+5+1) G (di.out.o2.reads.below I9.out nr_) P5.out Di.out.1 (by omega) (by omega) Di.out.2) ?_
  rintro e w10 ⟨b7,d7,L7,rfl,hl,ho,hp,hv,hb⟩;have Id:Hid (Below w8.heap.size w8 w10):=I9.out.trans (hb.mono I9.out.size);have Mj:=hd_ (O6.out.below hb nr_);have LM:=hd_ (And.intro hl hv);have O7:=hd_ ho;have P7:=hd_ hp;clear hl ho hp hv hb I9 O6
  go_wp2_with fail
  refine⟨⟨⟨_,Id.out⟩,rfl⟩,?_⟩;refine RP.walkR_move ?_;simp only[Kh,dz_,Kg,tz_]
  go_wp2_with fail
  refine cm_ (nx.out _ _ _ L7 (wo+5+1) (G/2) O7.out.reads P7.out LM.out.1 (by omega) (by omega) LM.out.2) ?_
  rintro e w11 ⟨b8,d8,L8,rfl,hl,ho,hp,hv,hb⟩;have jR:Hid (Below w8.heap.size w8 w11):=Id.out.trans (hb.mono Id.out.size);have O6:=hd_ (Mj.out.below hb nr_);have aX:=hd_ (And.intro hl hv);have O8:=hd_ (ho.mono Id.out.size);have P8:=hd_ hp;have aU:=hd_ (di.out.below jR.out);obtain⟨k0,k1,k2,kf⟩:=Ki aU.out.ob;have iB:=kf 0;have ah:=kf 1;have mZ:=hd_ (Nat.lt_of_lt_of_le As G8.out.size);clear hl ho hp hv hb LM O7 P7 Id Mj di
  go_wp2_with fail
  refine⟨⟨⟨_,jR.out⟩,rfl⟩,?_⟩
  iterate 2 (refine RP.walkR_any ?_;simp only[Kh,dz_,Kg,tz_];go_big_quiet_step (fail);refine wpQuiet_nil ?_)
  refine RP.walkR_move ?_;simp only[Kh,dz_,Kg,tz_]
  go_wp2_with fail
  iterate 2 (refine RP.walkR_any ?_;simp only[Kh,dz_,Kg,tz_];go_big_quiet_step (fail);refine wpQuiet_nil ?_)
  refine RP.walkR_move ?_;simp only[Kh,dz_,Kg,tz_]
  go_wp2_with fail
  simp only[RP.walkR];have GU:=aU.out.put mZ.out O6.out O8.out P6.out P8.out (Ql G8.out (Za0 (R:=R) jR.out));rw[aY.out.1,aX.out.1] at GU;have ef:=hd_ GU.1;have Ou:=hd_ GU.2;have Ot:=hd_ G8.out.size;clear GU aU O6 O8 iB ah jR k0 k1 k2 kf G8;generalize (w11.setCell ⟨R,0,none⟩ (.slice b6 (wo+5) d6)).setCell ⟨R,1,none⟩ (.slice b8 (wo+5+1+1) d8)=w12 at *
  obtain⟨k0,k1,k2,kf⟩:=Ki ef.out.ob;rw[aY.out.1] at k0;rw[aX.out.1] at k1;have iH:wo+2≤d6:=by have:=ef.out.o1.cap;rw[aY.out.1] at this;omega
  have iG:wo+2≤d8:=by have:=ef.out.o2.cap;rw[aX.out.1] at this;omega
  have O1:=ef.out.o1.cut (wo+2) (by rw[aY.out.1];omega)
  have O2:=ef.out.o2.cut (wo+2) (by rw[aX.out.1];omega)
  have W1:=ef.out.p1.take (wo+2);have W2:=ef.out.p2.take (wo+2);have N1:(L6.take (wo+2)).length=wo+2:=by rw[List.length_take,aY.out.1];omega
  have N2:(L8.take (wo+2)).length=wo+2:=by rw[List.length_take,aX.out.1];omega
  have V1:vW (L6.take (wo+2))=M/2:=by rw[Ziy ef.out.p1 (by rw[aY.out.1];omega),aY.out.2];exact Nat.mod_eq_of_lt (bN.out _ rfl).1
  have V2:vW (L8.take (wo+2))=G/2+1:=by rw[Ziy ef.out.p2 (by rw[aX.out.1];omega),aX.out.2];exact Nat.mod_eq_of_lt (bN.out _ rfl).2
  have GU:=(ef.out.below (Qg w12 1)).put mZ.out (O1.below (Qg w12 1) nr_) (O2.below (Qg w12 1) nr_) W1 W2 (Ql Ou.out (Za0 (R:=R) (Qg w12 1)));rw[N1,N2] at GU;have HF:=hd_ GU;have HV:=hd_ (And.intro V1 V2);have HN:=hd_ (And.intro N1 N2);clear O1 O2 W1 W2 N1 N2 V1 V2 GU;have iB:(w12.drewN 1).frozen? ⟨R,0,none⟩=false:=kf 0;have ah:(w12.drewN 1).frozen? ⟨R,1,none⟩=false:=kf 1;have q0:=NW.cell k0;have q1:=NW.cell k1;have gk:Nonempty (NW w12):=⟨⟨w12,Below.refl _ _⟩⟩;have I:Hid (Below w12.heap.size w12 w12.drew):=(Below.refl _ _).drew;have bm:(wo:Int)+2≤(wo:Int)+5:=by omega
  have Gb:(wo:Int)+2≤(wo:Int)+5+1+1:=by omega
  have Fl:min (5:Int) 2=2:=by decide
  have EP:min ((wo:Int)+5+1+1) ((wo:Int)+2)=(wo:Int)+2:=by omega
  have Ni:((wo:Int)+2).toNat=wo+2:=by omega
  go_wp2_with fail
  refine RP.wp_region_readers 28 [(2,0),(2,1),(2,2),(2,3),(2,4),(1,5),(2,6),(2,7),(2,8),(1,9),(2,10),(2,11),(2,12),(2,13),(2,14),(2,15),(2,16),(1,17),(2,18),(2,19),(2,20),(1,21),(2,22),(2,23),(2,24),(2,25),(2,26),(2,27),(0,28),(2,29),(2,30),(0,31)] (fun w'=>∃ p:NW w12,w'=p.w) (by kernel_rfl) (by kernel_rfl) ?_ ?_
  ·exact⟨⟨_,I.out⟩,rfl⟩
  iterate 5 (refine RP.walkR_any ?_;simp only[Kh,dz_,Kg,tz_];go_big_quiet_step (fail);refine wpQuiet_nil ?_)
  iterate 1 (refine RP.walkR_read ?_;simp only[Kh,dz_,Kg,tz_];go_big_quiet_step (fail);refine wpQuiet_nil ?_)
  iterate 3 (refine RP.walkR_any ?_;simp only[Kh,dz_,Kg,tz_];go_big_quiet_step (fail);refine wpQuiet_nil ?_)
  iterate 1 (refine RP.walkR_read ?_;simp only[Kh,dz_,Kg,tz_];go_big_quiet_step (fail);refine wpQuiet_nil ?_)
  iterate 7 (refine RP.walkR_any ?_;simp only[Kh,dz_,Kg,tz_];go_big_quiet_step (fail);refine wpQuiet_nil ?_)
  iterate 1 (refine RP.walkR_read ?_;simp only[Kh,dz_,Kg,tz_];go_big_quiet_step (fail);refine wpQuiet_nil ?_)
  iterate 3 (refine RP.walkR_any ?_;simp only[Kh,dz_,Kg,tz_];go_big_quiet_step (fail);refine wpQuiet_nil ?_)
  iterate 1 (refine RP.walkR_read ?_;simp only[Kh,dz_,Kg,tz_];go_big_quiet_step (fail);refine wpQuiet_nil ?_)
  iterate 6 (refine RP.walkR_any ?_;simp only[Kh,dz_,Kg,tz_];go_big_quiet_step (fail);refine wpQuiet_nil ?_)
  iterate 1 (refine RP.walkR_move ?_;simp only[Kh,dz_,Kg,tz_];go_wp2_with fail)
  iterate 2 (refine RP.walkR_any ?_;simp only[Kh,dz_,Kg,tz_];go_big_quiet_step (fail);refine wpQuiet_nil ?_)
  iterate 1 (refine RP.walkR_move ?_;simp only[Kh,dz_,Kg,tz_];go_wp2_with fail)
  simp only[RP.walkR]
  go_wp2_with fail
  go_ret2
  refine⟨HF.out.2,rfl,⟨_,_,_,_,_,_,HF.out.1.mono (Nat.le_trans hB Ot.out),jK,?_,?_,HV.out.1,HV.out.2⟩⟩
  ·rw[jW.out];exact HN.out.1
  ·rw[jW.out];exact HN.out.2
 ·by_cases cB:u2≤G
  ·have fT:st=none:=by rw[Gu.out,if_neg cA,if_pos cB]
   subst fT;rw[decide_eq_false cA,decide_eq_true cB]
   go_wp2_with fail
   go_ret2
   exact⟨G8.out,rfl⟩
  ·have fT:st=some (false,M,G):=by rw[Gu.out,if_neg cA,if_neg cB]
   subst fT;rw[decide_eq_false cA,decide_eq_false cB];obtain⟨k0,k1,k2,kf⟩:=Ki di.out.ob;rw[Dj.out.1] at k0;rw[Di.out.1] at k1;have iH:wo+2≤d2:=by have:=di.out.o1.cap;rw[Dj.out.1] at this;omega
   have iG:wo+2≤d5:=by have:=di.out.o2.cap;rw[Di.out.1] at this;omega
   have O1:=di.out.o1.cut (wo+2) (by rw[Dj.out.1];omega)
   have O2:=di.out.o2.cut (wo+2) (by rw[Di.out.1];omega)
   have W1:=di.out.p1.take (wo+2);have W2:=di.out.p2.take (wo+2);have N1:(L2.take (wo+2)).length=wo+2:=by rw[List.length_take,Dj.out.1];omega
   have N2:(L5.take (wo+2)).length=wo+2:=by rw[List.length_take,Di.out.1];omega
   have V1:vW (L2.take (wo+2))=M:=by rw[Ziy di.out.p1 (by rw[Dj.out.1];omega),Dj.out.2];exact Nat.mod_eq_of_lt (bN.out _ rfl).1
   have V2:vW (L5.take (wo+2))=G:=by rw[Ziy di.out.p2 (by rw[Di.out.1];omega),Di.out.2];exact Nat.mod_eq_of_lt (bN.out _ rfl).2
   have GU:=(di.out.below (Qg w8 1)).put As (O1.below (Qg w8 1) nr_) (O2.below (Qg w8 1) nr_) W1 W2 (Ql G8.out (Za0 (R:=R) (Qg w8 1)));rw[N1,N2] at GU;have HF:=hd_ GU;have HV:=hd_ (And.intro V1 V2);have HN:=hd_ (And.intro N1 N2);clear O1 O2 W1 W2 N1 N2 V1 V2 GU;have iB:(w8.drewN 1).frozen? ⟨R,0,none⟩=false:=kf 0;have ah:(w8.drewN 1).frozen? ⟨R,1,none⟩=false:=kf 1;have q0:=NW.cell k0;have q1:=NW.cell k1;have gk:Nonempty (NW w8):=⟨⟨w8,Below.refl _ _⟩⟩;have I:Hid (Below w8.heap.size w8 w8.drew):=(Below.refl _ _).drew;have bm:(wo:Int)+2≤(wo:Int)+5:=by omega
   have Gb:(wo:Int)+2≤(wo:Int)+5+1:=by omega
   have Fl:min (5:Int) 2=2:=by decide
   have EP:min ((wo:Int)+5+1) ((wo:Int)+2)=(wo:Int)+2:=by omega
   have Ni:((wo:Int)+2).toNat=wo+2:=by omega
   go_wp2_with fail
   refine RP.wp_region_readers 28 [(2,0),(2,1),(2,2),(2,3),(2,4),(1,5),(2,6),(2,7),(2,8),(1,9),(2,10),(2,11),(2,12),(2,13),(2,14),(2,15),(2,16),(1,17),(2,18),(2,19),(2,20),(1,21),(2,22),(2,23),(2,24),(2,25),(2,26),(2,27),(0,28),(2,29),(2,30),(0,31)] (fun w'=>∃ p:NW w8,w'=p.w) (by kernel_rfl) (by kernel_rfl) ?_ ?_
   ·exact⟨⟨_,I.out⟩,rfl⟩
   iterate 5 (refine RP.walkR_any ?_;simp only[Kh,dz_,Kg,tz_];go_big_quiet_step (fail);refine wpQuiet_nil ?_)
   iterate 1 (refine RP.walkR_read ?_;simp only[Kh,dz_,Kg,tz_];go_big_quiet_step (fail);refine wpQuiet_nil ?_)
   iterate 3 (refine RP.walkR_any ?_;simp only[Kh,dz_,Kg,tz_];go_big_quiet_step (fail);refine wpQuiet_nil ?_)
   iterate 1 (refine RP.walkR_read ?_;simp only[Kh,dz_,Kg,tz_];go_big_quiet_step (fail);refine wpQuiet_nil ?_)
   iterate 7 (refine RP.walkR_any ?_;simp only[Kh,dz_,Kg,tz_];go_big_quiet_step (fail);refine wpQuiet_nil ?_)
   iterate 1 (refine RP.walkR_read ?_;simp only[Kh,dz_,Kg,tz_];go_big_quiet_step (fail);refine wpQuiet_nil ?_)
   iterate 3 (refine RP.walkR_any ?_;simp only[Kh,dz_,Kg,tz_];go_big_quiet_step (fail);refine wpQuiet_nil ?_)
   iterate 1 (refine RP.walkR_read ?_;simp only[Kh,dz_,Kg,tz_];go_big_quiet_step (fail);refine wpQuiet_nil ?_)
   iterate 6 (refine RP.walkR_any ?_;simp only[Kh,dz_,Kg,tz_];go_big_quiet_step (fail);refine wpQuiet_nil ?_)
   iterate 1 (refine RP.walkR_move ?_;simp only[Kh,dz_,Kg,tz_];go_wp2_with fail)
   iterate 2 (refine RP.walkR_any ?_;simp only[Kh,dz_,Kg,tz_];go_big_quiet_step (fail);refine wpQuiet_nil ?_)
   iterate 1 (refine RP.walkR_move ?_;simp only[Kh,dz_,Kg,tz_];go_wp2_with fail)
   simp only[RP.walkR]
   go_wp2_with fail
   go_ret2
   refine⟨HF.out.2,rfl,⟨_,_,_,_,_,_,HF.out.1.mono hB,jK,?_,?_,HV.out.1,HV.out.2⟩⟩
   ·rw[jW.out];exact HN.out.1
   ·rw[jW.out];exact HN.out.2
def Zbo (l:List Bool):List Value:=l.map Value.bool
theorem Zag(l:List Bool):(Zbo l).length=l.length:=by simp[Zbo]
theorem Zma(l m:List Bool):Zbo (l++m)=Zbo l++Zbo m:=by simp[Zbo]
theorem Zhh(l:List Bool)(j:Nat)(h:j<l.length):(Zbo l)[j]?=some (.bool (l.getD j false)):=by
 simp[Zbo,List.getD_eq_getElem?_getD,h]
theorem Zyi:(Tryz.prog.info? 4).map (fun i=>(i.zero,i.size,i.bytes))=some (some (.bool false),1,1):=by kernel_rfl
theorem Qdf:Zbz Tryz.prog 74 4 (.bool false) 1 1:=⟨Tryz.underlying74,info_parts Zyi,rfl,by decide⟩
def Zhy (w:World) (B:Nat) (a:Option Addr) (c:Nat) (l:List Bool):Prop:=w.ownsRow B 4 1 (.slice a l.length c) l.length (Zbo l)
structure BoI (w:World) (B:Nat) (a:Option Addr) (c:Nat) (l:List Bool):Prop where
 own:Zhy w B a c l
 fst:∀ k,(Value.slice a l.length c).ownBlock=some k→∃ b,w.cell? ⟨k,0,none⟩=some (.bool b)
theorem BoI.nil(w:World)(B:Nat):BoI w B none 0 []:=⟨World.ownsRow_nil ..,fun k h=>by simp[Value.ownBlock] at h⟩
theorem BoI.of{w:World}{B:Nat}{a:Option Addr}{c:Nat}{l:List Bool}(h:Zhy w B a c l)(h0:0<l.length):BoI w B a c l:=by
 refine⟨h,fun k hk=>?_⟩
 obtain⟨g,cap,hv,h1,h2,h3,h4,h5⟩:=Vy h h0;simp only[Value.slice.injEq] at hv;obtain⟨rfl,-,rfl⟩:=hv;have e:g=k:=by simpa [Value.ownBlock] using hk
 subst e;have:=h4 0 (by omega)
 rw[Zhh l 0 h0] at this;exact⟨_,this⟩
theorem BoI.grown{w w':World}{B R:Nat}{a:Option Addr}{c:Nat}{l:List Bool}(h:BoI w B a c l)(hg:w.grownBy w' (some R))(hR:∀ b,w.cell? ⟨R,0,none⟩≠some (.bool b)):BoI w' B a c l:=by
 have gq:∀ k,(Value.slice a l.length c).ownBlock=some k→k≠R:=fun k hk e=>by
  obtain⟨b,hb⟩:=h.fst k hk;rw[e] at hb;exact hR b hb
 refine⟨World.ownsRow.kept h.own hg ?_,fun k hk=>?_⟩
 ·cases hv:(Value.slice a l.length c).ownBlock with
  | none=>simp
  | some k=>exact .inr fun e=>by cases e;exact gq _ hv rfl
 ·obtain⟨b,hb⟩:=h.fst k hk;refine⟨b,?_⟩;have hs:=block_lt_of_cell hb;have Fu:=hg.block k hs (fun e=>gq k hk (by cases e;rfl))
  unfold World.cell? at hb ⊢;simp only at hb Fu ⊢;rw[Fu];exact hb
theorem Zu5.notBool{w:World}{B R P lo hi:Nat}(h:Zu5 w B R P lo hi):∀ b,w.cell? ⟨R,0,none⟩≠some (.bool b):=fun b hb=>by
 obtain⟨a1,c1,L,a2,c2,H,S,-⟩:=h;rw[(Ki S.ob).1] at hb;cases hb
theorem Zu5.kept{w w':World}{B R P lo hi:Nat}(h:Zu5 w B R P lo hi){row:Option Nat}(hg:w.grownBy w' row)(gH:∀ k,row=some k→∃ b,w.cell? ⟨k,0,none⟩=some (.bool b)):Zu5 w' B R P lo hi:=by
 obtain⟨a1,c1,L,a2,c2,H,S,hB,l1,l2,v1,v2⟩:=h;have Gm:∀ (a:Option Addr) (c:Nat) (l:List Nat),l.length=P/64+2→Qy w B a c l→Qy w' B a c l:=fun a c l hl ho=>by
  refine World.ownsRow.kept ho hg ?_;obtain⟨g,rfl,h1,h2,h3,h4,h5⟩:=ho.open (by omega)
  right;intro e;obtain⟨b,hb⟩:=gH g (show row=some g from e.symm)
  rw[h4 0 (by omega)] at hb
  cases hb
 refine⟨a1,c1,L,a2,c2,H,⟨?_,Gm _ _ _ l1 S.o1,Gm _ _ _ l2 S.o2,S.p1,S.p2⟩,hB,l1,l2,v1,v2⟩;rw[hg.block R (Array.getElem?_eq_some_iff.1 S.ob).1 (fun e=>?_)]
 ·exact S.ob
 ·obtain⟨b,hb⟩:=gH R e.symm;rw[(Ki S.ob).1] at hb;cases hb
def Qb4 (w w':World) (p P n:Nat) (e:Ending):Prop :=
 Below w.heap.size w w'∧match Vn p P n with
  | some _=>∃ a c,e = .returned (.tuple #[.slice a n c,.bool true])∧Zhy w' w.heap.size a c (Zdk p P n)
  | none=>e = .returned (.tuple #[.slice none 0 0,.bool false])
structure DgI (w wr:World) (R p P n j lo hi o:Nat) (a:Option Addr) (c:Nat):Prop where
 dg:Vn p P j=some (lo,hi,o)
 ma:Zu5 wr w.heap.size R P lo hi
 bo:BoI wr w.heap.size a c (Zdk p P j)
 bel:Below w.heap.size w wr
theorem Znx(w:World)(p n P:Nat)(hp:2≤p)(Gn:p≤97)(hl:p.log2≤6)(hn:n≤1000)(hP:n+64≤P)(hP2:P≤1300):
  Calls Tryz.prog 139 #[.int .i64 p,.int .i64 p.log2,.int .i64 n,.int .i64 P] w fun e w'=>Qb4 w w' p P n e:=by
 have HB:=hd_ (Zuy w p p.log2 P (by omega) (by omega) (by omega))
 have H0:Hid (Vn p P 0=some (p*2^(P-p.log2),p*2^(P-p.log2),p.log2)):=rfl;have IZ:Hid (∀ W R j lo hi o,w.heap.size≤W.heap.size→j<n→Vn p P j=some (lo,hi,o)→Zu5 W w.heap.size R P lo hi→Calls Tryz.prog 196 #[.pointer (some ⟨R,0,none⟩)] W fun e w'=>Zyq W w' w.heap.size R P (Zfp (2^P) lo hi) e):=fun W R j lo hi o hW hj hd hM=>by
  refine Zzy W w.heap.size R P lo hi hM (by omega) hW (Zn1 j _ hd) fun x hx=>?_
  have h1:=(Zgj (b:=x.1) (l':=x.2.1) (g':=x.2.2) hd hx).1;have h2:=Zpj (P:=P) (by omega) (by omega) (j+1) (by omega) (by omega) _ h1
  have h3:=Zn1 (j+1) _ h1;have h4:=Zt7 (P:=P) (n:=j+1) (by omega) (by omega) h2
  exact⟨Nat.lt_of_le_of_lt h3 h4,h4⟩
 generalize hk:p.log2=k at *
 have Hk:=hd_ hk;clear hk;go_enter Tryz.func139,Tryz.ntmps139
 go_wp2_with fail
 refine cm_ HB.out ?_;rintro e w1 ⟨R,rfl,hM,hb⟩;have Jh:Hid (DgI w w1 R p P n 0 _ _ _ none 0):=⟨H0.out,hM,BoI.nil _ _,hb⟩;clear hM hb HB H0
 go_wp2_with fail
 go_loopw [11,19] (fun v i wr=>∃ (j lo hi o:Nat) (a:Option Addr) (c:Nat),j≤n∧i = .int .i64 j∧v = .slice a j c∧Hid (DgI w wr R p P n j lo hi o a c)) (fun _ i _=>n-(intOf i).toNat)
 case atStart=>exact⟨0,_,_,_,none,0,Nat.zero_le _,rfl,rfl,Jh⟩
 case round =>
  obtain⟨j,lo,hi,o,a,c,hj,rfl,rfl,HD⟩:=hrel;clear Jh
  by_cases H9:j<n
  ·have gm:(j:Int)<n:=by omega
   have NE:IntKind.i64.wrap ((j:Int)+1)=((j+1:Nat):Int):=by rw[← Int.natCast_succ];exact iw_ _ (by omega)
   go_wp2_with fail
   refine cm_ (IZ.out _ R j lo hi o HD.out.bel.size H9 HD.out.dg HD.out.ma) ?_;rintro e w2 ⟨hg,hm⟩;have jK:w.heap.size≤R:=by obtain⟨_,_,_,_,_,_,-,h,-⟩:=HD.out.ma;exact h
   have B2:=hd_ (HD.out.bel.grown hg HD.out.bel.size (fun k hk=>by cases hk;exact jK))
   have Jj:=hd_ (HD.out.bo.grown hg HD.out.ma.notBool);have fF:=hd_ B2.out.size;cases fT:Zfp (2^P) lo hi with
   | none =>
    rw[fT] at hm;obtain rfl:=hm;have Ck:Hid (Vn p P n=none):=Zls (Zkp HD.out.dg fT) H9;clear hg fT HD IZ Jj
    go_wp2_with fail
    go_ret2
    refine⟨B2.out,?_⟩;rw[Ck.out];rfl
   | some x =>
    rw[fT] at hm;obtain⟨rfl,hM⟩:=hm;obtain⟨x1,x2,x3⟩:=x;obtain⟨Fn,HU⟩:=Zgj HD.out.dg fT;have eC:=hd_ Fn;have H6:=hd_ HU;have HM:=hd_ hM;clear hg fT HD hM Fn HU;have gz:Hid (w2.ownsRow w.heap.size 4 1 (.slice a j c) j (Zbo (Zdk p P j))):=by
     have:=Jj.out.own
     unfold Zhy at this;rw[Yj] at this;exact this
    have IQ:Hid (∀ k,(Value.slice a j c).ownBlock=some k→∃ b,w2.cell? ⟨k,0,none⟩=some (.bool b)):=by
     have:=Jj.out.fst
     rw[Yj] at this;exact this
    clear Jj
    go_wp2_with (at_builtin;refine Km rfl (.tmp 28) (.tmp 30) 74 rfl Qdf _ 1 [.bool x1] rfl rfl gz.out fF.out rfl (by simp[Value.oneCell']) (by omega) (by omega) ?_)
    intro v' w3 gu Gc GM;obtain⟨a3,d3,rfl⟩:=Qk gu;have Ov:Hid (Zhy w3 w.heap.size a3 d3 (Zdk p P (j+1))):=by
     show Zhy _ _ _ _ _
     unfold Zhy;rw[Yj,Zrn,Zma,H6.out];exact gu
    have M3:=hd_ ((show Zu5 (w2.alloc (.cells #[.bool x1] 4)) w.heap.size R P x2 x3 from by
     obtain⟨a1,c1,L,a2,c2,H,S,h1,h2,h3,h4,h5⟩:=HM.out;exact⟨a1,c1,L,a2,c2,H,S.below ((Below.refl _ _).alloc nr_ _),h1,h2,h3,h4,h5⟩).kept Gc (fun k hk=>by
      obtain⟨b,hb⟩:=IQ.out k hk;exact⟨b,Lib.cell?_alloc_some _ hb⟩))
    have B3:=hd_ ((B2.out.alloc fF.out (.cells #[.bool x1] 4)).grown Gc (by simp;have:=fF.out;omega) (fun k hk=>(World.ownsRow.lt gz.out k hk).1))
    clear gu Gc GM HM gz IQ B2
    go_wp2_with fail
    go_roundw
    case rel=>exact⟨j+1,x2,x3,_,a3,d3,by omega,by go_num,rfl,⟨eC.out,M3.out,BoI.of Ov.out (by rw[Yj];omega),B3.out⟩⟩
    case measure=>simp[intOf];omega
  ·have bt:j=n:=by omega
   subst bt;have gm:¬ (j:Int)<j:=by omega
   have gz:Hid (Zhy wr w.heap.size a c (Zdk p P j)):=HD.out.bo.own
   go_wp2_with fail
   go_ret2
   refine⟨HD.out.bel,?_⟩;rw[HD.out.dg];exact⟨a,c,rfl,gz.out⟩
theorem Zm3{w:World}{a:Option Addr}{V:List Value}(h:Rd w a V)(m:Nat):Rd w a (V.take m):=by
 rcases h with rfl|⟨b,off,h1,h2,h3⟩
 ·left;simp
 ·refine .inr ⟨b,off,h1,h2,fun i v hi=>h3 i v ?_⟩
  rw[List.getElem?_take] at hi;split at hi
  ·exact hi
  ·cases hi
theorem Zsq{w:World}{b o d:Nat}{V:List Value}(h:Rd w (some ⟨b,o,none⟩) V)(m:Nat)(hd:V.length≤d):Rd w (if d=m then some ⟨b,o,none⟩ else some ⟨b,o+m,none⟩) (V.drop m):=by
 split
 ·left;rw[List.drop_of_length_le (by omega)]
 ·rcases h with rfl | ⟨b',off,h1,h2,h3⟩
  ·left;simp
  ·simp only[Option.some.injEq,Addr.mk.injEq,and_true] at h1;obtain⟨rfl,rfl⟩:=h1;refine .inr ⟨b,o+m,rfl,h2,fun i v hi=>?_⟩
   rw[List.getElem?_drop] at hi;rw[Nat.add_assoc];exact h3 (m+i) v hi
structure Qca (n:Nat) (bl:List Bool) (F:Nat→Nat):Prop where
 len:bl.length=n
 nxt:∀ j,j<n→F (j+1)=2*F j+(bl.getD j false).toNat
 sm:∀ j,j≤n→F j<2^(j+3)
theorem Zxa{p P n:Nat}(hp:2≤p)(Gn:p≤97)(hP:64≤P){s:Nat×Nat×Nat}(h:Vn p P n=some s):∃ F,Qca n (Zdk p P n) F∧F 0=p.log2∧F n=s.2.2:=by
 refine⟨fun j=>match Vn p P j with | some s=>s.2.2 | none=>0,⟨Yj p P n,fun j hj=>?_,fun j hj=>?_⟩,rfl,?_⟩
 ·have h1:(Vn p P (j+1)).isSome:=Zar hj (by rw[h];rfl)
  have h0:(Vn p P j).isSome:=Zar (Nat.le_of_lt hj) (by rw[h];rfl)
  obtain⟨t,ht⟩:=Option.isSome_iff_exists.1 h1;obtain⟨u,hu⟩:=Option.isSome_iff_exists.1 h0;simp only[ht,hu];rw[Zuw p P n j hj];exact Zw8 hu ht
 ·have h0:(Vn p P j).isSome:=Zar hj (by rw[h];rfl)
  obtain⟨u,hu⟩:=Option.isSome_iff_exists.1 h0;simp only[hu];exact(Zul p P hp Gn hP j _ hu).out
 ·simp only[h]
theorem Zw9(n:Nat):Qca n (List.replicate n false) (fun j=>2^j):=by
 refine⟨by simp,fun j hj=>?_,fun j hj=>Nat.pow_lt_pow_right (by decide) (by omega)⟩
 have:(List.replicate n false).getD j false=false:=by rw[List.getD_eq_getElem?_getD,List.getElem?_replicate];split<;>rfl
 rw[this,Nat.pow_succ]
 show _=_+0
 omega
/-! The walk. -/
def K10:Nat:=1010
theorem k10:K10=1010:=rfl
theorem Qa0(n:Nat)(w:World)(hn:n≤100000000):
  (Instr.makeSlice 74 (.int .i64 (n:Int)) (.int .i64 (n:Int))).run Tryz.prog w = .ok (.slice (some ⟨w.heap.size,0,none⟩) n n) (w.alloc (.cells (Zbo (List.replicate n false)).toArray 4)):=by
 have:=run_make_row' (P:=Tryz.prog) 74 4 (.bool false) 1 Tryz.underlying74 Zyi rfl .i64 .i64 n (by omega) (by omega) w
 rw[show madeCells #[.bool false] n=(Zbo (List.replicate n false)).toArray by apply Array.ext';rw[toList_madeCells_one];simp[Zbo]] at this
 exact this
theorem Zsp(w:World)(l:List Bool):Rd (w.alloc (.cells (Zbo l).toArray 4)) (some ⟨w.heap.size,0,none⟩) (Zbo l) :=
 .inr ⟨w.heap.size,0,rfl,by simp,fun i v hi=>by
  rw[Nat.zero_add,cell_of_row _ w.heap.size i _ 4 (0,0) (heap_alloc_new w _)]
  simpa using hi⟩
theorem Zvw{w:World}{B:Nat}{a:Option Addr}{c:Nat}{l:List Bool}(h:Zhy w B a c l):Rd w a (Zbo l):=by
 by_cases hn:0<l.length
 ·obtain⟨g,cap,hv,h1,h2,h3,h4,h5⟩:=Vy h hn;simp only[Value.slice.injEq] at hv;obtain⟨rfl,-,-⟩:=hv;refine .inr ⟨g,0,rfl,h2,fun i v hi=>?_⟩
  have H9:=(List.getElem?_eq_some_iff.1 hi).1;rw[Zag] at H9;rw[Nat.zero_add,h4 i (by omega)];exact hi
 ·obtain rfl:=List.length_eq_zero_iff.1 (Nat.eq_zero_of_not_pos hn);exact .inl rfl
structure LoI (w wr:World) (n:Nat) (bl:List Bool) (j:Nat) (a:Option Addr) (c:Nat):Prop where
 rd:Rd wr a (Zbo (bl.drop j))
 cap:n-j≤c
 bel:Below w.heap.size w wr
theorem Zpg(w:World)(p n:Nat)(hp:p=2∨p∈Yp)(hn:n≤1000)(L:Qd w):
  Kc Tryz.prog 67 #[.int .i64 p,.int .i64 n] w (.string (dec (lgN p n))):=by
 unfold Kc;have DS:2≤p:=by
  rcases hp with h|h
  ·omega
  ·have:=Yl h;have:=Zfw h;omega
 have Gn:p≤97:=by
  rcases hp with h|h
  ·omega
  ·have:=Yl h;omega
 have hl:=Znl p DS Gn;have FZ:=hd_ (Tryz.bits_Len p w (by omega) (by omega))
 rw[show ((p:Nat):Int).toNat=p from rfl,Ze5 p (by omega) Gn] at FZ
 have fM:IntKind.i64.wrap (((p.log2+1:Nat):Int)-1)=(p.log2:Int):=by rw[show ((p.log2+1:Nat):Int)-1=(p.log2:Int) by omega];exact iw_ _ (by omega)
 have fL:IntKind.u64.wrap (p:Int)=p:=IntWalk.u64_in _ (by omega)
 have HL:=hd_ L;clear L;have Gg:Hid (∀ (z:Nat) W,z≤1000000000→Below w.heap.size w W→Kc Tryz.prog 73 #[.int .i64 z] W (.string (dec z))):=fun z W hz hW=>by
  have:=Zaj W z (by omega) (by omega) (HL.out.below hW)
  rw[Kj] at this;exact this
 have Cq:Hid (∀ (x g:Nat) W,x<2^K10→g≤28→Below w.heap.size w W→Kc Tryz.prog 115 #[.string (dec x),.string (dec (2^g))] W (.string (dec (x*2^g)))):=fun x g W hx hg hW =>
  Qb9 W x (2^g) K10 (by decide) hx (Nat.pow_lt_pow_right (by decide) (by rw[k10];omega)) (HL.out.below hW)
 have jc:Hid (∀ (x a g:Nat) W,x<2^K10→g≤28→a<2^g→Below w.heap.size w W→Kc Tryz.prog 20 #[.string (dec (x*2^g)),.string (dec a)] W (.string (dec (x*2^g+a)))):=fun x a g W hx hg ha hW=>by
  refine Zxp W (x*2^g) a (K10+90) (by decide) ?_ ?_ (HL.out.below hW)
  ·refine Nat.lt_of_lt_of_le (Nat.mul_lt_mul_of_pos_right hx (Nat.two_pow_pos g)) ?_;rw[← Nat.pow_add];exact Nat.pow_le_pow_right (by decide) (by omega)
  ·exact Nat.lt_of_lt_of_le ha (Nat.pow_le_pow_right (by decide) (by rw[k10];omega))
 have Eg:Hid (p≠2→∀ (P:Nat) W,n+64≤P→P≤1300→Calls Tryz.prog 139 #[.int .i64 p,.int .i64 p.log2,.int .i64 n,.int .i64 P] W fun e w'=>Qb4 W w' p P n e):=fun _ P W h1 h2=>Znx W p n P DS Gn hl hn h1 h2
 have DB:Hid (∀ P,p≠2→1120≤P→Vn p P n≠none):=fun P h1 h2 h3=>by
  have:=Zj2 (hp.resolve_left h1) (show n≤1056 by omega) h2
  rw[h3] at this;cases this
 have DC:Hid (∀ (P:Nat) s,p≠2→64≤P→Vn p P n=some s→s.2.2=lgN p n):=fun P s h1 h2 h3=>Zd2 (hp.resolve_left h1) (by omega) (by omega) h3
 have bG:Hid (p=2→lgN p n=2^n):=fun h=>by rw[h];exact Yq n
 have o5:=hd_ DS;have AA:=hd_ Gn;have Hn:=hd_ hn;have OK:p≤97:=Gn;have Dn:n≤1000:=hn;obtain⟨v,hv⟩:∃ v,lgN p n=v:=⟨_,rfl⟩;rw[hv] at DC bG ⊢;clear hv hp DS Gn hn;generalize hk:p.log2=k at *
 have Hk:=hd_ hk;clear hk;go_enter Tryz.func67,Tryz.ntmps67
 go_wp2_with fail
 refine cm_ FZ.out ?_;rintro e w1 ⟨rfl,hw1e⟩;clear FZ
 go_wp2_with fail
 clear hw1e;refine cm_ (Gg.out k w (by omega) (Below.refl _ _)) ?_
 rintro e w2 ⟨rfl,hb⟩;have B2:=hd_ hb;clear hb
 by_cases h2:p=2
 ·have Hv:Hid (v=2^n):=bG.out h2;have Fv:Hid (k=1):=by
   show _=_
   rw[← Hk.out,h2];decide +kernel
  subst h2;have eI:=Qa0 n w2 (by omega)
  have j0:=hd_ (Zsp w2 (List.replicate n false));have B3:=hd_ (B2.out.alloc B2.out.size (.cells (Zbo (List.replicate n false)).toArray 4));generalize w2.alloc (.cells (Zbo (List.replicate n false)).toArray 4)=w3 at *
  clear B2 Eg DB DC bG
  go_wp2_with fail
  go_loopw [7,8] (fun l q wr=>l = .slice (some ⟨w2.heap.size,0,none⟩) n n∧q = .int .i64 ((n:Int)+64)∧Hid (wr=w3)) (fun _ _ _=>0)
  case atStart=>exact⟨rfl,rfl,rfl⟩
  case round =>
   obtain⟨rfl,rfl,FQ⟩:=hrel;obtain rfl:=FQ.out;clear FQ;obtain⟨F,hF⟩:∃ F:Nat→Nat,F=fun j=>2^j:=⟨_,rfl⟩
   obtain⟨bl,Fu⟩:∃ bl,bl=List.replicate n false:=⟨_,rfl⟩;have HF:Hid (Qca n bl F):=by show Qca n bl F;rw[Fu,hF];exact Zw9 n
   have LU:Hid (F 0=k):=by show _=_;rw[hF,Fv.out]
   have LT:Hid (F n=v):=by show _=_;rw[hF,Hv.out]
   have HR:Hid (LoI w wr n bl 0 (some ⟨w2.heap.size,0,none⟩) n):=⟨by rw[List.drop_zero,Fu];exact j0.out,by omega,B3.out⟩
   clear hF Fu Hv Fv j0 B3
   go_wp2_with fail
   go_loopw [6,7] (fun s l wr=>∃ (j:Nat) (a:Option Addr) (c:Nat),j≤n∧s = .string (dec (F j))∧l = .slice a (n-j) c∧Hid (LoI w wr n bl j a c)) (fun _ l _=>match l with | .slice _ m _=>m | _=>0)
   case atStart=>exact⟨0,_,_,Nat.zero_le _,by rw[LU.out],by rw[Nat.sub_zero],HR⟩
   case round =>
    clear HR;obtain⟨j,a,c,hj,rfl,rfl,HI⟩:=hrel;obtain⟨m,hm⟩:∃ m,n-j=m:=⟨_,rfl⟩;have JM:m≤1000:=by omega
    rw[hm]
    by_cases H9:0<m
    ·have gm:(0:Int)<m:=by omega
     obtain⟨g,hg⟩:∃ g,min m 28=g:=⟨_,rfl⟩;have EY:g≤28:=by omega
     have NI:g≤m:=by omega
     have fQ:0<g:=by omega
     have JL:min (m:Int) 28=(g:Nat):=by omega
     have eN:g≤c:=by have:=HI.out.cap;omega
     have IK:=hd_ (show j+g≤n by omega)
     obtain⟨b,off,rfl,hZ,Gw⟩:=HI.out.rd.open (by rw[Zag,List.length_drop,HF.out.len];omega)
     have gv:Hid (∀ t,t<g→wr.cell? ⟨b,off+t,none⟩=some (.bool (bl.getD (j+t) false))):=fun t ht=>by
      refine Gw t _ ?_;rw[Zhh _ _ (by rw[List.length_drop,HF.out.len];omega)]
      rw[List.getD_eq_getElem?_getD,List.getD_eq_getElem?_getD,List.getElem?_drop]
     clear Gw;obtain⟨wo,hwo⟩:∃ wo:World,wo=wr:=⟨_,rfl⟩;subst hwo
     go_wp2_with fail
     go_loopw [11,49] (fun ad i wr=>∃ t x:Nat,t≤g∧i = .int .i64 t∧ad = .int .i64 x∧x<268435456∧Hid (x<2^t∧F (j+t)=F j*2^t+x)∧Hid (Below wo.heap.size wo wr)) (fun _ i _=>g-(intOf i).toNat)
     case atStart=>exact⟨0,0,Nat.zero_le _,rfl,rfl,by decide,⟨by decide,by simp⟩,Below.refl _ _⟩
     case round =>
      obtain⟨t,x,ht,rfl,rfl,hx,HX,HB⟩:=hrel
      by_cases Gb:t<g
      ·have FE:(t:Int)<g:=by omega
       have cb:=gv.out t Gb;rw[← HB.out.cell (p:=⟨b,off+t,none⟩) hZ] at cb;have dP:=HF.out.nxt (j+t) (by have:=IK.out;omega)
       have AU:=HX.out.1;have A8:2^(t+1)≤268435456:=Nat.le_trans (Nat.pow_le_pow_right (by decide) (show t+1≤28 by omega)) (by decide)
       have bi:2^(t+1)=2*2^t:=by rw[Nat.pow_succ,Nat.mul_comm]
       have Jy:IntKind.i64.wrap ((x:Int)*2)=((2*x:Nat):Int):=by rw[show (x:Int)*2=((2*x:Nat):Int) by omega];exact iw_ _ (by omega)
       have BM:IntKind.i64.wrap (((2*x:Nat):Int)+1)=((2*x+1:Nat):Int):=by rw[← Int.natCast_succ];exact iw_ _ (by omega)
       have Nh:IntKind.i64.wrap ((t:Int)+1)=((t+1:Nat):Int):=by rw[← Int.natCast_succ];exact iw_ _ (by omega)
       have e1:F j*2^(t+1)=2*(F j*2^t):=by rw[bi];exact Nat.mul_left_comm ..
       have bw:=HX.out.2;cases hbv:bl.getD (j+t) false with
       | true =>
        have GL:Hid (2*x+1<2^(t+1)∧F (j+(t+1))=F j*2^(t+1)+(2*x+1)):=by
         refine⟨by omega,?_⟩
         rw[hbv] at dP;rw[← Nat.add_assoc,dP,bw,e1]
         show _+1=_
         omega
        have Ft:2*x+1<268435456:=by have:=GL.out.1;omega
        rw[hbv] at cb;clear dP hbv HX e1 bw AU A8 bi
        go_wp2_with fail
        refine⟨⟨t+1,2*x+1,by omega,by go_num,by go_num,Ft,GL,HB⟩,by simp[intOf];omega⟩
       | false =>
        have GL:Hid (2*x<2^(t+1)∧F (j+(t+1))=F j*2^(t+1)+2*x):=by
         refine⟨by omega,?_⟩
         rw[hbv] at dP;rw[← Nat.add_assoc,dP,bw,e1]
         show _+0=_
         omega
        have Ft:2*x<268435456:=by have:=GL.out.1;omega
        rw[hbv] at cb;clear dP hbv HX e1 bw AU A8 bi BM
        go_wp2_with fail
        refine⟨⟨t+1,2*x,by omega,by go_num,by go_num,Ft,GL,HB⟩,by simp[intOf];omega⟩
      ·obtain rfl:t=g:=by omega
       have FE:¬ (t:Int)<t:=by omega
       have iO:=HF.out.sm j hj;have E1:F j<2^K10:=Nat.lt_of_lt_of_le iO (Nat.pow_le_pow_right (by decide) (by rw[k10];omega))
       obtain⟨G,hG⟩:∃ G,2^t=G:=⟨_,rfl⟩;have om:G≤268435456:=by rw[← hG];exact Nat.le_trans (Nat.pow_le_pow_right (by decide) EY) (by decide)
       have ol:(2:Int)^t=(G:Nat):=by rw[← hG,Int.natCast_pow];rfl
       have CR:IntKind.i64.wrap (G:Int)=(G:Nat):=iw_ _ (by omega)
       have hM:=fun W hW=>Cq.out (F j) t W E1 EY hW
       have hA:=fun W hW=>jc.out (F j) x t W E1 EY HX.out.1 hW
       have am:=HX.out.2;rw[hG] at hM hA am;have bO:=hd_ (HI.out.bel.trans (HB.out.mono HI.out.bel.size));have HM:=hd_ hM;have HA:=hd_ hA;have jd:=hd_ am;have DU:=hd_ (fun W hW=>Gg.out G W (by omega) hW)
       have DT:=hd_ (fun W hW=>Gg.out x W (by omega) hW)
       clear iO E1 hG hM hA am HX
       go_wp2_with fail
       refine cm_ (DU.out _ bO.out) ?_;rintro e w4 ⟨rfl,hb⟩;have B4:=hd_ (bO.out.trans (hb.mono bO.out.size));have C4:=hd_ (HB.out.trans (hb.mono HB.out.size));clear hb
       go_wp2_with fail
       refine cm_ (HM.out _ B4.out) ?_;rintro e w5 ⟨rfl,hb⟩;have B5:=hd_ (B4.out.trans (hb.mono B4.out.size));have C5:=hd_ (C4.out.trans (hb.mono C4.out.size));clear hb B4 C4
       go_wp2_with fail
       refine cm_ (DT.out _ B5.out) ?_;rintro e w6 ⟨rfl,hb⟩;have B6:=hd_ (B5.out.trans (hb.mono B5.out.size));have C6:=hd_ (C5.out.trans (hb.mono C5.out.size));clear hb B5 C5
       go_wp2_with fail
       refine cm_ (HA.out _ B6.out) ?_;rintro e w7 ⟨rfl,hb⟩;have B7:=hd_ (B6.out.trans (hb.mono B6.out.size));have C7:=hd_ (C6.out.trans (hb.mono C6.out.size));clear hb B6 C6 DU DT HM HA HB bO gv;have LD:=hd_ (Zsq (d:=c) (HI.out.rd.below C7.out nr_) t (by rw[Zag,List.length_drop,HF.out.len];have:=HI.out.cap;omega))
       have Fb:=hd_ HI.out.cap;rw[← jd.out];clear HI jd
       go_wp2_with fail
       refine⟨⟨j+t,_,c-t,IK.out,rfl,by rw[show n-(j+t)=m-t by omega],⟨?_,by have:=Fb.out;omega,B7.out⟩⟩,by show m-t<m;omega⟩
       have:=LD.out
       unfold Zbo at this;rw[← List.map_drop,List.drop_drop] at this;exact this
    ·obtain rfl:j=n:=by omega
     obtain rfl:m=0:=by omega
     go_wp2_with fail
     go_ret;exact⟨by rw[LT.out];rfl,HI.out.bel⟩
 ·have At:((p:Int)==2)=false:=by rw[beq_eq_false_iff_ne];omega
  have iU:((p:Int) != 2)=true:=by rw[bne_iff_ne];omega
  have IT:=hd_ (Eg.out h2);have Ix:=hd_ (fun P h=>DB.out P h2 h)
  have IH:=hd_ (fun P s h=>DC.out P s h2 h)
  have IA:=hd_ (fun (P:Nat) (s:Nat×Nat×Nat) (h1:64≤P) (h:Vn p P n=some s)=>Zxa o5.out AA.out h1 h)
  clear Eg DB DC bG;have mi:IntKind.i64.wrap ((n:Int)+64)=((n+64:Nat):Int):=by rw[show (n:Int)+64=((n+64:Nat):Int) by omega];exact iw_ _ (by omega)
  go_wp2_with fail
  go_loopw [7,8] (fun l q wr=>∃ P:Nat,n+64≤P∧P≤1200∧l = .slice none 0 0∧q = .int .i64 P∧Hid (Below w.heap.size w wr)) (fun _ q _=>1300-(intOf q).toNat)
  case atStart=>exact⟨n+64,Nat.le_refl _,by omega,rfl,rfl,B2⟩
  case round =>
   obtain⟨P,m5,hP2,rfl,rfl,B3⟩:=hrel;clear B2
   go_wp2_with fail
   refine cm_ (IT.out P _ m5 (by omega)) ?_
   rintro e w4 ⟨hb,hm⟩;have B4:=hd_ (B3.out.trans (hb.mono B3.out.size));have pc:IntKind.i64.wrap ((P:Int)+64)=((P+64:Nat):Int):=by rw[show (P:Int)+64=((P+64:Nat):Int) by omega];exact iw_ _ (by omega)
   cases hd:Vn p P n with
   | none =>
    rw[hd] at hm;obtain rfl:=hm;have pd:P<1120:=Nat.lt_of_not_le fun h=>Ix.out P h hd
    clear hb hd
    go_wp2_with fail
    refine⟨⟨P+64,by omega,by omega,rfl,by go_num,B4⟩,by simp[intOf];omega⟩
   | some s =>
    rw[hd] at hm;obtain⟨a0,c0,rfl,ho⟩:=hm;obtain⟨F,hF,hFk,hFn⟩:=IA.out P s (by omega) hd
    have nl:=hd_ (Zvw ho);have BC:Hid (n≤c0):=by
     have:Zhy w4 wr.heap.size a0 c0 (Zdk p P n):=ho
     show n≤c0
     rcases this.2 with⟨h1,h0⟩|⟨g,cap,cur,h1,_,_,h2,_⟩
     ·simp only[Value.slice.injEq] at h1;rw[Yj] at h0;omega
     ·simp only[Value.slice.injEq] at h1;rw[Yj] at h2;omega
    have LT:Hid (F n=v):=by show _=_;rw[hFn];exact IH.out P s (by omega) hd
    have HF:=hd_ hF;have LU:Hid (F 0=k):=by show _=_;rw[hFk,Hk.out]
    clear hF hFn hFk hb hd ho IT Ix IH IA B3;generalize Zdk p P n=bl at *
    have HR:Hid (LoI w w4 n bl 0 a0 c0):=⟨by rw[List.drop_zero];exact nl.out,by have:=BC.out;omega,B4.out⟩
    clear nl BC B4
    go_wp2_with fail
    go_loopw [6,7] (fun s l wr=>∃ (j:Nat) (a:Option Addr) (c:Nat),j≤n∧s = .string (dec (F j))∧l = .slice a (n-j) c∧Hid (LoI w wr n bl j a c)) (fun _ l _=>match l with | .slice _ m _=>m | _=>0)
    case atStart=>exact⟨0,_,_,Nat.zero_le _,by rw[LU.out],by rw[Nat.sub_zero],HR⟩
    case round =>
     clear HR;obtain⟨j,a,c,hj,rfl,rfl,HI⟩:=hrel;obtain⟨m,hm⟩:∃ m,n-j=m:=⟨_,rfl⟩;have JM:m≤1000:=by omega
     rw[hm]
     by_cases H9:0<m
     ·have gm:(0:Int)<m:=by omega
      obtain⟨g,hg⟩:∃ g,min m 28=g:=⟨_,rfl⟩;have EY:g≤28:=by omega
      have NI:g≤m:=by omega
      have fQ:0<g:=by omega
      have JL:min (m:Int) 28=(g:Nat):=by omega
      have eN:g≤c:=by have:=HI.out.cap;omega
      have IK:=hd_ (show j+g≤n by omega)
      obtain⟨b,off,rfl,hZ,Gw⟩:=HI.out.rd.open (by rw[Zag,List.length_drop,HF.out.len];omega)
      have gv:Hid (∀ t,t<g→wr.cell? ⟨b,off+t,none⟩=some (.bool (bl.getD (j+t) false))):=fun t ht=>by
       refine Gw t _ ?_;rw[Zhh _ _ (by rw[List.length_drop,HF.out.len];omega)]
       rw[List.getD_eq_getElem?_getD,List.getD_eq_getElem?_getD,List.getElem?_drop]
      clear Gw;obtain⟨wo,hwo⟩:∃ wo:World,wo=wr:=⟨_,rfl⟩;subst hwo
      go_wp2_with fail
      go_loopw [11,49] (fun ad i wr=>∃ t x:Nat,t≤g∧i = .int .i64 t∧ad = .int .i64 x∧x<268435456∧Hid (x<2^t∧F (j+t)=F j*2^t+x)∧Hid (Below wo.heap.size wo wr)) (fun _ i _=>g-(intOf i).toNat)
      case atStart=>exact⟨0,0,Nat.zero_le _,rfl,rfl,by decide,⟨by decide,by simp⟩,Below.refl _ _⟩
      case round =>
       obtain⟨t,x,ht,rfl,rfl,hx,HX,HB⟩:=hrel
       by_cases Gb:t<g
       ·have FE:(t:Int)<g:=by omega
        have cb:=gv.out t Gb;rw[← HB.out.cell (p:=⟨b,off+t,none⟩) hZ] at cb;have dP:=HF.out.nxt (j+t) (by have:=IK.out;omega)
        have AU:=HX.out.1;have A8:2^(t+1)≤268435456:=Nat.le_trans (Nat.pow_le_pow_right (by decide) (show t+1≤28 by omega)) (by decide)
        have bi:2^(t+1)=2*2^t:=by rw[Nat.pow_succ,Nat.mul_comm]
        have Jy:IntKind.i64.wrap ((x:Int)*2)=((2*x:Nat):Int):=by rw[show (x:Int)*2=((2*x:Nat):Int) by omega];exact iw_ _ (by omega)
        have BM:IntKind.i64.wrap (((2*x:Nat):Int)+1)=((2*x+1:Nat):Int):=by rw[← Int.natCast_succ];exact iw_ _ (by omega)
        have Nh:IntKind.i64.wrap ((t:Int)+1)=((t+1:Nat):Int):=by rw[← Int.natCast_succ];exact iw_ _ (by omega)
        have e1:F j*2^(t+1)=2*(F j*2^t):=by rw[bi];exact Nat.mul_left_comm ..
        have bw:=HX.out.2;cases hbv:bl.getD (j+t) false with
        | true =>
         have GL:Hid (2*x+1<2^(t+1)∧F (j+(t+1))=F j*2^(t+1)+(2*x+1)):=by
          refine⟨by omega,?_⟩
          rw[hbv] at dP;rw[← Nat.add_assoc,dP,bw,e1]
          show _+1=_
          omega
         have Ft:2*x+1<268435456:=by have:=GL.out.1;omega
         rw[hbv] at cb;clear dP hbv HX e1 bw AU A8 bi
         go_wp2_with fail
         refine⟨⟨t+1,2*x+1,by omega,by go_num,by go_num,Ft,GL,HB⟩,by simp[intOf];omega⟩
        | false =>
         have GL:Hid (2*x<2^(t+1)∧F (j+(t+1))=F j*2^(t+1)+2*x):=by
          refine⟨by omega,?_⟩
          rw[hbv] at dP;rw[← Nat.add_assoc,dP,bw,e1]
          show _+0=_
          omega
         have Ft:2*x<268435456:=by have:=GL.out.1;omega
         rw[hbv] at cb;clear dP hbv HX e1 bw AU A8 bi BM
         go_wp2_with fail
         refine⟨⟨t+1,2*x,by omega,by go_num,by go_num,Ft,GL,HB⟩,by simp[intOf];omega⟩
       ·obtain rfl:t=g:=by omega
        have FE:¬ (t:Int)<t:=by omega
        have iO:=HF.out.sm j hj;have E1:F j<2^K10:=Nat.lt_of_lt_of_le iO (Nat.pow_le_pow_right (by decide) (by rw[k10];omega))
        obtain⟨G,hG⟩:∃ G,2^t=G:=⟨_,rfl⟩;have om:G≤268435456:=by rw[← hG];exact Nat.le_trans (Nat.pow_le_pow_right (by decide) EY) (by decide)
        have ol:(2:Int)^t=(G:Nat):=by rw[← hG,Int.natCast_pow];rfl
        have CR:IntKind.i64.wrap (G:Int)=(G:Nat):=iw_ _ (by omega)
        have hM:=fun W hW=>Cq.out (F j) t W E1 EY hW
        have hA:=fun W hW=>jc.out (F j) x t W E1 EY HX.out.1 hW
        have am:=HX.out.2;rw[hG] at hM hA am;have bO:=hd_ (HI.out.bel.trans (HB.out.mono HI.out.bel.size));have HM:=hd_ hM;have HA:=hd_ hA;have jd:=hd_ am;have DU:=hd_ (fun W hW=>Gg.out G W (by omega) hW)
        have DT:=hd_ (fun W hW=>Gg.out x W (by omega) hW)
        clear iO E1 hG hM hA am HX
        go_wp2_with fail
        refine cm_ (DU.out _ bO.out) ?_;rintro e w4 ⟨rfl,hb⟩;have B4:=hd_ (bO.out.trans (hb.mono bO.out.size));have C4:=hd_ (HB.out.trans (hb.mono HB.out.size));clear hb
        go_wp2_with fail
        refine cm_ (HM.out _ B4.out) ?_;rintro e w5 ⟨rfl,hb⟩;have B5:=hd_ (B4.out.trans (hb.mono B4.out.size));have C5:=hd_ (C4.out.trans (hb.mono C4.out.size));clear hb B4 C4
        go_wp2_with fail
        refine cm_ (DT.out _ B5.out) ?_;rintro e w6 ⟨rfl,hb⟩;have B6:=hd_ (B5.out.trans (hb.mono B5.out.size));have C6:=hd_ (C5.out.trans (hb.mono C5.out.size));clear hb B5 C5
        go_wp2_with fail
        refine cm_ (HA.out _ B6.out) ?_;rintro e w7 ⟨rfl,hb⟩;have B7:=hd_ (B6.out.trans (hb.mono B6.out.size));have C7:=hd_ (C6.out.trans (hb.mono C6.out.size));clear hb B6 C6 DU DT HM HA HB bO gv;have LD:=hd_ (Zsq (d:=c) (HI.out.rd.below C7.out nr_) t (by rw[Zag,List.length_drop,HF.out.len];have:=HI.out.cap;omega))
        have Fb:=hd_ HI.out.cap;rw[← jd.out];clear HI jd
        go_wp2_with fail
        refine⟨⟨j+t,_,c-t,IK.out,rfl,by rw[show n-(j+t)=m-t by omega],⟨?_,by have:=Fb.out;omega,B7.out⟩⟩,by show m-t<m;omega⟩
        have:=LD.out
        unfold Zbo at this;rw[← List.map_drop,List.drop_drop] at this;exact this
     ·obtain rfl:j=n:=by omega
      obtain rfl:m=0:=by omega
      go_wp2_with fail
      go_ret;exact⟨by rw[LT.out];rfl,HI.out.bel⟩
end Go.Proofs.YtnjedhgcfeoemaaGreatDoor

namespace Go.Proofs.YtnjedhgcfeoemaaGreatDoor.LN
def sg (x:Rat):Int:=if 1<x then 1 else if x<1 then -1 else 0
theorem Zsl:sg 1=0:=by decide
theorem Zsk{x:Rat}:sg x=1↔1<x:=by
 unfold sg
 by_cases h:1<x
 ·simp[h]
 ·rw[if_neg h];split<;>simp[h]
theorem Zsm{x:Rat}:sg x = -1↔x<1:=by
 unfold sg
 by_cases h:1<x
 ·rw[if_pos h];constructor
  ·intro h2;cases h2
  ·intro h2;exact absurd h2 (by grind)
 ·rw[if_neg h];split<;>simp_all
theorem Qcf{x:Rat}:0≤sg x↔1≤x:=by
 constructor
 ·intro h;refine Rat.not_lt.1 fun h2=>?_
  rw[Zsm.2 h2] at h;omega
 ·intro h;unfold sg;split
  ·decide
  ·split
   ·rename_i h2;exact absurd h (Rat.not_le.2 h2)
   ·decide
theorem Qce{x:Rat}:sg x≤0↔x≤1:=by
 constructor
 ·intro h;refine Rat.not_lt.1 fun h2=>?_
  rw[Zsk.2 h2] at h;omega
 ·intro h;unfold sg;split
  ·rename_i h2;exact absurd h (Rat.not_le.2 h2)
  ·split<;>decide
theorem Zy2{x:Rat}:sg x=0↔x=1:=by
 constructor
 ·intro h;exact Rat.le_antisymm (Qce.1 (by omega)) (Qcf.1 (by omega))
 ·rintro rfl;exact Zsl
theorem Zvs(x:Rat):sg x=1∨sg x=0∨sg x = -1:=by
 unfold sg;split
 ·exact .inl rfl
 ·split
  ·exact .inr (.inr rfl)
  ·exact .inr (.inl rfl)
theorem Zqo{x y:Rat}(hx:1≤x)(hy:1≤y):1≤x*y:=by
 have h:=Rat.mul_le_mul_of_nonneg_left hy (show 0≤x by grind)
 rw[Rat.mul_one] at h;exact Rat.le_trans hx h
theorem Zqn{x y:Rat}(hx:1<x)(hy:1≤y):1<x*y:=by
 have h:=Rat.mul_le_mul_of_nonneg_left hy (show 0≤x by grind)
 rw[Rat.mul_one] at h
 grind
theorem Zqt{x y:Rat}(h0:0<x)(hx:x≤1)(hy:y≤1):x*y≤1:=by
 have h:=Rat.mul_le_mul_of_nonneg_left hy (show 0≤x by grind)
 rw[Rat.mul_one] at h
 grind
theorem Zqs{x y:Rat}(h0:0<x)(hx:x<1)(hy:y≤1):x*y<1:=by
 have h:=Rat.mul_le_mul_of_nonneg_left hy (show 0≤x by grind)
 rw[Rat.mul_one] at h
 grind
theorem Zid{x:Rat}(hx:1≤x):∀ m:Nat,1≤x^m
 | 0=>by rw[Rat.pow_zero];exact Rat.le_refl
 | m+1=>by rw[Rat.pow_succ];exact Zqo (Zid hx m) hx
theorem Zic{x:Rat}(hx:1<x)(m:Nat)(hm:0<m):1<x^m:=by
 obtain⟨k,rfl⟩:=Nat.exists_eq_succ_of_ne_zero (by omega:m≠0)
 rw[Rat.pow_succ,Rat.mul_comm];exact Zqn hx (Zid (by grind) k)
theorem Zie{x:Rat}(h0:0<x)(hx:x≤1):∀ m:Nat,x^m≤1
 | 0=>by rw[Rat.pow_zero];exact Rat.le_refl
 | m+1=>by rw[Rat.pow_succ];exact Zqt (Rat.pow_pos h0) (Zie h0 hx m) hx
theorem Zqj{x:Rat}(h0:0<x)(hx:x<1)(m:Nat)(hm:0<m):x^m<1:=by
 obtain⟨k,rfl⟩:=Nat.exists_eq_succ_of_ne_zero (by omega:m≠0)
 rw[Rat.pow_succ,Rat.mul_comm];exact Zqs h0 hx (Zie h0 (by grind) k)
theorem Qaq{x:Rat}(h0:0<x){m:Nat}(hm:0<m):sg (x^m)=sg x:=by
 rcases Zvs x with h|h|h
 ·rw[h];exact Zsk.2 (Zic (Zsk.1 h) m hm)
 ·rw[h];rw[Zy2.1 h];have:(1:Rat)^m=1:=by
   clear hm
   induction m with
   | zero=>rfl
   | succ m ih=>rw[Rat.pow_succ,ih,Rat.mul_one]
  rw[this];exact Zsl
 ·rw[h];exact Zsm.2 (Zqj h0 (Zsm.1 h) m hm)
def vp:List Int→List Int→Rat
 | p::ps,k::ks=>(p:Rat)^k*vp ps ks
 | _,_=>1
theorem Zxv:∀ (ps ks:List Int),(∀ p∈ps,0<p)→0<vp ps ks
 | [],_,_=>by simp only[vp];decide
 | _::_,[],_=>by simp only[vp];decide
 | p::ps,k::ks,h=>by
  simp only[vp];exact Rat.mul_pos (Rat.zpow_pos (by have:=h p List.mem_cons_self;exact Rat.intCast_pos.2 this)) (Zxv ps ks fun q hq=>h q (List.mem_cons_of_mem _ hq))
theorem Zxw:∀ (ps ks ms:List Int),(∀ p∈ps,0<p)→ks.length=ms.length→vp ps (List.zipWith (· + ·) ks ms)=vp ps ks*vp ps ms
 | [],_,_,_,_=>by simp only[vp];rw[Rat.mul_one]
 | _::_,[],[],_,_=>by simp[vp]
 | p::ps,k::ks,m::ms,h,hl=>by
  have ih:=Zxw ps ks ms (fun q hq=>h q (List.mem_cons_of_mem _ hq)) (by simpa using hl)
  have hp:=h p List.mem_cons_self;have fh:(p:Rat)≠0:=by have:=Rat.intCast_pos.2 hp;grind
  simp only[List.zipWith_cons_cons,vp];rw[ih,Rat.zpow_add fh]
  grind
theorem Zmj:∀ (ps ks:List Int),(∀ k∈ks,k=0)→vp ps ks=1
 | [],_,_=>rfl
 | _::_,[],_=>rfl
 | p::ps,k::ks,h=>by
  simp only[vp];rw[h k List.mem_cons_self,Zmj ps ks fun x hx=>h x (List.mem_cons_of_mem _ hx),Rat.zpow_zero,Rat.mul_one]
theorem Zoi(ps ks:List Int)(h:∀ p∈ps,0<p):∀ m:Nat,vp ps (ks.map fun k=>(m:Int)*k)=vp ps ks^m
 | 0=>by
  rw[Rat.pow_zero];refine Zmj _ _ fun k hk=>?_
  obtain⟨x,_,rfl⟩:=List.mem_map.1 hk;simp
 | m+1=>by
  have ih:=Zoi ps ks h m;have e:=Zxw ps (ks.map fun k=>(m:Int)*k) ks h (by simp)
  rw[Rat.pow_succ,← ih,← e];congr 1;rw[List.zipWith_map_left];refine List.ext_getElem (by simp) fun i h1 h2=>?_
  simp;rw[Int.add_mul,Int.one_mul]
def vt:List (Int×Int)→Rat
 | []=>1
 | x::l=>(x.1:Rat)^x.2*vt l
theorem natCast_pow(a n:Nat):((a^n:Nat):Rat)=(a:Rat)^n:=by
 induction n with
 | zero=>rw[Nat.pow_zero,Rat.pow_zero];rfl
 | succ n ih=>rw[Nat.pow_succ,Rat.pow_succ,Rat.natCast_mul,ih]
theorem Qae:∀ l:List (Int×Int),(∀ x∈l,0<x.1)→((upT l:Nat):Rat)=vt l*((upT (negT l):Nat):Rat)
 | [],_=>by simp[upT,negT,vt]
 | x::l,h=>by
  have ih:=Qae l fun y hy=>h y (List.mem_cons_of_mem _ hy)
  have hx:=h x List.mem_cons_self;have e:negT (x::l)=(x.1,-x.2)::negT l:=rfl;rw[e];simp only[upT,vt];rw[Rat.natCast_mul,Rat.natCast_mul,ih,natCast_pow,natCast_pow];have hp:((x.1.toNat:Nat):Rat)=(x.1:Rat):=by
   rw[← Rat.intCast_natCast,Int.toNat_of_nonneg (by omega)]
  rw[hp];have fh:(x.1:Rat)≠0:=by have:=Rat.intCast_pos.2 hx;grind
  have Gm:(x.1:Rat)^x.2.toNat=(x.1:Rat)^x.2*(x.1:Rat)^(-x.2).toNat:=by
   rw[← Rat.zpow_natCast,← Rat.zpow_natCast,← Rat.zpow_add fh];congr 1;omega
  rw[Gm]
  grind
theorem Zry:∀ l:List (Int×Int),(∀ x∈l,0<x.1)→0<upT l
 | [],_=>by simp[upT]
 | x::l,h=>by
  have hx:=h x List.mem_cons_self;exact Nat.mul_pos (Nat.pow_pos (by omega)) (Zry l fun y hy=>h y (List.mem_cons_of_mem _ hy))
theorem Zvq(l:List (Int×Int))(h:∀ x∈l,0<x.1):signT l=sg (vt l):=by
 have e:=Qae l h;have hd:(0:Rat)<((upT (negT l):Nat):Rat):=by
  have:=Zry (negT l) (by
   intro x hx;obtain⟨y,hy,rfl⟩:=List.mem_map.1 hx;exact h y hy)
  exact Rat.natCast_pos.2 this
 have c1:upT (negT l)<upT l↔1<vt l:=by
  rw[← Rat.natCast_lt_natCast,e];constructor
  ·intro h1;refine Rat.lt_of_mul_lt_mul_right (c:=((upT (negT l):Nat):Rat)) ?_ (Rat.le_of_lt hd);rw[Rat.one_mul];exact h1
  ·intro h1;have:=Rat.mul_lt_mul_of_pos_right h1 hd
   rw[Rat.one_mul] at this;exact this
 have c2:upT l<upT (negT l)↔vt l<1:=by
  rw[← Rat.natCast_lt_natCast,e];constructor
  ·intro h1;refine Rat.lt_of_mul_lt_mul_right (c:=((upT (negT l):Nat):Rat)) ?_ (Rat.le_of_lt hd);rw[Rat.one_mul];exact h1
  ·intro h1;have:=Rat.mul_lt_mul_of_pos_right h1 hd
   rw[Rat.one_mul] at this;exact this
 unfold signT sg;simp only[c1,c2]
theorem mkRat_den'(n:Int)(d:Nat)(h:d≠0):(mkRat n d).den=d/Nat.gcd n.natAbs d:=by
 rw[← Rat.normalize_eq_mkRat h,Rat.den_normalize]
theorem Zv5(q:Rat):q*(q.den:Rat)=(q.num:Rat):=by
 have h:mkRat q.num q.den=(q.num:Rat)/((q.den:Nat):Rat):=Rat.mkRat_eq_div _ _;rw[Rat.mkRat_self] at h;have h2:((q.den:Nat):Rat)≠0:=by have:=Rat.natCast_pos.2 q.den_pos;grind
 have h3:=Rat.div_mul_cancel (a:=(q.num:Rat)) h2;rw[← h] at h3;exact h3
def ex (D:Nat) (q:Rat):Int:=q.num*((D/q.den:Nat):Int)
theorem ex_eq{D:Nat}{q:Rat}(h:q.den ∣ D):(ex D q:Rat)=q*(D:Rat):=by
 obtain⟨m,rfl⟩:=h;unfold ex;rw[Nat.mul_div_cancel_left _ q.den_pos,Rat.intCast_mul,Rat.intCast_natCast,Rat.natCast_mul];have h1:=Zv5 q
 grind
theorem ex_mul{D m:Nat}{a:Rat}(ha:a.den ∣ D):ex (m*D) a=(m:Int)*ex D a:=by
 have:a.den ∣ m*D:=Nat.dvd_trans ha (Nat.dvd_mul_left ..)
 rw[← Rat.intCast_inj,Rat.intCast_mul,ex_eq ha,ex_eq this,Rat.natCast_mul,Rat.intCast_natCast]
 grind
theorem Zua{D:Nat}(a:Rat)(h:a.num=0):ex D a=0:=by unfold ex;rw[h];simp
theorem Zoh(D:Nat):∀ (ps:List Int) (l:List Rat),vt (Qs D ps l)=vp ps (l.map (ex D))
 | [],_=>rfl
 | _::_,[]=>rfl
 | p::ps,q::l=>by
  have ih:=Zoh D ps l;unfold Qs at ih ⊢;rw[List.zip_cons_cons,List.filterMap_cons]
  by_cases h:q.num=0
  ·simp only[h,if_true,List.map_cons,vp];rw[ih,Zua q h,Rat.zpow_zero,Rat.one_mul]
  ·simp only[h,if_false,List.map_cons,vp,vt];rw[ih];rfl
theorem Zyx(l:List Rat):∀ d:Nat,d ∣ l.foldl (fun d q=>Nat.lcm d q.den) d∧∀ q∈l,q.den ∣ l.foldl (fun d q=>Nat.lcm d q.den) d:=by
 induction l with
 | nil=>intro d;exact⟨Nat.dvd_refl _,by simp⟩
 | cons a l ih =>
  intro d;obtain⟨h1,h2⟩:=ih (Nat.lcm d a.den);refine⟨Nat.dvd_trans (Nat.dvd_lcm_left ..) h1,fun q hq=>?_⟩
  rcases List.mem_cons.1 hq with rfl|hq
  ·exact Nat.dvd_trans (Nat.dvd_lcm_right ..) h1
  ·exact h2 q hq
theorem tden_dvd{l:List Rat}{q:Rat}(h:q∈l):q.den ∣ Qc l:=(Zyx l 1).2 q h
theorem Zp5(l:List Rat):∀ (D d:Nat),d ∣ D→(∀ q∈l,q.den ∣ D)→l.foldl (fun d q=>Nat.lcm d q.den) d ∣ D:=by
 induction l with
 | nil=>intro D d h _;exact h
 | cons a l ih =>
  intro D d h h2;exact ih D _ (Nat.lcm_dvd h (h2 a List.mem_cons_self)) fun q hq=>h2 q (List.mem_cons_of_mem _ hq)
theorem tden_min{l:List Rat}{D:Nat}(h:∀ q∈l,q.den ∣ D):Qc l ∣ D:=Zp5 l D 1 (Nat.one_dvd _) h
theorem tden_pos'(l:List Rat):0<Qc l:=by
 have:∀ (l:List Rat) (d:Nat),0<d→0<l.foldl (fun d q=>Nat.lcm d q.den) d:=by
  intro l
  induction l with
  | nil=>intro d h;exact h
  | cons a l ih=>intro d h;exact ih _ (Nat.lcm_pos h a.den_pos)
 exact this l 1 Nat.one_pos
def sz (ps:List Int) (l:List Rat):Int:=signT (Qs (Qc l) ps l)
theorem Zr3{D:Nat}{ps:List Int}{l:List Rat}(hp:∀ p∈ps,0<p):∀ x∈Qs D ps l,0<x.1:=by
 intro x hx;unfold Qs at hx;obtain⟨y,hy,he⟩:=List.mem_filterMap.1 hx;have h1:=(List.of_mem_zip hy).1;split at he
 ·cases he
 ·cases he;exact hp _ h1
theorem Qcc{ps:List Int}{l:List Rat}{D:Nat}(hp:∀ p∈ps,0<p)(hD:0<D)(h:∀ q∈l,q.den ∣ D):sz ps l=sg (vp ps (l.map (ex D))):=by
 unfold sz;rw[Zvq _ (Zr3 hp),Zoh];obtain⟨m,rfl⟩:=tden_min h;have hm:0<m:=Nat.pos_of_mul_pos_left hD;have e:l.map (ex (Qc l*m))=(l.map (ex (Qc l))).map fun k=>(m:Int)*k:=by
  rw[List.map_map];refine List.map_congr_left fun q hq=>?_
  rw[Nat.mul_comm,ex_mul (tden_dvd hq)];rfl
 rw[e,Zoi _ _ hp,Qaq (Zxv _ _ hp) hm]
theorem sz_zero{ps:List Int}{l:List Rat}(hp:∀ p∈ps,0<p)(h:∀ q∈l,q=0):sz ps l=0:=by
 rw[Qcc hp (tden_pos' l) fun q hq=>tden_dvd hq,Zmj,Zsl]
 intro k hk;obtain⟨q,hq,rfl⟩:=List.mem_map.1 hk;exact Zua q (by rw[h q hq];rfl)
end Go.Proofs.YtnjedhgcfeoemaaGreatDoor.LN

namespace Go.Proofs.YtnjedhgcfeoemaaGreatDoor.LN
theorem Zcl{x:Rat}(hx:x≠0)(a:Int):∀ n:Nat,(x^a)^n=x^(a*n)
 | 0=>by simp
 | n+1=>by
  rw[Rat.pow_succ,Zcl hx a n,← Rat.zpow_add hx];congr 1;rw[Int.natCast_add,Int.mul_add];simp
theorem Zkf{x:Rat}(hx:x≠0)(a b:Int):(x^a)^b=x^(a*b):=by
 rcases Int.eq_nat_or_neg b with⟨n,rfl|rfl⟩
 ·rw[Rat.zpow_natCast,Zcl hx]
 ·rw[Rat.zpow_neg,Rat.zpow_natCast,Zcl hx,← Rat.zpow_neg];congr 1;rw[Int.mul_neg]
theorem Zkm:(2:Rat)≠0:=by decide
theorem Zf6{a:Int}(h:0<a):(1:Rat)<2^a:=by
 obtain⟨n,rfl⟩:=Int.eq_ofNat_of_zero_le (Int.le_of_lt h);rw[Rat.zpow_natCast];exact Zic (by decide) n (by omega)
theorem Zf7{a:Int}(h:a<0):(2:Rat)^a<1:=by
 have h1:=Zf6 (a := -a) (by omega)
 have h2:(2:Rat)^a*2^(-a)=1:=by rw[← Rat.zpow_add Zkm];simp[Int.add_right_neg]
 have h3:(0:Rat)<2^a:=Rat.zpow_pos (by decide)
 refine Rat.not_le.1 fun h4=>?_
 have h5:=Rat.mul_le_mul_of_nonneg_right h4 (c:=2^(-a)) (by grind)
 grind
theorem Zgo{x y:Rat}(h0:0<x)(h:x≤y):∀ n:Nat,x^n≤y^n
 | 0=>by rw[Rat.pow_zero,Rat.pow_zero];exact Rat.le_refl
 | n+1=>by
  have ih:=Zgo h0 h n;rw[Rat.pow_succ,Rat.pow_succ];have h1:=Rat.mul_le_mul_of_nonneg_right ih (c:=x) (by grind)
  have h2:=Rat.mul_le_mul_of_nonneg_left h (c:=y^n) (Rat.le_of_lt (Rat.pow_pos (by grind)))
  exact Rat.le_trans h1 h2
theorem Zev{x y:Rat}(h0:0<x)(h:x≤y):y⁻¹≤x⁻¹:=by
 have hy:0<y:=by grind
 have h1:=Rat.inv_pos.2 h0;have h2:=Rat.inv_pos.2 hy;have e1:=Rat.mul_inv_cancel x (by grind)
 have e2:=Rat.mul_inv_cancel y (by grind)
 have h3:=Rat.mul_le_mul_of_nonneg_right h (c:=x⁻¹ * y⁻¹) (Rat.le_of_lt (Rat.mul_pos h1 h2));have e3:x*(x⁻¹ * y⁻¹)=y⁻¹:=by rw[← Rat.mul_assoc,e1,Rat.one_mul]
 have e4:y*(x⁻¹ * y⁻¹)=x⁻¹:=by rw[Rat.mul_comm x⁻¹,← Rat.mul_assoc,e2,Rat.one_mul]
 rw[e3,e4] at h3;exact h3
theorem Zci{x y:Rat}(h0:0<x)(h:x≤y){j:Int}(hj:j≤0):y^j≤x^j:=by
 obtain⟨n,hn⟩:=Int.eq_ofNat_of_zero_le (a := -j) (by omega)
 have e:j = -(n:Int):=by omega
 rw[e,Rat.zpow_neg,Rat.zpow_neg,Rat.zpow_natCast,Rat.zpow_natCast];exact Zev (Rat.pow_pos h0) (Zgo h0 h n)
structure Btw (v:Rat) (a b:Int):Prop where
 pos:0<v
 lo:2^a≤v
 hi:v≤2^b
theorem Btw.inv{v:Rat}{a b:Int}(h:Btw v a b):Btw v⁻¹ (-b) (-a):=by
 refine⟨Rat.inv_pos.2 h.pos,?_,?_⟩
 ·rw[Rat.zpow_neg];exact Zev h.pos h.hi
 ·rw[Rat.zpow_neg];exact Zev (Rat.zpow_pos (by decide)) h.lo
theorem Btw.zpow_neg{v:Rat}{a b:Int}(h:Btw v a b){j:Int}(hj:j≤0):Btw (v^j) (j*b) (j*a):=by
 refine⟨Rat.zpow_pos h.pos,?_,?_⟩
 ·rw[Int.mul_comm,← Zkf Zkm];exact Zci h.pos h.hi hj
 ·rw[Int.mul_comm,← Zkf Zkm];exact Zci (Rat.zpow_pos (by decide)) h.lo hj
theorem Btw.mul{v u:Rat}{a b c d:Int}(h:Btw v a b)(k:Btw u c d):Btw (v*u) (a+c) (b+d):=by
 refine⟨Rat.mul_pos h.pos k.pos,?_,?_⟩
 ·rw[Rat.zpow_add Zkm];have h1:=Rat.mul_le_mul_of_nonneg_right h.lo (c:=2^c) (Rat.le_of_lt (Rat.zpow_pos (by decide)))
  have h2:=Rat.mul_le_mul_of_nonneg_left k.lo (c:=v) (Rat.le_of_lt h.pos);exact Rat.le_trans h1 h2
 ·rw[Rat.zpow_add Zkm];have h1:=Rat.mul_le_mul_of_nonneg_right h.hi (c:=u) (Rat.le_of_lt k.pos);have h2:=Rat.mul_le_mul_of_nonneg_left k.hi (c:=2^b) (Rat.le_of_lt (Rat.zpow_pos (by decide)))
  exact Rat.le_trans h1 h2
theorem Btw.lt{v:Rat}{a b:Int}(h:Btw v a b)(hb:b<0):v<1:=by
 have:=Zf7 hb
 have:=h.hi
 grind
def eLo (f:Int→Nat) (l:List (Int×Int)):Int:=(l.map fun x=>if x.2<0 then x.2*(hiL f x.1:Int) else x.2*(f x.1:Int)).sum
def eHi (f:Int→Nat) (l:List (Int×Int)):Int:=(l.map fun x=>if x.2<0 then x.2*(f x.1:Int) else x.2*(hiL f x.1:Int)).sum
theorem Zh1(k:Int)(a b:Nat):(if k<0 then k*(b:Int) else k*(a:Int))=((k.toNat*a:Nat):Int)-(((-k).toNat*b:Nat):Int):=by
 by_cases h:k<0
 ·rw[if_pos h,show k.toNat=0 by omega]
  have e:((-k).toNat:Int) = -k:=Int.toNat_of_nonneg (by omega)
  rw[Int.natCast_mul,Int.natCast_mul,e]
  grind
 ·rw[if_neg h,show (-k).toNat=0 by omega]
  have e:(k.toNat:Int)=k:=Int.toNat_of_nonneg (by omega)
  rw[Int.natCast_mul,Int.natCast_mul,e]
  grind
theorem eLo_eq(f:Int→Nat):∀ l:List (Int×Int),eLo f l=(loS f l:Int)-(hiS f (negT l):Int)
 | []=>rfl
 | x::l=>by
  have ih:=eLo_eq f l;unfold eLo at ih ⊢;have e:negT (x::l)=(x.1,-x.2)::negT l:=rfl;rw[List.map_cons,List.sum_cons,ih,e,loS,hiS,Zh1]
  dsimp only
  omega
theorem eHi_eq(f:Int→Nat):∀ l:List (Int×Int),eHi f l=(hiS f l:Int)-(loS f (negT l):Int)
 | []=>rfl
 | x::l=>by
  have ih:=eHi_eq f l;unfold eHi at ih ⊢;have e:negT (x::l)=(x.1,-x.2)::negT l:=rfl;rw[List.map_cons,List.sum_cons,ih,e,hiS,loS,Zh1]
  dsimp only
  omega
def quoL (xl yl yh g d:Int):Int:=xl*g/((if xl<0 then yl else yh)*d)
def quoH (xh yl yh g d:Int):Int:=xh*g/((if xh<0 then yh else yl)*d)
end Go.Proofs.YtnjedhgcfeoemaaGreatDoor.LN

namespace Go.Proofs.YtnjedhgcfeoemaaGreatDoor
open Go.RowKit Go.Shelf
attribute [local go_sem] Oper.semAt_some
def lf (n:Nat):Int→Nat:=fun p=>lgN p n
structure Zpy (B:Nat) (n:Int) (slo shi:ByteArray) (W:World):Prop where
 c3:W.cell? ⟨B+1,0,none⟩=some (.int .i64 n)
 c4:W.cell? ⟨B+1+1,0,none⟩=some (.string slo)
 c5:W.cell? ⟨B+1+1+1,0,none⟩=some (.string shi)
 f4:W.frozen? ⟨B+1+1,0,none⟩=false
 f5:W.frozen? ⟨B+1+1+1,0,none⟩=false
 sz:B+4<W.heap.size
theorem Zpy.below{B:Nat}{n:Int}{slo shi:ByteArray}{W W':World}(h:Zpy B n slo shi W)(hb:Below W.heap.size W W'):Zpy B n slo shi W' :=
 ⟨(hb.cell (block_lt_of_cell h.c3)).trans h.c3,(hb.cell (block_lt_of_cell h.c4)).trans h.c4,(hb.cell (block_lt_of_cell h.c5)).trans h.c5,
  (hb.frozen (block_lt_of_cell h.c4)).trans h.f4,(hb.frozen (block_lt_of_cell h.c5)).trans h.f5,Nat.lt_of_lt_of_le h.sz hb.size⟩
theorem Zpy.kept{B:Nat}{n:Int}{slo shi:ByteArray}{W W':World}{row:Option Nat}(h:Zpy B n slo shi W)(hg:W.grownBy W' row)(hr:∀ r,row=some r→∃ o:Obj,W.heap[r]?=some o∧o.isCells=false):Zpy B n slo shi W' :=
 ⟨cell_kept h.c3 hg hr,cell_kept h.c4 hg hr,cell_kept h.c5 hg hr,(frozen_kept h.c4 hg hr).trans h.f4,(frozen_kept h.c5 hg hr).trans h.f5,Nat.lt_of_lt_of_le h.sz hg.size⟩
theorem Zpy.stored{B:Nat}{n:Int}{slo shi:ByteArray}{W:World}(h:Zpy B n slo shi W)(s t:ByteArray):
  Zpy B n s t ((W.setCell ⟨B+1+1,0,none⟩ (.string s)).setCell ⟨B+1+1+1,0,none⟩ (.string t)):=by
 refine⟨?_,?_,?_,?_,?_,?_⟩
 ·rw[World.cell?_setCell_other _ _ _ _ (by simp),World.cell?_setCell_other _ _ _ _ (by simp)];exact h.c3
 ·rw[World.cell?_setCell_other _ _ _ _ (by simp),World.cell?_setCell_same _ _ _ h.c4]
 ·rw[World.cell?_setCell_same _ _ _ (by rw[World.cell?_setCell_other _ _ _ _ (by simp)];exact h.c5)]
 ·rw[World.frozen?_setCell,World.frozen?_setCell];exact h.f4
 ·rw[World.frozen?_setCell,World.frozen?_setCell];exact h.f5
 ·rw[World.size_setCell,World.size_setCell];exact h.sz
theorem Zjw{B:Nat}{W0 W W4:World}(hB:W0.heap.size=B)(hb:Below W0.heap.size W0 W)(GJ:B+4<W.heap.size)(h:Below W.heap.size W W4)(v5 v6:Value):
  KT B (B+4) W ((W4.setCell ⟨B+1+1,0,none⟩ v5).setCell ⟨B+1+1+1,0,none⟩ v6):=by
 subst hB;refine⟨((h.mono hb.size).setCell (p:=⟨W0.heap.size+1+1,0,none⟩) (by show _≤W0.heap.size+1+1;omega) _).setCell (p:=⟨W0.heap.size+1+1+1,0,none⟩) (by show _≤W0.heap.size+1+1+1;omega) _,?_⟩
 rw[Zq (g:=W0.heap.size+1+1+1) (k:=W0.heap.size+4) (by omega),Zq (g:=W0.heap.size+1+1) (k:=W0.heap.size+4) (by omega),h.block _ GJ]
theorem Qbx(w:World)(o1:Obj)(v2 v3 v4:Value)(t2 t3 t4:TypeId)(W:World)(hW:(((w.alloc o1).alloc (.cells #[v2] t2)).alloc (.cells #[v3] t3)).alloc (.cells #[v4] t4)=W):
  W.heap[w.heap.size+1]?=some (.cells #[v2] t2 (0,0))∧W.heap[w.heap.size+1+1]?=some (.cells #[v3] t3 (0,0))∧W.heap[w.heap.size+1+1+1]?=some (.cells #[v4] t4 (0,0)):=by
 subst hW;exact⟨Kl (Kl (Qq _ _ _ _ (by simp)) _) _,Kl (Qq _ _ _ _ (by simp)) _,Qq _ _ _ _ (by simp)⟩
def PrT (tl:List (Int×Int)):Prop:=∀ x∈tl,∃ q:Nat,x.1=q∧(q=2∨q∈Yp)
theorem Zw2(f:Int→Nat)(l:List (Int×Int))(x:Int×Int):LN.eLo f (l++[x])=LN.eLo f l+(if x.2<0 then x.2*(LN.hiL f x.1:Int) else x.2*(f x.1:Int)):=by simp[LN.eLo]
theorem Zw4(f:Int→Nat)(l:List (Int×Int))(x:Int×Int):LN.eHi f (l++[x])=LN.eHi f l+(if x.2<0 then x.2*(f x.1:Int) else x.2*(LN.hiL f x.1:Int)):=by simp[LN.eHi]
theorem Zze{n:Nat}{p:Int}(hp:∃ q:Nat,p=q∧(q=2∨q∈Yp))(hn:n≤1056):lf n p<2^(n+3)∧LN.hiL (lf n) p<2^(n+3):=by
 obtain⟨q,rfl,hq⟩:=hp;have h:=Zgx hq hn;have e:2^(n+3)=8*2^n:=by rw[Nat.pow_add,Nat.mul_comm]
 have h1:=Nat.two_pow_pos n;have h2:lf n q<7*2^n:=h;refine⟨by omega,?_⟩
 unfold LN.hiL;split<;>omega
theorem Zas{k:Int}{a E F:Nat}(hk:k.natAbs<2^E)(ha:a<2^F):(k*(a:Int)).natAbs<2^(E+F):=by
 rw[Int.natAbs_mul,Int.natAbs_natCast,Nat.pow_add];exact Nat.mul_lt_mul'' hk ha
theorem Zuf{n E:Nat}(hn:n≤1056):∀ l:List (Int×Int),PrT l→(∀ x∈l,x.2.natAbs<2^E)→(LN.eLo (lf n) l).natAbs≤l.length*2^(E+(n+3))∧(LN.eHi (lf n) l).natAbs≤l.length*2^(E+(n+3))
 | [],_,_=>by simp[LN.eLo,LN.eHi]
 | x::l,hp,hk=>by
  have ih:=Zuf hn l (fun y hy=>hp y (List.mem_cons_of_mem _ hy)) (fun y hy=>hk y (List.mem_cons_of_mem _ hy))
  obtain⟨h1,h2⟩:=Zze (hp x List.mem_cons_self) hn;have hx:=hk x List.mem_cons_self;have a1:=Zas hx h1;have a2:=Zas hx h2;have e1:LN.eLo (lf n) (x::l)=(if x.2<0 then x.2*(LN.hiL (lf n) x.1:Int) else x.2*(lf n x.1:Int))+LN.eLo (lf n) l:=by simp[LN.eLo]
  have e2:LN.eHi (lf n) (x::l)=(if x.2<0 then x.2*(lf n x.1:Int) else x.2*(LN.hiL (lf n) x.1:Int))+LN.eHi (lf n) l:=by simp[LN.eHi]
  rw[e1,e2,List.length_cons,Nat.add_mul,Nat.one_mul];generalize 2^(E+(n+3))=T at *
  generalize l.length*T=S at *
  constructor
  ·refine Nat.le_trans (Int.natAbs_add_le _ _) ?_;split<;>omega
  ·refine Nat.le_trans (Int.natAbs_add_le _ _) ?_;split<;>omega
theorem Zj0{n E:Nat}(hn:n≤1056)(l:List (Int×Int))(hl:l.length≤1000)(hp:PrT l)(hk:∀ x∈l,x.2.natAbs<2^E):
  (LN.eLo (lf n) l).natAbs<2^(E+(n+3)+10)∧(LN.eHi (lf n) l).natAbs<2^(E+(n+3)+10):=by
 obtain⟨h1,h2⟩:=Zuf hn l hp hk;have h3:l.length*2^(E+(n+3))≤1000*2^(E+(n+3)):=Nat.mul_le_mul_right _ hl;have e:2^(E+(n+3)+10)=1024*2^(E+(n+3)):=by rw[Nat.pow_add _ _ 10,Nat.mul_comm]
 have h4:=Nat.two_pow_pos (E+(n+3));rw[e];constructor<;>omega
theorem Zpy.cast{B:Nat}{n:Int}{s s' t t':ByteArray}{W:World}(h:Zpy B n s t W)(e1:s'=s)(e2:t'=t):Zpy B n s' t' W:=by subst e1;subst e2;exact h
theorem Zym(w:World)(a b:Int)(K:Nat)(hK:K<90000)(ha:a.natAbs<2^K)(hb:b.natAbs<2^K)(L:Qd w):Kc Tryz.prog 20 #[.string (itx a),.string (itx b)] w (.string (itx (a+b))) :=
 Zf1 w a b (Vf ha (by omega)) (Vf hb (by omega)) (Vf (K:=K+1) (by rw[Nat.pow_succ];omega) (by omega)) L
theorem Qb8(w:World)(a b:Int)(K M:Nat)(hK:K+M<90000)(ha:a.natAbs<2^K)(hb:b.natAbs<2^M)(L:Qd w):Kc Tryz.prog 115 #[.string (itx a),.string (itx b)] w (.string (itx (a*b))) :=
 Yx w a b (Vf ha (by omega)) (Vf hb (by omega)) (Vf (K:=K+M) (by rw[Int.natAbs_mul,Nat.pow_add];exact Nat.mul_lt_mul'' ha hb) (by omega)) L
def Znv (w:World) (b1 b2:Option Addr) (d1 d2 D m:Nat) (n:Int) (p:Int) (k:ByteArray):Act:={ tmps := #[.agg (Kr b1 d1 b2 d2 m D),.int .i64 n,.pointer (some ⟨w.heap.size,0,none⟩),.pointer (some ⟨w.heap.size+1,0,none⟩),.pointer (some ⟨w.heap.size+1+1,0,none⟩),.pointer (some ⟨w.heap.size+1+1+1,0,none⟩),.int .i64 p,.string k,undef,undef,.agg #[.slice b1 m d1,.slice b2 m d2,.string (dec D)],.func (.func 241) #[] #[.pointer (some ⟨w.heap.size+1+1+1+1,0,none⟩)],.int .i64 p,.string k,undef,undef,undef,undef,undef,undef,undef,undef,undef,undef,undef,undef,undef,undef,undef,undef,undef,undef,undef,undef,undef,undef,undef,undef,undef,undef,undef],defers:=[] }
theorem Zjy(w:World)(b1 b2:Option Addr)(d1 d2 D n E:Nat)(tl:List (Int×Int))(T:Vq w tl b1 b2)(hP:PrT tl)(hE:E≤20000)(hK:∀ x∈tl,x.2.natAbs<2^E)(hn:n≤1056)(L:Qd w):
  Kc Tryz.prog 172 #[.agg (Kr b1 d1 b2 d2 tl.length D),.int .i64 n] w (.tuple #[.string (itx (LN.eLo (lf n) tl)),.string (itx (LN.eHi (lf n) tl))]):=by
 unfold Kc;have dN:=T.r1;have En:=T.r2;have hl:=T.len;refine(callsIn_wide (n:=3)).1 ?_;refine callsIn_of_wp_marks Tryz.func172 rfl trivial ?_ rfl;simp only[Tryz.ntmps172,List.size_toArray,List.length_cons,List.length_nil,Nat.reduceAdd,Nat.reduceSub,Array.replicate_succ,Array.replicate_zero,List.push_toArray,List.append_toArray,List.nil_append,List.cons_append];have HT:=hd_ T;have HL:=hd_ L;have Hn:=hd_ hn;have HE:=hd_ hE;have HP:=hd_ hP;have HK:=hd_ hK;have H0:Hid (itx 0=⟨#[48]⟩):=by show _=_;rw[show (0:Int)=((0:Nat):Int) from rfl,Kj,Zc6]
 clear L T hn hE hK hP
 gi_wp2_with fail
 obtain⟨w0,EU⟩:∃ w0,(((w.alloc (Obj.cells (Kr b1 d1 b2 d2 tl.length D) 163)).alloc (Obj.cells #[Value.int IntKind.i64 n] 3)).alloc (Obj.cells #[Value.string ⟨#[48]⟩] 25)).alloc (Obj.cells #[Value.string ⟨#[48]⟩] 25)=w0:=⟨_,rfl⟩;have FY:w0.heap.size=w.heap.size+4:=by rw[← EU];simp
 have iT:Below w.heap.size w w0:=by rw[← EU];exact((((Below.refl _ w).alloc nr_ _).alloc (by simp) _).alloc (by simp;omega) _).alloc (by simp;omega) _
 have cC:=Qbx w _ _ _ _ _ _ _ w0 EU;rw[EU];refine⟨trivial,?_⟩;refine(callsIn_wide.2 (Zu1 w0 b1 b2 d1 d2 tl.length D)).mono ?_;rintro e w' ⟨rfl,rfl⟩;rw[FY];have an:(w0.alloc (.cells (Kr b1 d1 b2 d2 tl.length D) 163)).heap[w.heap.size+4]?=some (.cells (Kr b1 d1 b2 d2 tl.length D) 163 (0,0)):=by
  rw[← FY];exact Go.heap_alloc_new w0 _
 have GK:Below w.heap.size w (w0.alloc (.cells (Kr b1 d1 b2 d2 tl.length D) 163)):=iT.alloc (by omega) _
 have Gy:(w0.alloc (.cells (Kr b1 d1 b2 d2 tl.length D) 163)).heap.size=w.heap.size+5:=by rw[World.size_alloc,FY]
 have cI:Zpy w.heap.size n (itx (LN.eLo (lf n) [])) (itx (LN.eHi (lf n) [])) (w0.alloc (.cells (Kr b1 d1 b2 d2 tl.length D) 163)):=by
  obtain⟨h1,h2,h3⟩:=cC;have h1:=Kl h1 (.cells (Kr b1 d1 b2 d2 tl.length D) 163);have h2:=Kl h2 (.cells (Kr b1 d1 b2 d2 tl.length D) 163);have h3:=Kl h3 (.cells (Kr b1 d1 b2 d2 tl.length D) 163);have e1:itx (LN.eLo (lf n) [])=⟨#[48]⟩:=H0.out;have e2:itx (LN.eHi (lf n) [])=⟨#[48]⟩:=H0.out;rw[e1,e2];exact⟨(Yw h1).1,(Yw h2).1,(Yw h3).1,(Yw h2).2,(Yw h3).2,by rw[Gy];omega⟩
 clear iT EU cC H0;generalize w0.alloc (.cells (Kr b1 d1 b2 d2 tl.length D) 163)=w1 at *
 gi_wp2_with fail
 refine wpIn_rangeFunc_ownF rfl (by decide) (gf:=241) (lb := #[.pointer (some ⟨w.heap.size+4,0,none⟩)]) rfl trivial (enters_of Tryz.func241 (by kernel_rfl) rfl)
  (Zmc 2 (by decide) w w1 GK (w.heap.size+4) b1 b2 d1 d2 D tl hl an dN En) Qc2 (Qc3 (by rw[Gy];omega) (by rw[Gy];omega)) (Below.refl _ _) (fun _=>rfl)
  (fun pre W=>Zpy w.heap.size n (itx (LN.eLo (lf n) (pre.map Subtype.val))) (itx (LN.eHi (lf n) (pre.map Subtype.val))) W∧Below w.heap.size w W)
  (fun _ _ W=>False∧Below w.heap.size w W)
  (OwnFrom.and (Own.from (fun s A B row hs hg hr=>hs.kept hg hr) _) (ownFrom_below nr_ (by rw[Gy];omega)))
  (fun c=>OwnFrom.and (Own.from (fun s A B row hs hg hr=>hs.elim) _) (ownFrom_below nr_ (by rw[Gy];omega)))
  ⟨cI,GK⟩
  (fun x=>Znv w b1 b2 d1 d2 D tl.length n x.1.1 (itx x.1.2)) ?assign ?body ?done ?stop
 case assign =>
  intro l x W K hK;unfold Znv at hK
  gi_wp2
  exact hK
 case body =>
  rintro l pre ⟨⟨p,k⟩,Gq⟩ W0 ⟨hI,hB⟩ gh;have HI:=hd_ hI;have HB:=hd_ hB;have Dm:=HP.out _ Gq;have Dp:=HK.out _ Gq;simp only at Dm Dp;have hn:=Hn.out;have hE:=HE.out;obtain⟨g1,g2⟩:=Zze Dm hn;have BO:∀ x∈pre.map Subtype.val,x∈tl:=fun x hx=>by
   obtain⟨y,_,rfl⟩:=List.mem_map.1 hx;exact y.2
  have EM:(pre.map Subtype.val).length≤1000:=by rw[List.length_map];omega
  obtain⟨s1,s2⟩:=Zj0 hn (pre.map Subtype.val) EM (fun x hx=>HP.out x (BO x hx)) (fun x hx=>HK.out x (BO x hx))
  have e1:LN.eLo (lf n) ((pre++[(⟨(p,k),Gq⟩:{x // x∈tl})]).map Subtype.val)=LN.eLo (lf n) (pre.map Subtype.val)+(if k<0 then (LN.hiL (lf n) p:Int)*k else (lf n p:Int)*k):=by
   rw[List.map_append];have:=Zw2 (lf n) (pre.map Subtype.val) (p,k)
   simp only at this;rw[Int.mul_comm k,Int.mul_comm k] at this;exact this
  have e2:LN.eHi (lf n) ((pre++[(⟨(p,k),Gq⟩:{x // x∈tl})]).map Subtype.val)=LN.eHi (lf n) (pre.map Subtype.val)+(if k<0 then (lf n p:Int)*k else (LN.hiL (lf n) p:Int)*k):=by
   rw[List.map_append];have:=Zw4 (lf n) (pre.map Subtype.val) (p,k)
   simp only at this;rw[Int.mul_comm k,Int.mul_comm k] at this;exact this
  have EJ:Hid (∀ W,Below w.heap.size w W→Kc Tryz.prog 212 #[.int .i64 p,.int .i64 n] W (.string (dec (lf n p)))):=fun W hW=>by
   obtain⟨q,rfl,hq⟩:=Dm;exact Zzc W q n hq hn (HL.out.below hW)
  have GS:Hid (∀ W,Below w.heap.size w W→Kc Tryz.prog 115 #[.string (dec (lf n p)),.string (itx k)] W (.string (itx ((lf n p:Int)*k)))):=fun W hW=>by
   have:=Qb8 W (lf n p:Int) k (n+3) E (by omega) (by rw[Int.natAbs_natCast];exact g1) Dp (HL.out.below hW)
   rw[Kj] at this;exact this
  have GH:Hid (∀ W,Below w.heap.size w W→Kc Tryz.prog 115 #[.string (dec (LN.hiL (lf n) p)),.string (itx k)] W (.string (itx ((LN.hiL (lf n) p:Int)*k)))):=fun W hW=>by
   have:=Qb8 W (LN.hiL (lf n) p:Int) k (n+3) E (by omega) (by rw[Int.natAbs_natCast];exact g2) Dp (HL.out.below hW)
   rw[Kj] at this;exact this
  have Ga:Hid (∀ W,Below w.heap.size w W→Kc Tryz.prog 84 #[.string (itx k)] W (.int .i64 k.sign)):=fun W _=>Yk W k
  have t1:((lf n p:Int)*k).natAbs<2^(E+(n+3)+10):=by
   have:=Zas Dp g1
   rw[Int.mul_comm] at this;exact Nat.lt_of_lt_of_le this (Nat.pow_le_pow_right (by decide) (by omega))
  have t2:((LN.hiL (lf n) p:Int)*k).natAbs<2^(E+(n+3)+10):=by
   have:=Zas Dp g2
   rw[Int.mul_comm] at this;exact Nat.lt_of_lt_of_le this (Nat.pow_le_pow_right (by decide) (by omega))
  have hF:E+(n+3)+10<90000:=by omega
  have one:1<2^(n+3):=Nat.one_lt_two_pow (by omega)
  have Gl:Hid (∀ W,Below w.heap.size w W→Kc Tryz.prog 20 #[.string (dec (lf n p)),.string ⟨#[49]⟩] W (.string (dec (lf n p+1)))):=fun W hW=>by
   have:=Zxp W (lf n p) 1 (n+3) (by omega) g1 one (HL.out.below hW)
   rw[Vg] at this;exact this
  generalize E+(n+3)+10=F at *
  unfold Znv;have ET:=hd_ (Below.refl W0.heap.size W0);have G3:=HI;have Ei:=HB;have fL:(k.sign = -1∧k<0)∨(0≤k.sign∧k.sign≤1∧¬ k<0):=by
   rcases Int.lt_trichotomy k 0 with h|h|h
   ·exact .inl ⟨Int.sign_eq_neg_one_of_neg h,h⟩
   ·subst h;exact .inr ⟨by decide,by decide,by decide⟩
   ·rw[Int.sign_eq_one_of_pos h];exact .inr ⟨by decide,by decide,by omega⟩
  clear hI hB dN En cI GK an Dm Dp BO g1 g2 one;have Ge:=G3.out.c3;have gU:=G3.out.c4;have gT:=G3.out.c5;have gS:=G3.out.f4;have gR:=G3.out.f5;have DG:Hid (∀ W,Below w.heap.size w W→Qd W):=fun W hW=>HL.out.below hW
  by_cases Gn:p=2
  ·subst Gn;have hH:LN.hiL (lf n) 2=lf n 2:=by unfold LN.hiL;rw[if_pos rfl]
   rw[hH] at GH e1 e2 t2;clear hH;rcases fL with⟨hs,hk⟩|⟨eG,fg,hk⟩
   ·rw[if_pos hk] at e1 e2;rw[hs] at Ga;clear hs;have eU:Hid (∀ W,Below w.heap.size w W→Kc Tryz.prog 20 #[.string (itx (LN.eLo (lf n) (pre.map Subtype.val))),.string (itx ((lf n 2:Int)*k))] W (.string (itx ((LN.eLo (lf n) (pre.map Subtype.val))+(lf n 2:Int)*k)))):=fun W hW=>Zym W _ _ F hF s1 t2 (DG.out W hW)
    have eT:Hid (∀ W,Below w.heap.size w W→Kc Tryz.prog 20 #[.string (itx (LN.eHi (lf n) (pre.map Subtype.val))),.string (itx ((lf n 2:Int)*k))] W (.string (itx ((LN.eHi (lf n) (pre.map Subtype.val))+(lf n 2:Int)*k)))):=fun W hW=>Zym W _ _ F hF s2 t1 (DG.out W hW)
    rw[← e1] at eU;rw[← e2] at eT;clear e1 e2 s1 s2 t1 t2 DG gh EM hF;obtain⟨slo2,GR⟩:∃ s,itx (LN.eLo (lf n) ((pre++[(⟨(2,k),Gq⟩:{x // x∈tl})]).map Subtype.val))=s:=⟨_,rfl⟩;obtain⟨shi2,Gh⟩:∃ s,itx (LN.eHi (lf n) ((pre++[(⟨(2,k),Gq⟩:{x // x∈tl})]).map Subtype.val))=s:=⟨_,rfl⟩;rw[GR] at eU;rw[Gh] at eT;have Bz:=hd_ GR;have aQ:=hd_ Gh;clear GR Gh;generalize itx (LN.eLo (lf n) (pre.map Subtype.val))=slo at *
    generalize itx (LN.eHi (lf n) (pre.map Subtype.val))=shi at *
    generalize itx k=sk at *
    generalize itx ((lf n 2:Int)*k)=sa at *
    generalize dec (lf n 2)=sL at *
    clear Gl
    gi_wp2_with fail
    refine⟨trivial,?_⟩;refine(CallsIn.inRound l (callsIn_wide.2 (EJ.out W0 Ei.out))).mono ?_;rintro e W1 ⟨rfl,hb⟩;have fp:=hd_ (G3.out.below hb);have ff:=hd_ (Ei.out.trans (hb.mono Ei.out.size));have Fv:=hd_ (ET.out.trans (hb.mono ET.out.size));clear hb Ge gU gT gS gR EJ G3 Ei ET;have Ge:=fp.out.c3;have gU:=fp.out.c4;have gT:=fp.out.c5;have gS:=fp.out.f4;have gR:=fp.out.f5
    gi_wp2_with fail
    refine⟨trivial,?_⟩;refine(CallsIn.inRound l (callsIn_wide.2 (GS.out W1 ff.out))).mono ?_;rintro e W2 ⟨rfl,hb⟩;have gn:=hd_ (fp.out.below hb);have Gi:=hd_ (ff.out.trans (hb.mono ff.out.size));have fz:=hd_ (Fv.out.trans (hb.mono Fv.out.size));clear hb Ge gU gT gS gR GS fp ff Fv;have Ge:=gn.out.c3;have gU:=gn.out.c4;have gT:=gn.out.c5;have gS:=gn.out.f4;have gR:=gn.out.f5
    gi_wp2_with fail
    refine⟨trivial,?_⟩;refine(CallsIn.inRound l (callsIn_wide.2 (GH.out W2 Gi.out))).mono ?_;rintro e W3 ⟨rfl,hb⟩;have gF:=hd_ (gn.out.below hb);have GC:=hd_ (Gi.out.trans (hb.mono Gi.out.size));have ec:=hd_ (fz.out.trans (hb.mono fz.out.size));clear hb Ge gU gT gS gR GH gn Gi fz;have Ge:=gF.out.c3;have gU:=gF.out.c4;have gT:=gF.out.c5;have gS:=gF.out.f4;have gR:=gF.out.f5
    gi_wp2_with fail
    refine⟨trivial,?_⟩;refine(CallsIn.inRound l (callsIn_wide.2 (Ga.out W3 GC.out))).mono ?_;rintro e W4 ⟨rfl,hb⟩;have Gf:=hd_ (gF.out.below hb);have GB:=hd_ (GC.out.trans (hb.mono GC.out.size));have F':=hd_ (ec.out.trans (hb.mono ec.out.size));clear hb Ge gU gT gS gR Ga gF GC ec;have Ge:=Gf.out.c3;have gU:=Gf.out.c4;have gT:=Gf.out.c5;have gS:=Gf.out.f4;have gR:=Gf.out.f5
    gi_wp2_with fail
    have q0:=@Zo.h;have q9:Nonempty (Zo ⟨w.heap.size+1+1,0,none⟩ (.string slo)):=⟨⟨W4,Gf.out.c4⟩⟩;have q8:Nonempty (Zo ⟨w.heap.size+1+1+1,0,none⟩ (.string shi)):=⟨⟨W4,Gf.out.c5⟩⟩;refine Qo [(8,0),(1,1),(9,3),(1,4),(0,2),(0,5),(0,6),(0,7)]
     [(6,fun w'=>∃ p:Zo ⟨w.heap.size+1+1,0,none⟩ (.string slo),w'=p.w),(7,fun w'=>∃ p:Zo ⟨w.heap.size+1+1+1,0,none⟩ (.string shi),w'=p.w)]
     (by kernel_rfl) (by kernel_rfl) ⟨.inr ⟨⟨{ W4 with drawn:=W4.drawn+1 },Gf.out.c4⟩,rfl⟩,.inr ⟨⟨{ W4 with drawn:=W4.drawn+1 },Gf.out.c5⟩,rfl⟩,trivial⟩ ?_
    refine Qz (s:=6) _ (List.mem_cons_self ..) rfl ?_;simp only[dz_,Kg,tz_]
    go_big_quiet_step (fail)
    refine wpQuiet_nil ?_;refine Vi ?_;simp only[Kh,dz_,Kg,tz_]
    go_big_quiet_step (fail)
    refine wpQuiet_nil ?_;refine Qz (s:=7) _ (List.mem_cons_of_mem _ (List.mem_cons_self ..)) rfl ?_;simp only[Kh,dz_,Kg,tz_]
    go_big_quiet_step (fail)
    refine wpQuiet_nil ?_;refine Vi ?_;simp only[Kh,dz_,Kg,tz_]
    go_big_quiet_step (fail)
    refine wpQuiet_nil ?_;clear q0 q8 q9 Ge gU gT gS gR;obtain⟨V0,Ey⟩:∃ V0:World,{ heap:=W4.heap,tape:=W4.tape,drawn:=W4.drawn+1,os:=W4.os,output:=W4.output }=V0:=⟨_,rfl⟩;rw[Ey];have eM:Below W4.heap.size W4 V0:=by rw[← Ey];exact⟨rfl,rfl,rfl,Nat.le_refl _,fun _ _=>rfl⟩
    have CB:=hd_ (Gf.out.below eM);have eY:=hd_ (GB.out.trans (eM.mono GB.out.size));have E':=hd_ (F'.out.trans (eM.mono F'.out.size));clear Ey eM Gf GB F';refine Qa ?_;simp only[Kh,dz_,Kg,tz_]
    go_wp2_with fail
    refine cm_ (eU.out V0 eY.out) ?_;rintro e V1 ⟨rfl,hb⟩;have eV:=hd_ (CB.out.below hb);have Fi:=hd_ (eY.out.trans (hb.mono eY.out.size));have gC:=hd_ (E'.out.trans (hb.mono E'.out.size));clear hb CB eY E' eU
    go_wp2_with fail
    refine⟨⟨.inr ⟨⟨V1,eV.out.c4⟩,rfl⟩,.inr ⟨⟨V1,eV.out.c5⟩,rfl⟩,trivial⟩,?_⟩;refine Qa ?_;simp only[Kh,dz_,Kg,tz_]
    go_wp2_with fail
    refine cm_ (eT.out V1 Fi.out) ?_;rintro e V2 ⟨rfl,hb⟩;have GI:=hd_ (eV.out.below hb);have fA:=hd_ (Fi.out.trans (hb.mono Fi.out.size));have gG:=hd_ (gC.out.trans (hb.mono gC.out.size));clear hb eV Fi gC eT
    go_wp2_with fail
    refine⟨⟨.inr ⟨⟨V2,GI.out.c4⟩,rfl⟩,.inr ⟨⟨V2,GI.out.c5⟩,rfl⟩,trivial⟩,?_⟩;have gU:=GI.out.c4;have gT:=GI.out.c5;have gS:=GI.out.f4;have gR:=GI.out.f5;refine Qa ?_;simp only[Kh,dz_,Kg,tz_]
    go_wp2_with fail
    have FH:(V2.setCell ⟨w.heap.size+1+1,0,none⟩ (.string slo2)).cell? ⟨w.heap.size+1+1+1,0,none⟩=some (.string shi):=by
     rw[World.cell?_setCell_other _ _ _ _ (by simp)];exact GI.out.c5
    have D7:(V2.setCell ⟨w.heap.size+1+1,0,none⟩ (.string slo2)).frozen? ⟨w.heap.size+1+1+1,0,none⟩=false:=by rw[World.frozen?_setCell];exact GI.out.f5
    refine⟨⟨.inl rfl,.inr ⟨⟨V2.setCell ⟨w.heap.size+1+1,0,none⟩ (.string slo2),FH⟩,rfl⟩,trivial⟩,?_⟩;clear gU gT gS gR;refine Qa ?_;simp only[Kh,dz_,Kg,tz_]
    go_wp2_with fail
    refine⟨⟨.inl rfl,.inl rfl,trivial⟩,?_⟩;simp only[Vs];exact⟨(Qi gG.out).trans ((KeepsOthers.setCell _ _ _).trans (KeepsOthers.setCell _ _ _)),Zjw rfl HB.out HI.out.sz gG.out _ _,(GI.out.stored _ _).cast Bz.out aQ.out,Zao fA.out _ _⟩
   ·rw[if_neg hk] at e1 e2;have en:¬ k.sign<0:=by omega
    have eU:Hid (∀ W,Below w.heap.size w W→Kc Tryz.prog 20 #[.string (itx (LN.eLo (lf n) (pre.map Subtype.val))),.string (itx ((lf n 2:Int)*k))] W (.string (itx ((LN.eLo (lf n) (pre.map Subtype.val))+(lf n 2:Int)*k)))):=fun W hW=>Zym W _ _ F hF s1 t1 (DG.out W hW)
    have eT:Hid (∀ W,Below w.heap.size w W→Kc Tryz.prog 20 #[.string (itx (LN.eHi (lf n) (pre.map Subtype.val))),.string (itx ((lf n 2:Int)*k))] W (.string (itx ((LN.eHi (lf n) (pre.map Subtype.val))+(lf n 2:Int)*k)))):=fun W hW=>Zym W _ _ F hF s2 t2 (DG.out W hW)
    generalize k.sign=sg at *
    rw[← e1] at eU;rw[← e2] at eT;clear e1 e2 s1 s2 t1 t2 DG gh EM hF;obtain⟨slo2,GR⟩:∃ s,itx (LN.eLo (lf n) ((pre++[(⟨(2,k),Gq⟩:{x // x∈tl})]).map Subtype.val))=s:=⟨_,rfl⟩;obtain⟨shi2,Gh⟩:∃ s,itx (LN.eHi (lf n) ((pre++[(⟨(2,k),Gq⟩:{x // x∈tl})]).map Subtype.val))=s:=⟨_,rfl⟩;rw[GR] at eU;rw[Gh] at eT;have Bz:=hd_ GR;have aQ:=hd_ Gh;clear GR Gh;generalize itx (LN.eLo (lf n) (pre.map Subtype.val))=slo at *
    generalize itx (LN.eHi (lf n) (pre.map Subtype.val))=shi at *
    generalize itx k=sk at *
    generalize itx ((lf n 2:Int)*k)=sa at *
    generalize dec (lf n 2)=sL at *
    clear Gl
    gi_wp2_with fail
    refine⟨trivial,?_⟩;refine(CallsIn.inRound l (callsIn_wide.2 (EJ.out W0 Ei.out))).mono ?_;rintro e W1 ⟨rfl,hb⟩;have fp:=hd_ (G3.out.below hb);have ff:=hd_ (Ei.out.trans (hb.mono Ei.out.size));have Fv:=hd_ (ET.out.trans (hb.mono ET.out.size));clear hb Ge gU gT gS gR EJ G3 Ei ET;have Ge:=fp.out.c3;have gU:=fp.out.c4;have gT:=fp.out.c5;have gS:=fp.out.f4;have gR:=fp.out.f5
    gi_wp2_with fail
    refine⟨trivial,?_⟩;refine(CallsIn.inRound l (callsIn_wide.2 (GS.out W1 ff.out))).mono ?_;rintro e W2 ⟨rfl,hb⟩;have gn:=hd_ (fp.out.below hb);have Gi:=hd_ (ff.out.trans (hb.mono ff.out.size));have fz:=hd_ (Fv.out.trans (hb.mono Fv.out.size));clear hb Ge gU gT gS gR GS fp ff Fv;have Ge:=gn.out.c3;have gU:=gn.out.c4;have gT:=gn.out.c5;have gS:=gn.out.f4;have gR:=gn.out.f5
    gi_wp2_with fail
    refine⟨trivial,?_⟩;refine(CallsIn.inRound l (callsIn_wide.2 (GH.out W2 Gi.out))).mono ?_;rintro e W3 ⟨rfl,hb⟩;have gF:=hd_ (gn.out.below hb);have GC:=hd_ (Gi.out.trans (hb.mono Gi.out.size));have ec:=hd_ (fz.out.trans (hb.mono fz.out.size));clear hb Ge gU gT gS gR GH gn Gi fz;have Ge:=gF.out.c3;have gU:=gF.out.c4;have gT:=gF.out.c5;have gS:=gF.out.f4;have gR:=gF.out.f5
    gi_wp2_with fail
    refine⟨trivial,?_⟩;refine(CallsIn.inRound l (callsIn_wide.2 (Ga.out W3 GC.out))).mono ?_;rintro e W4 ⟨rfl,hb⟩;have Gf:=hd_ (gF.out.below hb);have GB:=hd_ (GC.out.trans (hb.mono GC.out.size));have F':=hd_ (ec.out.trans (hb.mono ec.out.size));clear hb Ge gU gT gS gR Ga gF GC ec;have Ge:=Gf.out.c3;have gU:=Gf.out.c4;have gT:=Gf.out.c5;have gS:=Gf.out.f4;have gR:=Gf.out.f5
    gi_wp2_with fail
    have q0:=@Zo.h;have q9:Nonempty (Zo ⟨w.heap.size+1+1,0,none⟩ (.string slo)):=⟨⟨W4,Gf.out.c4⟩⟩;have q8:Nonempty (Zo ⟨w.heap.size+1+1+1,0,none⟩ (.string shi)):=⟨⟨W4,Gf.out.c5⟩⟩;refine Qo [(8,0),(1,1),(9,3),(1,4),(0,2),(0,5),(0,6),(0,7)]
     [(6,fun w'=>∃ p:Zo ⟨w.heap.size+1+1,0,none⟩ (.string slo),w'=p.w),(7,fun w'=>∃ p:Zo ⟨w.heap.size+1+1+1,0,none⟩ (.string shi),w'=p.w)]
     (by kernel_rfl) (by kernel_rfl) ⟨.inr ⟨⟨{ W4 with drawn:=W4.drawn+1 },Gf.out.c4⟩,rfl⟩,.inr ⟨⟨{ W4 with drawn:=W4.drawn+1 },Gf.out.c5⟩,rfl⟩,trivial⟩ ?_
    refine Qz (s:=6) _ (List.mem_cons_self ..) rfl ?_;simp only[dz_,Kg,tz_]
    go_big_quiet_step (fail)
    refine wpQuiet_nil ?_;refine Vi ?_;simp only[Kh,dz_,Kg,tz_]
    go_big_quiet_step (fail)
    refine wpQuiet_nil ?_;refine Qz (s:=7) _ (List.mem_cons_of_mem _ (List.mem_cons_self ..)) rfl ?_;simp only[Kh,dz_,Kg,tz_]
    go_big_quiet_step (fail)
    refine wpQuiet_nil ?_;refine Vi ?_;simp only[Kh,dz_,Kg,tz_]
    go_big_quiet_step (fail)
    refine wpQuiet_nil ?_;clear q0 q8 q9 Ge gU gT gS gR;obtain⟨V0,Ey⟩:∃ V0:World,{ heap:=W4.heap,tape:=W4.tape,drawn:=W4.drawn+1,os:=W4.os,output:=W4.output }=V0:=⟨_,rfl⟩;rw[Ey];have eM:Below W4.heap.size W4 V0:=by rw[← Ey];exact⟨rfl,rfl,rfl,Nat.le_refl _,fun _ _=>rfl⟩
    have CB:=hd_ (Gf.out.below eM);have eY:=hd_ (GB.out.trans (eM.mono GB.out.size));have E':=hd_ (F'.out.trans (eM.mono F'.out.size));clear Ey eM Gf GB F';refine Qa ?_;simp only[Kh,dz_,Kg,tz_]
    go_wp2_with fail
    refine cm_ (eU.out V0 eY.out) ?_;rintro e V1 ⟨rfl,hb⟩;have eV:=hd_ (CB.out.below hb);have Fi:=hd_ (eY.out.trans (hb.mono eY.out.size));have gC:=hd_ (E'.out.trans (hb.mono E'.out.size));clear hb CB eY E' eU
    go_wp2_with fail
    refine⟨⟨.inr ⟨⟨V1,eV.out.c4⟩,rfl⟩,.inr ⟨⟨V1,eV.out.c5⟩,rfl⟩,trivial⟩,?_⟩;refine Qa ?_;simp only[Kh,dz_,Kg,tz_]
    go_wp2_with fail
    refine cm_ (eT.out V1 Fi.out) ?_;rintro e V2 ⟨rfl,hb⟩;have GI:=hd_ (eV.out.below hb);have fA:=hd_ (Fi.out.trans (hb.mono Fi.out.size));have gG:=hd_ (gC.out.trans (hb.mono gC.out.size));clear hb eV Fi gC eT
    go_wp2_with fail
    refine⟨⟨.inr ⟨⟨V2,GI.out.c4⟩,rfl⟩,.inr ⟨⟨V2,GI.out.c5⟩,rfl⟩,trivial⟩,?_⟩;have gU:=GI.out.c4;have gT:=GI.out.c5;have gS:=GI.out.f4;have gR:=GI.out.f5;refine Qa ?_;simp only[Kh,dz_,Kg,tz_]
    go_wp2_with fail
    have FH:(V2.setCell ⟨w.heap.size+1+1,0,none⟩ (.string slo2)).cell? ⟨w.heap.size+1+1+1,0,none⟩=some (.string shi):=by
     rw[World.cell?_setCell_other _ _ _ _ (by simp)];exact GI.out.c5
    have D7:(V2.setCell ⟨w.heap.size+1+1,0,none⟩ (.string slo2)).frozen? ⟨w.heap.size+1+1+1,0,none⟩=false:=by rw[World.frozen?_setCell];exact GI.out.f5
    refine⟨⟨.inl rfl,.inr ⟨⟨V2.setCell ⟨w.heap.size+1+1,0,none⟩ (.string slo2),FH⟩,rfl⟩,trivial⟩,?_⟩;clear gU gT gS gR;refine Qa ?_;simp only[Kh,dz_,Kg,tz_]
    go_wp2_with fail
    refine⟨⟨.inl rfl,.inl rfl,trivial⟩,?_⟩;simp only[Vs];exact⟨(Qi gG.out).trans ((KeepsOthers.setCell _ _ _).trans (KeepsOthers.setCell _ _ _)),Zjw rfl HB.out HI.out.sz gG.out _ _,(GI.out.stored _ _).cast Bz.out aQ.out,Zao fA.out _ _⟩
  ·have hH:LN.hiL (lf n) p=lf n p+1:=by unfold LN.hiL;rw[if_neg Gn]
   rw[hH] at GH e1 e2 t2;have Nq:(p==2)=false:=by rw[beq_eq_false_iff_ne];exact Gn
   clear hH;rcases fL with⟨hs,hk⟩|⟨eG,fg,hk⟩
   ·rw[if_pos hk] at e1 e2;rw[hs] at Ga;clear hs;have eU:Hid (∀ W,Below w.heap.size w W→Kc Tryz.prog 20 #[.string (itx (LN.eLo (lf n) (pre.map Subtype.val))),.string (itx (((lf n p+1:Nat):Int)*k))] W (.string (itx ((LN.eLo (lf n) (pre.map Subtype.val))+((lf n p+1:Nat):Int)*k)))):=fun W hW=>Zym W _ _ F hF s1 t2 (DG.out W hW)
    have eT:Hid (∀ W,Below w.heap.size w W→Kc Tryz.prog 20 #[.string (itx (LN.eHi (lf n) (pre.map Subtype.val))),.string (itx ((lf n p:Int)*k))] W (.string (itx ((LN.eHi (lf n) (pre.map Subtype.val))+(lf n p:Int)*k)))):=fun W hW=>Zym W _ _ F hF s2 t1 (DG.out W hW)
    rw[← e1] at eU;rw[← e2] at eT;clear e1 e2 s1 s2 t1 t2 DG gh EM hF;obtain⟨slo2,GR⟩:∃ s,itx (LN.eLo (lf n) ((pre++[(⟨(p,k),Gq⟩:{x // x∈tl})]).map Subtype.val))=s:=⟨_,rfl⟩;obtain⟨shi2,Gh⟩:∃ s,itx (LN.eHi (lf n) ((pre++[(⟨(p,k),Gq⟩:{x // x∈tl})]).map Subtype.val))=s:=⟨_,rfl⟩;rw[GR] at eU;rw[Gh] at eT;have Bz:=hd_ GR;have aQ:=hd_ Gh;clear GR Gh;generalize itx (LN.eLo (lf n) (pre.map Subtype.val))=slo at *
    generalize itx (LN.eHi (lf n) (pre.map Subtype.val))=shi at *
    generalize itx k=sk at *
    generalize itx ((lf n p:Int)*k)=sa at *
    generalize itx (((lf n p+1:Nat):Int)*k)=sb at *
    generalize dec (lf n p+1)=sH at *
    generalize dec (lf n p)=sL at *
    gi_wp2_with fail
    refine⟨trivial,?_⟩;refine(CallsIn.inRound l (callsIn_wide.2 (EJ.out W0 Ei.out))).mono ?_;rintro e W1 ⟨rfl,hb⟩;have fp:=hd_ (G3.out.below hb);have ff:=hd_ (Ei.out.trans (hb.mono Ei.out.size));have Fv:=hd_ (ET.out.trans (hb.mono ET.out.size));clear hb Ge gU gT gS gR EJ G3 Ei ET;have Ge:=fp.out.c3;have gU:=fp.out.c4;have gT:=fp.out.c5;have gS:=fp.out.f4;have gR:=fp.out.f5
    gi_wp2_with fail
    refine⟨trivial,?_⟩;refine(CallsIn.inRound l (callsIn_wide.2 (Gl.out W1 ff.out))).mono ?_;rintro e W2 ⟨rfl,hb⟩;have gn:=hd_ (fp.out.below hb);have Gi:=hd_ (ff.out.trans (hb.mono ff.out.size));have fz:=hd_ (Fv.out.trans (hb.mono Fv.out.size));clear hb Ge gU gT gS gR Gl fp ff Fv;have Ge:=gn.out.c3;have gU:=gn.out.c4;have gT:=gn.out.c5;have gS:=gn.out.f4;have gR:=gn.out.f5
    gi_wp2_with fail
    refine⟨trivial,?_⟩;refine(CallsIn.inRound l (callsIn_wide.2 (GS.out W2 Gi.out))).mono ?_;rintro e W3 ⟨rfl,hb⟩;have gF:=hd_ (gn.out.below hb);have GC:=hd_ (Gi.out.trans (hb.mono Gi.out.size));have ec:=hd_ (fz.out.trans (hb.mono fz.out.size));clear hb Ge gU gT gS gR GS gn Gi fz;have Ge:=gF.out.c3;have gU:=gF.out.c4;have gT:=gF.out.c5;have gS:=gF.out.f4;have gR:=gF.out.f5
    gi_wp2_with fail
    refine⟨trivial,?_⟩;refine(CallsIn.inRound l (callsIn_wide.2 (GH.out W3 GC.out))).mono ?_;rintro e W4 ⟨rfl,hb⟩;have Gf:=hd_ (gF.out.below hb);have GB:=hd_ (GC.out.trans (hb.mono GC.out.size));have F':=hd_ (ec.out.trans (hb.mono ec.out.size));clear hb Ge gU gT gS gR GH gF GC ec;have Ge:=Gf.out.c3;have gU:=Gf.out.c4;have gT:=Gf.out.c5;have gS:=Gf.out.f4;have gR:=Gf.out.f5
    gi_wp2_with fail
    refine⟨trivial,?_⟩;refine(CallsIn.inRound l (callsIn_wide.2 (Ga.out W4 GB.out))).mono ?_;rintro e W5 ⟨rfl,hb⟩;have fK:=hd_ (Gf.out.below hb);have CF:=hd_ (GB.out.trans (hb.mono GB.out.size));have aN:=hd_ (F'.out.trans (hb.mono F'.out.size));clear hb Ge gU gT gS gR Ga Gf GB F';have Ge:=fK.out.c3;have gU:=fK.out.c4;have gT:=fK.out.c5;have gS:=fK.out.f4;have gR:=fK.out.f5
    gi_wp2_with fail
    have q0:=@Zo.h;have q9:Nonempty (Zo ⟨w.heap.size+1+1,0,none⟩ (.string slo)):=⟨⟨W5,fK.out.c4⟩⟩;have q8:Nonempty (Zo ⟨w.heap.size+1+1+1,0,none⟩ (.string shi)):=⟨⟨W5,fK.out.c5⟩⟩;refine Qo [(8,0),(1,1),(9,3),(1,4),(0,2),(0,5),(0,6),(0,7)]
     [(6,fun w'=>∃ p:Zo ⟨w.heap.size+1+1,0,none⟩ (.string slo),w'=p.w),(7,fun w'=>∃ p:Zo ⟨w.heap.size+1+1+1,0,none⟩ (.string shi),w'=p.w)]
     (by kernel_rfl) (by kernel_rfl) ⟨.inr ⟨⟨{ W5 with drawn:=W5.drawn+1 },fK.out.c4⟩,rfl⟩,.inr ⟨⟨{ W5 with drawn:=W5.drawn+1 },fK.out.c5⟩,rfl⟩,trivial⟩ ?_
    refine Qz (s:=6) _ (List.mem_cons_self ..) rfl ?_;simp only[dz_,Kg,tz_]
    go_big_quiet_step (fail)
    refine wpQuiet_nil ?_;refine Vi ?_;simp only[Kh,dz_,Kg,tz_]
    go_big_quiet_step (fail)
    refine wpQuiet_nil ?_;refine Qz (s:=7) _ (List.mem_cons_of_mem _ (List.mem_cons_self ..)) rfl ?_;simp only[Kh,dz_,Kg,tz_]
    go_big_quiet_step (fail)
    refine wpQuiet_nil ?_;refine Vi ?_;simp only[Kh,dz_,Kg,tz_]
    go_big_quiet_step (fail)
    refine wpQuiet_nil ?_;clear q0 q8 q9 Ge gU gT gS gR;obtain⟨V0,Ey⟩:∃ V0:World,{ heap:=W5.heap,tape:=W5.tape,drawn:=W5.drawn+1,os:=W5.os,output:=W5.output }=V0:=⟨_,rfl⟩;rw[Ey];have eM:Below W5.heap.size W5 V0:=by rw[← Ey];exact⟨rfl,rfl,rfl,Nat.le_refl _,fun _ _=>rfl⟩
    have CB:=hd_ (fK.out.below eM);have eY:=hd_ (CF.out.trans (eM.mono CF.out.size));have E':=hd_ (aN.out.trans (eM.mono aN.out.size));clear Ey eM fK CF aN;refine Qa ?_;simp only[Kh,dz_,Kg,tz_]
    go_wp2_with fail
    refine cm_ (eU.out V0 eY.out) ?_;rintro e V1 ⟨rfl,hb⟩;have eV:=hd_ (CB.out.below hb);have Fi:=hd_ (eY.out.trans (hb.mono eY.out.size));have gC:=hd_ (E'.out.trans (hb.mono E'.out.size));clear hb CB eY E' eU
    go_wp2_with fail
    refine⟨⟨.inr ⟨⟨V1,eV.out.c4⟩,rfl⟩,.inr ⟨⟨V1,eV.out.c5⟩,rfl⟩,trivial⟩,?_⟩;refine Qa ?_;simp only[Kh,dz_,Kg,tz_]
    go_wp2_with fail
    refine cm_ (eT.out V1 Fi.out) ?_;rintro e V2 ⟨rfl,hb⟩;have GI:=hd_ (eV.out.below hb);have fA:=hd_ (Fi.out.trans (hb.mono Fi.out.size));have gG:=hd_ (gC.out.trans (hb.mono gC.out.size));clear hb eV Fi gC eT
    go_wp2_with fail
    refine⟨⟨.inr ⟨⟨V2,GI.out.c4⟩,rfl⟩,.inr ⟨⟨V2,GI.out.c5⟩,rfl⟩,trivial⟩,?_⟩;have gU:=GI.out.c4;have gT:=GI.out.c5;have gS:=GI.out.f4;have gR:=GI.out.f5;refine Qa ?_;simp only[Kh,dz_,Kg,tz_]
    go_wp2_with fail
    have FH:(V2.setCell ⟨w.heap.size+1+1,0,none⟩ (.string slo2)).cell? ⟨w.heap.size+1+1+1,0,none⟩=some (.string shi):=by
     rw[World.cell?_setCell_other _ _ _ _ (by simp)];exact GI.out.c5
    have D7:(V2.setCell ⟨w.heap.size+1+1,0,none⟩ (.string slo2)).frozen? ⟨w.heap.size+1+1+1,0,none⟩=false:=by rw[World.frozen?_setCell];exact GI.out.f5
    refine⟨⟨.inl rfl,.inr ⟨⟨V2.setCell ⟨w.heap.size+1+1,0,none⟩ (.string slo2),FH⟩,rfl⟩,trivial⟩,?_⟩;clear gU gT gS gR;refine Qa ?_;simp only[Kh,dz_,Kg,tz_]
    go_wp2_with fail
    refine⟨⟨.inl rfl,.inl rfl,trivial⟩,?_⟩;simp only[Vs];exact⟨(Qi gG.out).trans ((KeepsOthers.setCell _ _ _).trans (KeepsOthers.setCell _ _ _)),Zjw rfl HB.out HI.out.sz gG.out _ _,(GI.out.stored _ _).cast Bz.out aQ.out,Zao fA.out _ _⟩
   ·rw[if_neg hk] at e1 e2;have en:¬ k.sign<0:=by omega
    have eU:Hid (∀ W,Below w.heap.size w W→Kc Tryz.prog 20 #[.string (itx (LN.eLo (lf n) (pre.map Subtype.val))),.string (itx ((lf n p:Int)*k))] W (.string (itx ((LN.eLo (lf n) (pre.map Subtype.val))+(lf n p:Int)*k)))):=fun W hW=>Zym W _ _ F hF s1 t1 (DG.out W hW)
    have eT:Hid (∀ W,Below w.heap.size w W→Kc Tryz.prog 20 #[.string (itx (LN.eHi (lf n) (pre.map Subtype.val))),.string (itx (((lf n p+1:Nat):Int)*k))] W (.string (itx ((LN.eHi (lf n) (pre.map Subtype.val))+((lf n p+1:Nat):Int)*k)))):=fun W hW=>Zym W _ _ F hF s2 t2 (DG.out W hW)
    generalize k.sign=sg at *
    rw[← e1] at eU;rw[← e2] at eT;clear e1 e2 s1 s2 t1 t2 DG gh EM hF;obtain⟨slo2,GR⟩:∃ s,itx (LN.eLo (lf n) ((pre++[(⟨(p,k),Gq⟩:{x // x∈tl})]).map Subtype.val))=s:=⟨_,rfl⟩;obtain⟨shi2,Gh⟩:∃ s,itx (LN.eHi (lf n) ((pre++[(⟨(p,k),Gq⟩:{x // x∈tl})]).map Subtype.val))=s:=⟨_,rfl⟩;rw[GR] at eU;rw[Gh] at eT;have Bz:=hd_ GR;have aQ:=hd_ Gh;clear GR Gh;generalize itx (LN.eLo (lf n) (pre.map Subtype.val))=slo at *
    generalize itx (LN.eHi (lf n) (pre.map Subtype.val))=shi at *
    generalize itx k=sk at *
    generalize itx ((lf n p:Int)*k)=sa at *
    generalize itx (((lf n p+1:Nat):Int)*k)=sb at *
    generalize dec (lf n p+1)=sH at *
    generalize dec (lf n p)=sL at *
    gi_wp2_with fail
    refine⟨trivial,?_⟩;refine(CallsIn.inRound l (callsIn_wide.2 (EJ.out W0 Ei.out))).mono ?_;rintro e W1 ⟨rfl,hb⟩;have fp:=hd_ (G3.out.below hb);have ff:=hd_ (Ei.out.trans (hb.mono Ei.out.size));have Fv:=hd_ (ET.out.trans (hb.mono ET.out.size));clear hb Ge gU gT gS gR EJ G3 Ei ET;have Ge:=fp.out.c3;have gU:=fp.out.c4;have gT:=fp.out.c5;have gS:=fp.out.f4;have gR:=fp.out.f5
    gi_wp2_with fail
    refine⟨trivial,?_⟩;refine(CallsIn.inRound l (callsIn_wide.2 (Gl.out W1 ff.out))).mono ?_;rintro e W2 ⟨rfl,hb⟩;have gn:=hd_ (fp.out.below hb);have Gi:=hd_ (ff.out.trans (hb.mono ff.out.size));have fz:=hd_ (Fv.out.trans (hb.mono Fv.out.size));clear hb Ge gU gT gS gR Gl fp ff Fv;have Ge:=gn.out.c3;have gU:=gn.out.c4;have gT:=gn.out.c5;have gS:=gn.out.f4;have gR:=gn.out.f5
    gi_wp2_with fail
    refine⟨trivial,?_⟩;refine(CallsIn.inRound l (callsIn_wide.2 (GS.out W2 Gi.out))).mono ?_;rintro e W3 ⟨rfl,hb⟩;have gF:=hd_ (gn.out.below hb);have GC:=hd_ (Gi.out.trans (hb.mono Gi.out.size));have ec:=hd_ (fz.out.trans (hb.mono fz.out.size));clear hb Ge gU gT gS gR GS gn Gi fz;have Ge:=gF.out.c3;have gU:=gF.out.c4;have gT:=gF.out.c5;have gS:=gF.out.f4;have gR:=gF.out.f5
    gi_wp2_with fail
    refine⟨trivial,?_⟩;refine(CallsIn.inRound l (callsIn_wide.2 (GH.out W3 GC.out))).mono ?_;rintro e W4 ⟨rfl,hb⟩;have Gf:=hd_ (gF.out.below hb);have GB:=hd_ (GC.out.trans (hb.mono GC.out.size));have F':=hd_ (ec.out.trans (hb.mono ec.out.size));clear hb Ge gU gT gS gR GH gF GC ec;have Ge:=Gf.out.c3;have gU:=Gf.out.c4;have gT:=Gf.out.c5;have gS:=Gf.out.f4;have gR:=Gf.out.f5
    gi_wp2_with fail
    refine⟨trivial,?_⟩;refine(CallsIn.inRound l (callsIn_wide.2 (Ga.out W4 GB.out))).mono ?_;rintro e W5 ⟨rfl,hb⟩;have fK:=hd_ (Gf.out.below hb);have CF:=hd_ (GB.out.trans (hb.mono GB.out.size));have aN:=hd_ (F'.out.trans (hb.mono F'.out.size));clear hb Ge gU gT gS gR Ga Gf GB F';have Ge:=fK.out.c3;have gU:=fK.out.c4;have gT:=fK.out.c5;have gS:=fK.out.f4;have gR:=fK.out.f5
    gi_wp2_with fail
    have q0:=@Zo.h;have q9:Nonempty (Zo ⟨w.heap.size+1+1,0,none⟩ (.string slo)):=⟨⟨W5,fK.out.c4⟩⟩;have q8:Nonempty (Zo ⟨w.heap.size+1+1+1,0,none⟩ (.string shi)):=⟨⟨W5,fK.out.c5⟩⟩;refine Qo [(8,0),(1,1),(9,3),(1,4),(0,2),(0,5),(0,6),(0,7)]
     [(6,fun w'=>∃ p:Zo ⟨w.heap.size+1+1,0,none⟩ (.string slo),w'=p.w),(7,fun w'=>∃ p:Zo ⟨w.heap.size+1+1+1,0,none⟩ (.string shi),w'=p.w)]
     (by kernel_rfl) (by kernel_rfl) ⟨.inr ⟨⟨{ W5 with drawn:=W5.drawn+1 },fK.out.c4⟩,rfl⟩,.inr ⟨⟨{ W5 with drawn:=W5.drawn+1 },fK.out.c5⟩,rfl⟩,trivial⟩ ?_
    refine Qz (s:=6) _ (List.mem_cons_self ..) rfl ?_;simp only[dz_,Kg,tz_]
    go_big_quiet_step (fail)
    refine wpQuiet_nil ?_;refine Vi ?_;simp only[Kh,dz_,Kg,tz_]
    go_big_quiet_step (fail)
    refine wpQuiet_nil ?_;refine Qz (s:=7) _ (List.mem_cons_of_mem _ (List.mem_cons_self ..)) rfl ?_;simp only[Kh,dz_,Kg,tz_]
    go_big_quiet_step (fail)
    refine wpQuiet_nil ?_;refine Vi ?_;simp only[Kh,dz_,Kg,tz_]
    go_big_quiet_step (fail)
    refine wpQuiet_nil ?_;clear q0 q8 q9 Ge gU gT gS gR;obtain⟨V0,Ey⟩:∃ V0:World,{ heap:=W5.heap,tape:=W5.tape,drawn:=W5.drawn+1,os:=W5.os,output:=W5.output }=V0:=⟨_,rfl⟩;rw[Ey];have eM:Below W5.heap.size W5 V0:=by rw[← Ey];exact⟨rfl,rfl,rfl,Nat.le_refl _,fun _ _=>rfl⟩
    have CB:=hd_ (fK.out.below eM);have eY:=hd_ (CF.out.trans (eM.mono CF.out.size));have E':=hd_ (aN.out.trans (eM.mono aN.out.size));clear Ey eM fK CF aN;refine Qa ?_;simp only[Kh,dz_,Kg,tz_]
    go_wp2_with fail
    refine cm_ (eU.out V0 eY.out) ?_;rintro e V1 ⟨rfl,hb⟩;have eV:=hd_ (CB.out.below hb);have Fi:=hd_ (eY.out.trans (hb.mono eY.out.size));have gC:=hd_ (E'.out.trans (hb.mono E'.out.size));clear hb CB eY E' eU
    go_wp2_with fail
    refine⟨⟨.inr ⟨⟨V1,eV.out.c4⟩,rfl⟩,.inr ⟨⟨V1,eV.out.c5⟩,rfl⟩,trivial⟩,?_⟩;refine Qa ?_;simp only[Kh,dz_,Kg,tz_]
    go_wp2_with fail
    refine cm_ (eT.out V1 Fi.out) ?_;rintro e V2 ⟨rfl,hb⟩;have GI:=hd_ (eV.out.below hb);have fA:=hd_ (Fi.out.trans (hb.mono Fi.out.size));have gG:=hd_ (gC.out.trans (hb.mono gC.out.size));clear hb eV Fi gC eT
    go_wp2_with fail
    refine⟨⟨.inr ⟨⟨V2,GI.out.c4⟩,rfl⟩,.inr ⟨⟨V2,GI.out.c5⟩,rfl⟩,trivial⟩,?_⟩;have gU:=GI.out.c4;have gT:=GI.out.c5;have gS:=GI.out.f4;have gR:=GI.out.f5;refine Qa ?_;simp only[Kh,dz_,Kg,tz_]
    go_wp2_with fail
    have FH:(V2.setCell ⟨w.heap.size+1+1,0,none⟩ (.string slo2)).cell? ⟨w.heap.size+1+1+1,0,none⟩=some (.string shi):=by
     rw[World.cell?_setCell_other _ _ _ _ (by simp)];exact GI.out.c5
    have D7:(V2.setCell ⟨w.heap.size+1+1,0,none⟩ (.string slo2)).frozen? ⟨w.heap.size+1+1+1,0,none⟩=false:=by rw[World.frozen?_setCell];exact GI.out.f5
    refine⟨⟨.inl rfl,.inr ⟨⟨V2.setCell ⟨w.heap.size+1+1,0,none⟩ (.string slo2),FH⟩,rfl⟩,trivial⟩,?_⟩;clear gU gT gS gR;refine Qa ?_;simp only[Kh,dz_,Kg,tz_]
    go_wp2_with fail
    refine⟨⟨.inl rfl,.inl rfl,trivial⟩,?_⟩;simp only[Vs];exact⟨(Qi gG.out).trans ((KeepsOthers.setCell _ _ _).trans (KeepsOthers.setCell _ _ _)),Zjw rfl HB.out HI.out.sz gG.out _ _,(GI.out.stored _ _).cast Bz.out aQ.out,Zao fA.out _ _⟩
 case done =>
  rintro D' ys W hD rfl ⟨hI,hB⟩ hK;rw[List.attach_map_subtype_val] at hI;have HI:=hd_ hI;have HB:=hd_ hB;have HK:=hd_ hK;clear hI hB hK dN En cI GK an;have Hv:Hid (∀ s t,itx (LN.eLo (lf n) tl)=s→itx (LN.eHi (lf n) tl)=t→Ending.returned (.tuple #[.string s,.string t])=Ending.returned (.tuple #[.string (itx (LN.eLo (lf n) tl)),.string (itx (LN.eHi (lf n) tl))])):=by
   intro s t h1 h2;rw[h1,h2]
  obtain⟨lo,fk⟩:∃ s,itx (LN.eLo (lf n) tl)=s:=⟨_,rfl⟩;obtain⟨hi,eK⟩:∃ s,itx (LN.eHi (lf n) tl)=s:=⟨_,rfl⟩;have Hr:=hd_ (Hv.out lo hi fk eK);rw[fk,eK] at HI;clear Hv fk eK;have gU:=HI.out.c4;have gT:=HI.out.c5;have gS:=HI.out.f4;have gR:=HI.out.f5
  gi_wp2_with fail
  gi_region
  gi_wp2
  clear gU gT gS gR;have e4:((W.setCell { block:=w.heap.size+1+1,off:=0 } (Value.string lo)).setCell { block:=w.heap.size+1+1+1,off:=0 } (Value.string hi)).drew.cell? ⟨w.heap.size+1+1,0,none⟩=some (.string lo):=by
   show World.cell? ((W.setCell { block:=w.heap.size+1+1,off:=0 } (Value.string lo)).setCell { block:=w.heap.size+1+1+1,off:=0 } (Value.string hi)) _=_
   rw[World.cell?_setCell_other _ _ _ _ (by simp),World.cell?_setCell_same _ _ _ HI.out.c4]
  have e5:((W.setCell { block:=w.heap.size+1+1,off:=0 } (Value.string lo)).setCell { block:=w.heap.size+1+1+1,off:=0 } (Value.string hi)).drew.cell? ⟨w.heap.size+1+1+1,0,none⟩=some (.string hi):=by
   show World.cell? ((W.setCell { block:=w.heap.size+1+1,off:=0 } (Value.string lo)).setCell { block:=w.heap.size+1+1+1,off:=0 } (Value.string hi)) _=_
   rw[World.cell?_setCell_same _ _ _ (by rw[World.cell?_setCell_other _ _ _ _ (by simp)];exact HI.out.c5)]
  have im:=((KeepsOthers.setCell W ⟨w.heap.size+1+1,0,none⟩ (.string lo)).trans (KeepsOthers.setCell _ ⟨w.heap.size+1+1+1,0,none⟩ (.string hi))).trans (KeepsOthers.drew _);have dZ:=im.same D' _ HK.out rfl;have Ew:=((HB.out.setCell (p:=⟨w.heap.size+1+1,0,none⟩) (by show _≤w.heap.size+1+1;omega) (.string lo)).setCell (p:=⟨w.heap.size+1+1+1,0,none⟩) (by show _≤w.heap.size+1+1+1;omega) (.string hi)).drew
  generalize ((W.setCell { block:=w.heap.size+1+1,off:=0 } (Value.string lo)).setCell { block:=w.heap.size+1+1+1,off:=0 } (Value.string hi)).drew=w9 at *
  have g4:=cell_kept e4 (grownBy_putObj' _ D' (.deferred none)) (fun r e=>by cases e;exact⟨_,dZ,rfl⟩)
  have g5:=cell_kept e5 (grownBy_putObj' _ D' (.deferred none)) (fun r e=>by cases e;exact⟨_,dZ,rfl⟩)
  refine⟨by simp,.inl ⟨_,_,rfl,run_takeDeferred dZ,?_⟩⟩
  refine⟨.tuple #[.string lo,.string hi],?_,Hr.out,Ew.trans (belowK_b (w:=w) nr_ w9 D' _ _ (by rw[Gy] at hD;omega) dZ rfl rfl)⟩
  simp[results,Tryz.results172,go_sem,g4,g5]
 case stop =>
  rintro D' c pre W hD hSp ⟨hf,_⟩ hK;exact hf.elim
end Go.Proofs.YtnjedhgcfeoemaaGreatDoor

namespace Go.Proofs.YtnjedhgcfeoemaaGreatDoor.LN
end Go.Proofs.YtnjedhgcfeoemaaGreatDoor.LN

namespace Go.Proofs.YtnjedhgcfeoemaaGreatDoor
open Go.RowKit
theorem Qa4{n:Nat}{tl:List (Int×Int)}(h:PrT tl)(hn:n≤1056):∀ x∈tl,LN.LogAt n x.1 (lf n x.1):=fun x hx=>by
 obtain⟨q,e,hq⟩:=h x hx;rw[e];exact Ztt hq hn
structure TrT (tl:List (Int×Int)):Prop where
 p:PrT tl
 nz:∀ x∈tl,x.2≠0
 nd:(tl.map Prod.fst).Nodup
theorem Zh5{n:Nat}{tl:List (Int×Int)}(h:TrT tl)(hn:n≤1056)(gq:tl≠[])(h0:0≤LN.eLo (lf n) tl):LN.signT tl=1:=by
 rw[LN.eLo_eq] at h0;exact LN.sign_low n (lf n) tl (Qa4 h.p hn) h.nz gq h.nd (by omega)
theorem Zh6{n:Nat}{tl:List (Int×Int)}(h:TrT tl)(hn:n≤1056)(gq:tl≠[])(h0:LN.eHi (lf n) tl≤0):LN.signT tl = -1:=by
 rw[LN.eHi_eq] at h0;exact LN.sign_high n (lf n) tl (Qa4 h.p hn) h.nz gq h.nd (by omega)
theorem Zwn(N:Nat):Zz8 2 N N:=⟨Nat.le_refl _,Nat.pow_lt_pow_right (by decide) (by omega)⟩
theorem Zw7(more n:Nat)(hm:1≤more){s:Nat×Nat×Nat}(h:Vn 2 more n=some s):s.2.2=2^n :=
 Zo9 (Zd3 2 more (by decide) hm n s h).lg (Zwn _)
theorem Zyd{p:Int}(hp:∃ q:Nat,p=q∧(q=2∨q∈Yp))(h:(Vn p.toNat 62 26).isSome=true):lgA p=(lf 26 p:Int)∧lgB p=(LN.hiL (lf 26) p:Int):=by
 obtain⟨q,rfl,hq⟩:=hp;obtain⟨s,hs⟩:=Option.isSome_iff_exists.1 h;rw[Int.toNat_natCast] at hs;have e:lgA q=(lf 26 q:Int):=by
  unfold lgA;rw[Int.toNat_natCast,hs]
  show ((s.2.2:Nat):Int)=((lgN q 26:Nat):Int)
  rcases hq with rfl|hq
  ·rw[Zw7 62 26 (by decide) hs]
   rw[show ((2:Nat):Int)=2 from rfl,Yq]
  ·rw[Zd2 hq (by decide) (by decide) hs]
 refine⟨e,?_⟩;unfold lgB LN.hiL;rw[e];split
 ·rfl
 ·rfl
theorem Ztl{most:Int}:∀ tl:List (Int×Int),PrT tl→(∀ x∈tl,okT most x)→Zbp tl=LN.eLo (lf 26) tl∧Vr tl=LN.eHi (lf 26) tl
 | [],_,_=>⟨rfl,rfl⟩
 | x::l,hp,ho=>by
  obtain⟨i1,i2⟩:=Ztl l (fun y hy=>hp y (List.mem_cons_of_mem _ hy)) (fun y hy=>ho y (List.mem_cons_of_mem _ hy))
  obtain⟨a1,a2⟩:=Zyd (hp x List.mem_cons_self) (ho x List.mem_cons_self).2;have e1:Zbp (x::l)=min (x.2*lgA x.1) (x.2*lgB x.1)+Zbp l:=by simp[Zbp]
  have e2:Vr (x::l)=max (x.2*lgA x.1) (x.2*lgB x.1)+Vr l:=by simp[Vr]
  have f1:LN.eLo (lf 26) (x::l)=(if x.2<0 then x.2*(LN.hiL (lf 26) x.1:Int) else x.2*(lf 26 x.1:Int))+LN.eLo (lf 26) l:=by simp[LN.eLo]
  have f2:LN.eHi (lf 26) (x::l)=(if x.2<0 then x.2*(lf 26 x.1:Int) else x.2*(LN.hiL (lf 26) x.1:Int))+LN.eHi (lf 26) l:=by simp[LN.eHi]
  have fV:lf 26 x.1≤LN.hiL (lf 26) x.1:=by unfold LN.hiL;split<;>omega
  rw[e1,e2,f1,f2,i1,i2,a1,a2]
  by_cases hk:x.2<0
  ·have h1:x.2*(LN.hiL (lf 26) x.1:Int)≤x.2*(lf 26 x.1:Int):=Int.mul_le_mul_of_nonpos_left (by omega) (by omega)
   rw[if_pos hk,if_pos hk,Int.min_eq_right h1,Int.max_eq_left h1];exact⟨rfl,rfl⟩
  ·have h1:x.2*(lf 26 x.1:Int)≤x.2*(LN.hiL (lf 26) x.1:Int):=Int.mul_le_mul_of_nonneg_left (by omega) (by omega)
   rw[if_neg hk,if_neg hk,Int.min_eq_left h1,Int.max_eq_right h1];exact⟨rfl,rfl⟩
theorem Zqf{tl:List (Int×Int)}(h:TrT tl)(gq:tl≠[])(hq:Zax tl≠0):Zax tl=LN.signT tl:=by
 unfold Zax at hq ⊢;split at hq
 ·rename_i ho
  obtain⟨e1,e2⟩:=Ztl tl h.p ho;rw[if_pos ho];rw[e1,e2] at hq ⊢;split
  ·rename_i h1;rw[Zh5 h (by decide) gq h1]
  ·rename_i h1
   rw[if_neg h1] at hq;split
   ·rename_i h2;rw[Zh6 h (by decide) gq h2]
   ·rename_i h2;rw[if_neg h2] at hq;exact absurd rfl hq
 ·exact absurd rfl hq
def Pw (n:Nat):Prop:=n=64∨n=128∨n=256∨n=512∨n=1024
def Dec (tl:List (Int×Int)):Prop:=0≤LN.eLo (lf 1024) tl∨LN.eHi (lf 1024) tl≤0
theorem Zvp(w:World)(b1 b2:Option Addr)(d1 d2 D E:Nat)(tl:List (Int×Int))(T:Vq w tl b1 b2)(R:TrT tl)(hE:E≤20000)(hK:∀ x∈tl,x.2.natAbs<2^E)(hd:tl≠[]→Dec tl)(L:Qd w):
  Kc Tryz.prog 101 #[.agg (Kr b1 d1 b2 d2 tl.length D)] w (.int .i64 (LN.signT tl)):=by
 by_cases h0:tl=[]
 ·have:=Zh4 w b1 b2 d1 d2 D tl T L (.inl h0)
  rw[if_pos h0] at this;rw[h0] at this ⊢;exact this
 by_cases hq:Zax tl≠0
 ·have:=Zh4 w b1 b2 d1 d2 D tl T L (.inr hq)
  rw[if_neg h0,Zqf R h0 hq] at this;exact this
 ·have bS:Zax tl=0:=by omega
  unfold Kc;have gj:=hd_ ((Below.refl w.heap.size w).alloc nr_ (.cells (Kr b1 d1 b2 d2 tl.length D) 163));have Hn:=hd_ (Zk1 _ b1 b2 d1 d2 D tl (T.below gj.out) (L.below gj.out));rw[bS] at Hn;have JQ:((tl.length:Int)==0)=false:=by
   rw[beq_eq_false_iff_ne];intro h;exact h0 (List.eq_nil_of_length_eq_zero (by omega))
  have He:Hid (∀ (n:Nat) W,n≤1056→Below w.heap.size w W→Kc Tryz.prog 172 #[.agg (Kr b1 d1 b2 d2 tl.length D),.int .i64 n] W (.tuple #[.string (itx (LN.eLo (lf n) tl)),.string (itx (LN.eHi (lf n) tl))])) :=
   fun n W hn hW=>Zjy W b1 b2 d1 d2 D n E tl (T.below hW) R.p hE hK hn (L.below hW)
  have dG:Hid (∀ n:Nat,n≤1056→0≤LN.eLo (lf n) tl→LN.signT tl=1):=fun n hn h=>Zh5 R hn h0 h
  have C8:Hid (∀ n:Nat,n≤1056→LN.eHi (lf n) tl≤0→LN.signT tl = -1):=fun n hn h=>Zh6 R hn h0 h
  have Cv:=hd_ (hd h0);clear T L hq h0 bS R hE hK hd;generalize LN.signT tl=sv at *
  generalize hm:tl.length=m at *
  clear hm;have l4:=hd_ (Qq w (Kr b1 d1 b2 d2 m D) 163 w.heap.size rfl);obtain⟨m0,m1,m2,m3⟩:=Kp l4.out;clear m3;go_enter Tryz.func101,Tryz.ntmps101
  go_wp2_with fail
  go_step3
  go_wp2_with fail
  refine cm_ Hn.out ?_;rintro e w1 ⟨rfl,hZ⟩;have HQ:=hd_ (gj.out.trans (hZ.mono gj.out.size));have Fv:=hd_ (Kd l4.out hZ nr_);clear hZ Hn gj l4 m0 m1 m2
  go_wp2_with fail
  go_step3
  go_wp2_with fail
  go_loopw [4] (fun a wr=>∃ (n:Nat),Hid (Pw n)∧n≤1024∧a = .int .i64 n∧Hid (Below w.heap.size w wr)∧Hid (wr.heap[w.heap.size]?=some (.cells (Kr b1 d1 b2 d2 m D) 163 (0,0)))) (fun a _=>1024-(intOf a).toNat)
  case atStart=>exact⟨64,.inl rfl,by decide,rfl,HQ,Fv⟩
  case round =>
   clear HQ Fv;obtain⟨n,Hp,hn,rfl,Hb,Hk⟩:=hrel;obtain⟨m0,m1,m2,m3⟩:=Kp Hk.out;clear m3;have Li:=hd_ (He.out n wr (by omega) Hb.out)
   have fk:=dG.out n (by omega)
   have eK:=C8.out n (by omega)
   have eq:n=1024→0≤LN.eLo (lf n) tl∨LN.eHi (lf n) tl≤0:=fun h=>by rw[h];exact Cv.out
   clear He dG C8 Cv;generalize LN.eLo (lf n) tl=lo at *
   generalize LN.eHi (lf n) tl=hi at *
   have aK:Hid (∀ W,Kc Tryz.prog 84 #[.string (itx lo)] W (.int .i64 lo.sign)):=fun W=>Yk W lo
   have CZ:Hid (∀ W,Kc Tryz.prog 84 #[.string (itx hi)] W (.int .i64 hi.sign)):=fun W=>Yk W hi
   have c1:=Vx lo;have c2:=Vx hi;have hw:IntKind.i64.wrap ((n:Int)*2)=((n*2:Nat):Int):=by rw[show (n:Int)*2=((n*2:Nat):Int) by omega];exact iw_ _ (by omega)
   by_cases h1:0≤lo
   ·have Hv:=hd_ (fk h1);have Dy:0≤lo.sign:=by omega
    generalize lo.sign=sl at *
    clear c1 c2 fk eK eq CZ h1;generalize itx lo=slo at *
    generalize itx hi=shi at *
    have B1:=Hb;have K1:=Hk;clear Hb Hk
    go_wp2_with fail
    refine cm_ (Li.out) ?_;rintro e w2 ⟨rfl,hb⟩;have B2:=hd_ (B1.out.trans (hb.mono B1.out.size));have K2:=hd_ (Kd K1.out hb nr_);clear hb B1 K1
    go_wp2_with fail
    refine cm_ (aK.out _) ?_;rintro e w3 ⟨rfl,hb⟩;have B3:=hd_ (B2.out.trans (hb.mono B2.out.size));have K3:=hd_ (Kd K2.out hb nr_);clear hb B2 K2
    go_wp2_with fail
    rw[Exit.noGoto_ret];go_ret;exact⟨by rw[Hv.out];rfl,B3.out⟩
   ·have Dy:lo.sign<0:=by omega
    by_cases h2:hi≤0
    ·have Hv:=hd_ (eK h2);have ER:hi.sign≤0:=by omega
     generalize lo.sign=sl at *
     generalize hi.sign=sh at *
     clear c1 c2 fk eK eq h1 h2;generalize itx lo=slo at *
     generalize itx hi=shi at *
     have B1:=Hb;have K1:=Hk;clear Hb Hk
     go_wp2_with fail
     refine cm_ (Li.out) ?_;rintro e w2 ⟨rfl,hb⟩;have B2:=hd_ (B1.out.trans (hb.mono B1.out.size));have K2:=hd_ (Kd K1.out hb nr_);clear hb B1 K1
     go_wp2_with fail
     refine cm_ (aK.out _) ?_;rintro e w3 ⟨rfl,hb⟩;have B3:=hd_ (B2.out.trans (hb.mono B2.out.size));have K3:=hd_ (Kd K2.out hb nr_);clear hb B2 K2
     go_wp2_with fail
     refine cm_ (CZ.out _) ?_;rintro e w4 ⟨rfl,hb⟩;have B4:=hd_ (B3.out.trans (hb.mono B3.out.size));have K4:=hd_ (Kd K3.out hb nr_);clear hb B3 K3
     go_wp2_with fail
     rw[Exit.noGoto_ret];go_ret;exact⟨by rw[Hv.out];rfl,B4.out⟩
    ·have ER:0<hi.sign:=by omega
     have Do:n*2≤1024:=by
      rcases Hp.out with h|h|h|h|h
      ·omega
      ·omega
      ·omega
      ·omega
      ·have:=eq h;omega
     have Gn:Hid (Pw (n*2)):=by
      rcases Hp.out with h|h|h|h|h
      ·subst h;exact .inr (.inl rfl)
      ·subst h;exact .inr (.inr (.inl rfl))
      ·subst h;exact .inr (.inr (.inr (.inl rfl)))
      ·subst h;exact .inr (.inr (.inr (.inr rfl)))
      ·have:=eq h;omega
     have du:0<n:=by rcases Hp.out with h | h | h | h | h<;>omega
     generalize lo.sign=sl at *
     generalize hi.sign=sh at *
     clear c1 c2 fk eK eq h1 h2;generalize itx lo=slo at *
     generalize itx hi=shi at *
     have B1:=Hb;have K1:=Hk;clear Hb Hk
     go_wp2_with fail
     refine cm_ (Li.out) ?_;rintro e w2 ⟨rfl,hb⟩;have B2:=hd_ (B1.out.trans (hb.mono B1.out.size));have K2:=hd_ (Kd K1.out hb nr_);clear hb B1 K1
     go_wp2_with fail
     refine cm_ (aK.out _) ?_;rintro e w3 ⟨rfl,hb⟩;have B3:=hd_ (B2.out.trans (hb.mono B2.out.size));have K3:=hd_ (Kd K2.out hb nr_);clear hb B2 K2
     go_wp2_with fail
     refine cm_ (CZ.out _) ?_;rintro e w4 ⟨rfl,hb⟩;have B4:=hd_ (B3.out.trans (hb.mono B3.out.size));have K4:=hd_ (Kd K3.out hb nr_);clear hb B3 K3
     go_wp2_with fail
     go_roundw
     case rel=>exact⟨n*2,Gn,Do,rfl,B4,K4⟩
     case measure=>simp[intOf];omega
def Za9:List Int:=[2,3,5,7,11,13]
theorem Zyb{p n L:Nat}(hp:p∈Yp)(hn:n≤1056)(h:LN.lg p p.log2 n 1120=some L):lgN p n=L:=by
 rw[Zts] at h;obtain⟨s,hs,e⟩:=Option.map_eq_some_iff.1 h;rw[← Zd2 hp hn (by decide) hs,e]
theorem Zzd:([3,5,7,11,13]:List Nat).map (fun p=>LN.lg p p.log2 1024 1120)=LN.certL.tail.map fun x=>some x.toNat:=by decide +kernel
theorem Zri:LN.certL.head?=some (2^1024):=by decide +kernel
theorem Zus:∀ x∈LN.certL,(0:Int)≤x:=by decide +kernel
theorem Zye(n:Nat):((lf n 2:Nat):Int)=2^n:=by
 show ((lgN 2 n:Nat):Int)=_
 rw[Yq,Int.natCast_pow];rfl
theorem Zig{a k m:Nat}(ha:a≤100)(h:7+k≤m):a*2^k≤2^m:=by
 have:a*2^k≤2^7*2^k:=Nat.mul_le_mul_right _ (by omega)
 rw[← Nat.pow_add] at this;exact Nat.le_trans this (Nat.pow_le_pow_right (by decide) h)
theorem Zpo:Za9.map (fun p=>((lf 1024 p:Nat):Int))=LN.certL:=by
 have h:=Zzd;have h0:=Zri;have hp:=Zus;obtain⟨c0,c1,c2,c3,c4,c5,e⟩:∃ c0 c1 c2 c3 c4 c5,LN.certL=[c0,c1,c2,c3,c4,c5]:=⟨_,_,_,_,_,_,rfl⟩;rw[e] at h h0 hp ⊢;have Gm:∀ (p:Nat) (c:Int),p∈Yp→0≤c→LN.lg p p.log2 1024 1120=some c.toNat→((lf 1024 (p:Int):Nat):Int)=c:=fun p c hp h0 h=>by
  have:=Zyb hp (by decide) h
  show ((lgN p 1024:Nat):Int)=c
  rw[this];omega
 simp only[List.map_cons,List.map_nil,List.tail_cons,List.cons.injEq,and_true] at h;obtain⟨h1,h2,h3,h4,h5⟩:=h;simp only[List.head?_cons,Option.some.injEq] at h0;have p1:=hp c1 (by simp)
 have p2:=hp c2 (by simp)
 have p3:=hp c3 (by simp)
 have p4:=hp c4 (by simp)
 have p5:=hp c5 (by simp)
 have k1:=Gm 3 c1 (by decide) p1 h1
 have k2:=Gm 5 c2 (by decide) p2 h2
 have k3:=Gm 7 c3 (by decide) p3 h3
 have k4:=Gm 11 c4 (by decide) p4 h4
 have k5:=Gm 13 c5 (by decide) p5 h5
 have k0:((lf 1024 2:Nat):Int)=c0:=by
  rw[h0];exact Zye 1024
 show [((lf 1024 2:Nat):Int),((lf 1024 3:Nat):Int),((lf 1024 5:Nat):Int),((lf 1024 7:Nat):Int),((lf 1024 11:Nat):Int),((lf 1024 13:Nat):Int)]=_
 rw[k0];rw[show ((lf 1024 3:Nat):Int)=c1 from k1,show ((lf 1024 5:Nat):Int)=c2 from k2,show ((lf 1024 7:Nat):Int)=c3 from k3,show ((lf 1024 11:Nat):Int)=c4 from k4,show ((lf 1024 13:Nat):Int)=c5 from k5]
def Kb:Nat:=2^100
theorem Zn5{tl:List (Int×Int)}(h1:∀ x∈tl,x.1∈Za9)(h0:∀ x∈tl,x.2≠0)(hd:(tl.map Prod.fst).Nodup)(hk:∀ x∈tl,x.2.natAbs≤Kb)(hl:tl.length≤100)(gq:tl≠[]):Dec tl:=by
 have hc:=LN.cert_ok;rw[← Zpo] at hc;have hS:=@Zig tl.length 100 503 hl (by decide)
 have:=LN.ends_decide hc (by decide) tl hS gq (fun x hx=>⟨h1 x hx,h0 x hx,hk x hx⟩) hd
 unfold Dec;rw[LN.eLo_eq,LN.eHi_eq];omega
def Zfr:List Int:=[2,3,5,7,11,13,17,19,23,29,31,37,41,43,47,53,59,61,67,71,73,79,83,89,97]
structure Zke (ps:List Int) (l:List Rat):Prop where
 pr:∀ p∈ps,p∈Zfr
 nd:ps.Nodup
 kb:∀ x∈tlQ ps l,x.2.natAbs≤Kb
 dc:ps.length≤100→tlQ ps l≠[]→Dec (tlQ ps l)
theorem Zav(D:Nat):∀ (ps:List Int) (l:List Rat),((Qs D ps l).map Prod.fst).Sublist ps
 | [],_=>by simp[Qs]
 | _::_,[]=>by simp[Qs]
 | p::ps,q::l=>by
  have ih:=Zav D ps l;unfold Qs at ih ⊢;rw[List.zip_cons_cons,List.filterMap_cons]
  by_cases h:q.num=0
  ·simp only[h,if_true];exact ih.cons _
  ·simp only[h,if_false];exact ih.cons_cons _
theorem Zol{ps:List Int}{l:List Rat}{x:Int×Int}(h:x∈tlQ ps l):x.2≠0:=by
 obtain⟨_,q,hq,hn,he⟩:=Yb h;rw[he];refine Int.mul_ne_zero hn ?_;have h1:=LN.tden_dvd hq;have h2:=LN.tden_pos' l;have h3:0<Qc l/q.den:=Nat.div_pos (Nat.le_of_dvd h2 h1) q.den_pos;omega
theorem Zpu:Zfr=2::Yp.map (fun p=>((p:Nat):Int)):=by decide +kernel
theorem Ze7{p:Int}(h:p∈Zfr):∃ q:Nat,p=q∧(q=2∨q∈Yp):=by
 rw[Zpu] at h;rcases List.mem_cons.1 h with rfl|h
 ·exact⟨2,rfl,.inl rfl⟩
 ·obtain⟨q,hq,rfl⟩:=List.mem_map.1 h;exact⟨q,rfl,.inr hq⟩
theorem Zdr{p:Int}(h:p∈Za9):p∈Zfr:=by
 have:∀ p∈Za9,p∈Zfr:=by decide
 exact this p h
theorem Zkn{ps:List Int}{l:List Rat}(h1:∀ p∈ps,p∈Zfr)(h2:ps.Nodup):TrT (tlQ ps l) :=
 ⟨fun _ hx=>Ze7 (h1 _ (Yb hx).1),fun _ hx=>Zol hx,(Zav _ ps l).nodup h2⟩
theorem Zke.trt{ps:List Int}{l:List Rat}(h:Zke ps l):TrT (tlQ ps l):=Zkn h.pr h.nd
theorem Zke.lt{ps:List Int}{l:List Rat}(h:Zke ps l):∀ x∈tlQ ps l,x.2.natAbs<2^101:=fun x hx=>Nat.lt_of_le_of_lt (h.kb x hx) (by decide)
theorem Zke.dec{ps:List Int}{l:List Rat}(h:Zke ps l)(hn:ps.length≤100)(gq:tlQ ps l≠[]):Dec (tlQ ps l):=h.dc hn gq
theorem Zeh{ps:List Int}{l:List Rat}(hn:ps.length≤100):(tlQ ps l).length≤100 :=
 Nat.le_trans (by have:=(Zav (Qc l) ps l).length_le;rw[List.length_map] at this;exact this) hn
theorem Zke.small{ps:List Int}{l:List Rat}(h1:∀ p∈ps,p∈Za9)(h2:ps.Nodup)(hk:∀ x∈tlQ ps l,x.2.natAbs≤Kb):Zke ps l :=
 ⟨fun p hp=>Zdr (h1 p hp),h2,hk,fun hn gq=>Zn5 (fun _ hx=>h1 _ (Yb hx).1) (Zkn (fun p hp=>Zdr (h1 p hp)) h2).nz (Zkn (fun p hp=>Zdr (h1 p hp)) h2).nd hk (Zeh hn) gq⟩
end Go.Proofs.YtnjedhgcfeoemaaGreatDoor

namespace Go.Proofs.YtnjedhgcfeoemaaGreatDoor.LN
theorem Zin(P:Int):∀ l k:List Int,dotI l k=dotI (l.map fun x=>x%P) k+P*dotI (l.map fun x=>x/P) k
 | [],_=>by simp[dotI]
 | _::_,[]=>by simp[dotI]
 | x::l,y::k=>by
  have ih:=Zin P l k;simp only[List.map_cons,dotI];rw[ih];have hx:=Int.emod_add_mul_ediv x P;generalize x%P=r at *
  generalize x/P=q at *
  subst hx
  grind
def Zeb (a q:Int) (L:List Int):List Int:=L.map fun l=>(2*q*l+a)/(2*a)
theorem Zea(a q:Int)(L:List Int):(Zeb a q L).length=L.length:=by simp[Zeb]
def Qc5 (a q:Int) (L:List Int):Nat:=Zdc (comb a (Zeb a q L) q L)
def Zy9 (a:Int) (L Q:List Int) (K S:Nat):Bool:=decide (0<a)&&Q.all fun q=>decide (Qc5 a q L*K+q.natAbs*S<a.natAbs)
def Qct (a:Int) (L Q:List Int) (V:List (List Int)) (P:Int):Bool :=
 decide (1<P)&&decide (V.length=L.length) &&
 (List.range L.length).all fun i=>decide ((Zd6 L.length (V.getD i []) (Q.map fun q=>Zeb a q L)).map (fun x=>x%P)=Zef L.length i 1)
theorem Zph(P:Int):∀ u k:List Int,dotI u (k.map fun x=>P*x)=P*dotI u k
 | [],_=>by simp[dotI]
 | _::_,[]=>by simp[dotI]
 | a::u,b::k=>by
  simp only[List.map_cons,dotI];rw[Zph P u k]
  grind
theorem Zzm{P:Int}{m:Nat}{U V:List (List Int)}(hU:∀ u∈U,u.length=m)(hI:∀ i,i<m→(Zd6 m (V.getD i []) U).map (fun x=>x%P)=Zef m i 1)(k:List Int)(hk:k.length=m)(h0:∀ u∈U,dotI u k=0):
  ∀ x∈k,∃ y,x=P*y:=by
 intro x hx;obtain⟨i,hi,rfl⟩:=List.mem_iff_getElem.1 hx;have h1:=hI i (by omega)
 have h2:=Zex m k (V.getD i []) U hU h0;rw[Zin P,h1,Zef,List.range_eq_range',Zg5 1 _ i 0 k,if_pos (by omega)] at h2
 rw[Nat.sub_zero,List.getD_eq_getElem?_getD,List.getElem?_eq_getElem hi,Option.getD_some,Int.one_mul] at h2;generalize k[i]=y at *
 generalize dotI ((Zd6 m (V.getD i []) U).map fun x=>x/P) k=q at *
 exact⟨-q,by rw[Int.mul_neg];omega⟩
theorem Zwp{P:Int}(hP:1<P){m:Nat}{U V:List (List Int)}(hU:∀ u∈U,u.length=m)(hI:∀ i,i<m→(Zd6 m (V.getD i []) U).map (fun x=>x%P)=Zef m i 1):
  ∀ (n:Nat) (k:List Int),(∀ x∈k,x.natAbs≤n)→k.length=m→(∀ u∈U,dotI u k=0)→∀ x∈k,x=0:=by
 intro n
 induction n using Nat.strongRecOn with
 | ind n ih =>
  intro k hn hk h0
  by_cases hz:n=0
  ·subst hz;intro x hx;have:=hn x hx
   omega
  have hd:=Zzm hU hI k hk h0;have e:k=(k.map fun x=>x/P).map fun x=>P*x:=by
   rw[List.map_map];refine List.ext_getElem (by simp) fun i h1 h2=>?_
   obtain⟨y,hy⟩:=hd k[i] (List.getElem_mem h1);rw[List.getElem_map,Function.comp_apply,hy,Int.mul_ediv_cancel_left _ (by omega)]
  have h2:∀ u∈U,dotI u (k.map fun x=>x/P)=0:=fun u hu=>by
   have h:=h0 u hu;rw[e,Zph] at h;rcases Int.mul_eq_zero.1 h with h|h
   ·omega
   ·exact h
  have h3:∀ x∈k.map (fun x=>x/P),x.natAbs≤n/2:=fun x hx=>by
   obtain⟨z,ej,rfl⟩:=List.mem_map.1 hx;obtain⟨y,hy⟩:=hd z ej;have h4:=hn z ej;rw[hy,Int.mul_ediv_cancel_left _ (by omega)]
   rw[hy,Int.natAbs_mul] at h4;have h5:2*y.natAbs≤P.natAbs*y.natAbs:=Nat.mul_le_mul_right _ (by omega)
   omega
  have h4:=ih (n/2) (by omega) _ h3 (by rw[List.length_map];exact hk) h2
  intro x hx;obtain⟨y,hy⟩:=hd x hx;have h5:=h4 (x/P) (List.mem_map_of_mem hx);rw[hy,Int.mul_ediv_cancel_left _ (by omega)] at h5
  rw[hy,h5,Int.mul_zero]
theorem Zoe{a:Int}{L Q:List Int}{V:List (List Int)}{P:Int}{K S:Nat}(hn:Zy9 a L Q K S=true)(hi:Qct a L Q V P=true)(k:List Int)(hk:k.length=L.length)(hK:∀ x∈k,x.natAbs≤K)(hS:(dotI L k).natAbs<S):
  ∀ x∈k,x=0:=by
 unfold Zy9 at hn;unfold Qct at hi;simp only[Bool.and_eq_true,decide_eq_true_eq,List.all_eq_true,List.mem_range] at hn hi;obtain⟨ha,hQ⟩:=hn;obtain⟨⟨hP,hV⟩,hI⟩:=hi;refine Zwp hP (m:=L.length) (U:=Q.map fun q=>Zeb a q L) (V:=V) (fun u hu=>?_) hI (Zdc k) k (fun x hx=>?_) hk fun u hu=>?_
 ·obtain⟨q,_,rfl⟩:=List.mem_map.1 hu;exact Zea a q L
 ·clear hS hK hk hI hV;unfold Zdc
  induction k with
  | nil=>cases hx
  | cons y l ih =>
   rw[List.map_cons,List.sum_cons];rcases List.mem_cons.1 hx with rfl|hx
   ·omega
   ·have:=ih hx;omega
 ·obtain⟨q,hq,rfl⟩:=List.mem_map.1 hu;have h1:=hQ q hq;have e:=Zd1 a q (Zeb a q L) L k (Zea a q L);have b:=Znz K (comb a (Zeb a q L) q L) k hK;unfold Qc5 at h1;generalize dotI (Zeb a q L) k=f at *
  generalize dotI L k=T at *
  generalize Zdc (comb a (Zeb a q L) q L)*K=A at *
  rw[e] at b;have h3:(a*f).natAbs≤(a*f-q*T).natAbs+(q*T).natAbs:=by omega
  rw[Int.natAbs_mul,Int.natAbs_mul q T] at h3;have h5:q.natAbs*T.natAbs≤q.natAbs*S:=Nat.mul_le_mul_left _ (by omega)
  have h6:a.natAbs*f.natAbs<a.natAbs*1:=by omega
  have h7:f.natAbs<1:=Nat.lt_of_mul_lt_mul_left h6;omega
def Zzv:List Nat:=[2,3,5,7,11,13,17,19,23,29,31,37,41,43,47,53,59,61,67,71,73,79,83,89,97]
def certL25:List Int:=Zzv.map fun p=>if p=2 then 2^1024 else (((lg p p.log2 1024 1120).getD 0:Nat):Int)
def Zur:List Int:=[-0x390cc4547b4cd34f887aebaadaaef6c9e2c25ec48d8f23b26f2a85d828ff28e8bf9ca1f7cfab0d284288c4b575780f820db978a62a9677ad80c583c592139,-0x260814ef7f5ac50a6006d98cfd70b43cacbe2b44c5a6acba00c9e36e133dfaec54ded4a6dbf2b1ee3d9f0170e9040519515ec50467e78cea24b2a987b6ebe,0xc1fe29faf3a552cd8de28a12e2da45a09a6f6ddd51c9fdf123231365c26467b7f0adb74fd1629cde5109fd2ce82ac31cf6a7159b88cbc009f06beb2efe7f1,0xc4d95d3690e9b65f02a176c883e8ec48cac8f51c6e6ac88155fbb552a8d107e0735dfadeafbd00dc15d7affcd74d1aedcc8b5819242d9f5374d744f37864b,0x2fbe3f25a3a7de9b5b481954d1f6339b2cd20553ab9d3ebec152b19718dccca849fa91bd57f1ef5cf6b3fd1de44fed74095a607713b59e5dab526a5bf2d1a,0xb1d4a89456513f0be0db174271d748684707ab7c465b9b152f9cfd46885d014b0b6313fdb7fb0ac0f8c0cbb84fa1114a2fc1ad81d7b46dc68888c7e484443,0xd4fb67b9eee711061c2f484eaeb6714b80931bf0be34de2758afdcfc8ab8d81f286fc368a34abbdee16567d53c8e00633cd4e3c89dc0919dbd4e6776a43bb,0xc899fb23e590a24b56a2adcd8da665a66ae2ec7e27986cc365cb27f6d6036be68c300e821eb425ea7f34efe116edeeffcaca2af99a0269f5b4261db47c314,-0x11d12dd471b033d8f64d3dd96ce360413127b1e913f3ae0a69f58fd7c784be2b7f4730a1aa0e86d39e38d5da6e24bfecc0540ab55bd835eba83548458d713,0xb926771e4e6fa1b1d854b5141a33d1ea69f18e9493e4bd4e7fc79ec59c41a85d36321c75af04f2583ea8a5d6ed566b5e9fa774026a91431b6a7df578e7459,-0x3c28cc5f354ba5a9fc8d241587fa21af31c3e6e94de0dd06347765459067893f4625b14ba63b900137e634223d3e51fc18e23feb9d937a72459c82f489561,-0xd89ae46dcc2d34099da88c0eeebe45a7fd8e4a5b978d5a347365896f552ec37edac4d764c4c88fe731af3bde3060926f6c408fa08ce000932d017724e19ee,-0x8a91da38a2dcab2db4bf4a851cf4bbad9dd11812fb953cccc63d0e4b2da4b049c2e28f859aff65c2f55d66641eec3465bf2cc38578db652cb80d1be86824c,0x895aa15dcf5659cff1497ef77c5517ab5bc635dc394b344b270487efb0c24dd81130969cbd26c4b2570453e614b36072827d534508273926630d8792f1505,0xec0ed674cca733ecec2ec718589c4165668c921ed200cb18f949421f53adfeaf33ee49b77683fd220fda76c247b919730b89f5c86cc2ae2e7467e6288190d,0x1ad4fa358f8a2b0001052337ff5f965738e9ef08c0ab36887e87053178564d3d4733548ea08b2398fa1c8ef38e9b07acf14183670a7557085e371538399213,-0xcf563fd1ab64de44118f0ef591830a98b4375aefbd7643b50b3a2c7dad2ddda31ea6a961f9ff6856f9af1536f3807caa73d0d8bccd1b1748307caca0b514,0x5076fb700c91eb0ad7590020d977e1805d604885b67160daae909a62406d3f401f66fe04cdb504d8309c6f2062ee41b2c29c45d2c01b4a6959315c698416e,-0xe7e496b0d5dae89fd6671905c3b39792af4f23aa9c33ab499c18e57447823ce03c684e8e0d3686afff015d66b6d57f8e91b97946b1f2fb236c8d62708a18a,-0x1797837a78ad5a7cb425ecd55e66c7f45320c2112aa185855f9ac4fbdd0f1a3f868873233f2a91c500731f84bf864689b9ca4ffc44787f78ed85c25d65bafe,0x1f12b1884e6ed34a5d58fcbbd9b64bb0e3620c645f1107b850710f74df8470506f39df5b2c079d54de688969e9b3be651cc671df4be8b0402deeed04d7136f,0x38773a3f3a38ff2f461cc1a498212e2699f4b44c91c4fc8fe76a273f7433e99ad868606c13df7bb8fbc1a0e307aa2305e1edc5fc67267c33693811a24a115a,-0x468f56cd9688ad4444754dc5516780d8a728601272b981c9e540ae5c7eccc37be9aaea74cc4f68a295024dd153707784d1a0f06af7b3318b43396873b153b9,0x29803f6a11e403f7ab8ab7f301e524fd966b213312929531e43177e8e94c4228b3ff35f744d7a0381b47d50f48de84c56fabfe6825e7c594421d4081a2f909,-0x3ba482035175b55cdd54937fbed1357892e1679104490919122bafa83262d982e03a473fabb598916f8baa291f85413607e809cc262654bd47d7d78594adb]
def Zzu:List (List Int):=[[98,118,202,124,83,146,107,201,172,64,12,55,105,153,239,226,195,7,28,1,187,165,30,221,20],[97,27,31,158,30,77,244,51,44,105,139,212,178,232,112,144,112,50,139,194,131,126,250,243,199],[145,223,213,170,95,13,240,130,153,118,135,223,243,186,171,134,207,140,198,195,116,22,35,91,65],[127,43,6,14,138,151,250,70,62,80,184,44,115,51,176,244,145,131,206,236,45,69,179,200,133],[215,29,202,95,72,74,48,4,10,16,59,3,80,6,27,146,155,64,144,191,207,28,47,186,115],[1,23,188,40,44,144,148,45,179,1,2,131,81,130,190,174,102,201,98,127,88,72,69,149,96],[21,40,35,113,140,63,120,23,173,12,30,112,115,247,188,77,109,86,237,6,190,149,14,217,137],[165,242,4,13,24,68,242,68,11,194,105,217,200,25,217,157,134,179,219,36,80,241,64,196,176],[206,4,124,119,72,189,189,146,49,121,239,155,85,23,138,58,180,221,118,48,106,186,171,238,86],[210,99,247,60,139,154,200,40,223,202,137,227,11,116,74,91,113,69,222,174,223,137,100,238,243],[137,154,125,2,209,203,20,147,218,42,113,181,57,132,187,233,7,180,4,13,134,94,179,172,127],[179,210,49,18,55,213,151,96,5,60,141,57,148,95,99,145,82,178,219,173,202,14,84,100,228],[102,62,217,129,14,127,200,224,35,146,125,220,123,9,18,106,211,148,211,96,123,238,196,223,230],[107,242,170,28,59,5,149,152,27,153,45,77,216,213,205,218,113,101,58,81,174,221,44,184,57],[108,175,78,124,22,49,53,21,88,184,52,93,49,179,193,43,94,166,25,71,133,248,120,207,180],[190,12,33,105,31,211,119,39,220,34,3,27,122,55,99,131,239,148,215,72,248,155,198,222,150],[144,6,56,78,4,2,126,114,216,174,212,176,32,191,21,45,218,115,143,120,153,136,150,24,232],[177,196,131,171,223,9,122,185,198,226,118,98,221,101,109,186,72,130,15,250,167,241,109,149,105],[5,109,58,172,46,17,108,71,152,136,247,173,16,175,59,71,120,96,238,26,93,192,136,39,81],[186,19,103,188,193,244,223,99,12,51,155,33,75,7,116,75,27,25,162,116,163,194,41,249,169],[16,165,61,90,34,101,66,39,9,179,6,2,90,243,140,110,154,165,206,43,233,68,70,8,11],[234,230,151,18,15,70,18,94,170,185,103,207,140,194,73,45,240,94,238,202,45,181,231,74,100],[93,157,117,129,100,102,151,37,142,24,195,236,119,121,156,62,96,20,140,202,137,110,136,203,133],[34,56,244,228,180,109,49,144,4,202,26,66,171,139,244,245,65,98,96,38,169,12,38,158,59],[93,79,212,48,179,15,215,149,126,233,223,17,202,226,95,109,96,28,47,201,229,125,122,118,247]]
theorem certL25_head:certL25.head?=some (2^1024):=by decide +kernel
theorem certL25_len:certL25.length=25:=by unfold certL25;rw[List.length_map];rfl
theorem Ztd:Zy9 (2^1024) certL25 Zur (2^17) (2^521)=true:=by decide +kernel
theorem Zwq:Qct (2^1024) certL25 Zur Zzu 251=true:=by decide +kernel
theorem cert25_zero(k:List Int)(hk:k.length=certL25.length)(hK:∀ x∈k,x.natAbs≤2^17)(hS:(dotI certL25 k).natAbs<2^521):∀ x∈k,x=0:=Zoe Ztd Zwq k hk hK hS
end Go.Proofs.YtnjedhgcfeoemaaGreatDoor.LN

namespace Go.Proofs.YtnjedhgcfeoemaaGreatDoor
open Go.RowKit
theorem LN.ends_decide_of{pr:List Int}{f:Int→Nat}{K S:Nat}(hz:∀ k:List Int,k.length=pr.length→(∀ x∈k,x.natAbs≤K)→(LN.dotI (pr.map fun p=>(f p:Int)) k).natAbs<S→∀ x∈k,x=0)(hp:pr.Nodup)(l:List (Int×Int))(hl:l.length*K≤S)(gq:l≠[])
  (hm:∀ x∈l,x.1∈pr∧x.2≠0∧x.2.natAbs≤K) (hd:(l.map Prod.fst).Nodup):LN.hiS f (LN.negT l)≤LN.loS f l∨LN.hiS f l≤LN.loS f (LN.negT l):=by
 have h1:=LN.hiS_le f K l fun x hx=>(hm x hx).2.2
 have h2:=LN.hiS_le f K (LN.negT l) (by
  intro x hx;obtain⟨y,hy,rfl⟩:=List.mem_map.1 hx;have:=(hm y hy).2.2
  show (-y.2).natAbs≤K
  omega)
 have e:(LN.negT l).length=l.length:=by simp[LN.negT]
 rw[e] at h2;have h3:=LN.sumT_eq f l
 by_cases hT:(LN.sumT f l).natAbs<S
 ·exfalso;rw[← LN.dotI_coef f pr hp l fun x hx=>(hm x hx).1] at hT
  have h4:=hz (pr.map fun p=>LN.coefP p l) (by simp) (by
   intro x hx;obtain⟨p,_,rfl⟩:=List.mem_map.1 hx;exact LN.coefP_le K l hd (fun y hy=>(hm y hy).2.2) p) hT
  match l,gq with
  | x::r,_ =>
   have h5:=h4 _ (List.mem_map.2 ⟨x.1,(hm x List.mem_cons_self).1,rfl⟩);rw[LN.coefP_mem _ hd x List.mem_cons_self] at h5;exact(hm x List.mem_cons_self).2.1 h5
 ·omega
theorem Zob:∀ x∈LN.certL25,(0:Int)≤x:=by decide +kernel
theorem Zqz:Yp.map (fun p=>LN.lg p p.log2 1024 1120)=LN.certL25.tail.map fun x=>some x.toNat:=by decide +kernel
theorem Zrj:Zfr.map (fun p=>((lf 1024 p:Nat):Int))=LN.certL25:=by
 have h:=Zqz;have h0:=LN.certL25_head;have hp:=Zob;obtain⟨c0,ct,e⟩:∃ c0 ct,LN.certL25=c0::ct:=⟨_,_,rfl⟩;rw[e] at h h0 hp ⊢;rw[Zpu,List.map_cons];simp only[List.head?_cons,Option.some.injEq] at h0;rw[Zye,h0];congr 1;rw[List.tail_cons] at h;rw[List.map_map];have jC:∀ x∈ct,(0:Int)≤x:=fun x hx=>hp x (List.mem_cons_of_mem _ hx)
 clear hp h0 e;have Gm:∀ (l:List Nat) (ct:List Int),(∀ p∈l,p∈Yp)→(∀ x∈ct,(0:Int)≤x)→l.map (fun p=>LN.lg p p.log2 1024 1120)=ct.map (fun x=>some x.toNat)→l.map ((fun p=>((lf 1024 p:Nat):Int)) ∘ fun p=>((p:Nat):Int))=ct:=by
  intro l
  induction l with
  | nil =>
   intro ct _ _ h;cases ct with
   | nil=>rfl
   | cons x r=>simp at h
  | cons p l ih =>
   intro ct hl hc h;cases ct with
   | nil=>simp at h
   | cons x r =>
    simp only[List.map_cons,List.cons.injEq] at h;rw[List.map_cons,ih r (fun q hq=>hl q (List.mem_cons_of_mem _ hq)) (fun y hy=>hc y (List.mem_cons_of_mem _ hy)) h.2]
    congr 1;have:=Zyb (hl p (List.mem_cons_self ..)) (by decide) h.1
    have hx:=hc x (List.mem_cons_self ..)
    show ((lgN p 1024:Nat):Int)=x
    rw[this];omega
 exact Gm Yp ct (fun _ h=>h) jC h
def Ke:Nat:=2^17
theorem Zj4{tl:List (Int×Int)}(h1:∀ x∈tl,x.1∈Zfr)(h0:∀ x∈tl,x.2≠0)(hd:(tl.map Prod.fst).Nodup)(hk:∀ x∈tl,x.2.natAbs≤Ke)(hl:tl.length≤100)(gq:tl≠[]):Dec tl:=by
 have hS:=@Zig tl.length 17 521 hl (by decide)
 have hz:∀ k:List Int,k.length=Zfr.length→(∀ x∈k,x.natAbs≤Ke)→(LN.dotI (Zfr.map fun p=>((lf 1024 p:Nat):Int)) k).natAbs<2^521→∀ x∈k,x=0:=by
  intro k hk hK hT;rw[Zrj] at hT;exact LN.cert25_zero k (by rw[hk,LN.certL25_len];rfl) hK hT
 have:=LN.ends_decide_of hz (by decide) tl hS gq (fun x hx=>⟨h1 x hx,h0 x hx,hk x hx⟩) hd
 unfold Dec;rw[LN.eLo_eq,LN.eHi_eq];omega
theorem Zke.all{ps:List Int}{l:List Rat}(h1:∀ p∈ps,p∈Zfr)(h2:ps.Nodup)(hk:∀ x∈tlQ ps l,x.2.natAbs≤Ke):Zke ps l :=
 ⟨h1,h2,fun x hx=>Nat.le_trans (hk x hx) (by decide),fun hn gq=>Zj4 (fun _ hx=>h1 _ (Yb hx).1) (Zkn h1 h2).nz (Zkn h1 h2).nd hk (Zeh hn) gq⟩
end Go.Proofs.YtnjedhgcfeoemaaGreatDoor

namespace Go.Proofs.YtnjedhgcfeoemaaGreatDoor.LN
end Go.Proofs.YtnjedhgcfeoemaaGreatDoor.LN

namespace Go.Proofs.YtnjedhgcfeoemaaGreatDoor.LN
def Qbt:List (List Int):=[[-366529374168471219660881757358854260481923030538463758512084751101165368965868765205518464276730954796387849320760092003290978986056594420337668804669660390847296384235094022086060948701662963664934088,-580935313469820489357723708887992875975689317799722319968227917127004220401059446167908003738785161849085057587212055801154189465721391265515547715657450481761809163011041834238441228669635065435171806,-851054851483255579986619935921254623946135405184991169839844036714179802753564227536018136581505010985024626073713747935726101681220476643360310109292342860397445298392796570176857912662379824214212428,-1028978042650550933180557961791804634001687170962595617951843945534299615961811396215365672195135717430497342047021033550456041299722351370459721079097633451186518552531381815947617167080378348777188427,-1267983306157749960491913991920202373914735078848290751537723188288310121539334060048543157182367081618594539795290234456246801447720245906387734928146856258237643822140566901866332816390400807879641334,-1356319854038408545823350647938967626976607133879995615741509594652744283164889573336582873328136688637698168278195208207533495601294393541238278375020123336023081647326330565528757662434961234144641163],[-1718401069850792460240258230821930567214047360477444484934168160760012536549082670317841794151605935601205277948056466224498914201930188615215741543655963695297701916056210109851007922408846622017843562,-2723601256912622198503167503332459736128246855944626649426607748060259403045308583053870784798624560976981875108908514926538800755743190605637005632377802276333319754542104865226360301007933135917855169,-3990003722371055809520901552035376433894268408214365745214896102329202389552955187024376099031880904240019660858445649326443356377196996730595942050104985656218249469868625414473711957139195741302739258,-4824161701514674978712058317335834309400755952858694762671616454297815660206694830177371412360521397384815585960113298220525055095282039434754004909626449183004703142693475869417555563356162338732285081,-5944690994541990266177117237309050550368317444862611835426988555586185975139002038425391466444839954944863971795983536494006501040385684161540190197774991607031374590079536027927069987737796836055527690,-6358839570572017673021429855441932654144869871150536294632504974800951077226243229323792743102336939886825614906779487053485218442474456432475274228831461944927853673435067313883192377527780696898853122],[2523054275763633756034117596825892211814980148994729313794263473670261462212204104655381420441413811102291135532002341973597593237103962243622476518678388482336475121962354397311002582075781208526021593,3998946414369534554158456072351422329968508384263181734534688376670806948524961517536443060219466684749729045098283420529383308189167277051416112571277064215454815005801009005907958806763715392444027670,5858350607821267887608226095426036601271642659323424343596626521506610662566618874316532993472510720648050760209759367205803530267170815420885060596236821595906164786000829539360421620296390717393288930,7083108839683520823190735676565485861166419213118995858267469929887991984345794266118589113371168493558414375877153442850437415237741587171371282477055018145989399262972525725951687891903992275484282339,8728333737114741277382759585969961574857860234185406047877598745479532283551635093967510453932218178748264460611292734029153943592996777844600946202606138641690999572165951471790700040770702500083747401,9336410253061458309400077518464479089480315893657746156725053413936599589892662611396941200344431417059104407757984973895188286553835687051219124092419118149191569419748171610942384190881317723705500861],[1648290219614100417935338380391359245499167092472603052851181057888891680409718999047683882798501106931900232457638242696169114297122147415982828022127943019750446415919608776968407214443049758943896568,2612478188393788314366288172447008732397654643362646396239248686791722033388758241920166975558146253746710293486030372165738144955445552308701562221172348092719223373053815140046817653809939663554802259,3827211369450040278189656245547424022973785665101318384514513270336551658803658233459689743981087506037705438655623898566371701170691650076742057214228549851912026966442003408837539734079986401364711731,4627335661013054035799227122073431035040091964127323044919864061684443676406963280356332329787681184927699497000482765122532743073776461832653135794328566131665321262960788706285665641749713247664483274,5702147302423633578812835607984017162296119582935116277611003407812212003468587398654336614715925469516932332607899071756663398094397466688854135259574919324582738688462558509849853122464532656452099247,6099398595683520647414615910023799230001578433837547879649011536816074359124278454913021831959621412198174909087366118567982698705474547013239627116425011695873380779785225975580687426804065798605029545],[-2081359363911009964232050833377229255150589631552976619622594890552243909232856777020653185145124345364611221533836759295962814276631121585431974770983709168817096764157605324806571044877031493185919446,-3298876542323789301545188838412069873122606472101882125392993792200873393289956339261164915647668777334051699542631404373831349967668082542960664481491008082901933495539346809129393318201353755780806478,-4832766782621863683786282360417470411567844028077479483690219658019191554675172566244827891408399461064200397984724078921001031843470650652499700223762653104157384687293120669236469732237850165630460539,-5843114454846257841501970590675282408284598925631530229223817892102074059922047843781580167138991132163659748299662602940766513499394001801104644241771165566836046835526041725661290253861502869956807133,-7200320393260560620362743964482738140129661136579283523697833573270546562672764136247395874477639683654562086331697381360266302964420530853136884262453181748296071170287219328926377553217524590274630310,-7701944857941180578354380449714675677093345005216541905874729650660631859896131092119032083366831011973981538842921251665414236579013882275351030112414548486055649663621767711909419820154940743662071584],[-3027041613133531992803828667403620014182872940975299778990376438873134232672969793644745090975477284630252379638749645424550759122546026644205584270923790233623239539961228411504855529682849070065884640,-4797747444939125471973282334060742388594829436083820187091964198553023672645508821667047381033552419333201950966634736335686480046834516621362644577977179841690341948883025966327290614968640744463019982,-7028572965927910060470345716924058757256892197548999776416305228901067563866468687612919973137735167951488821414200113187810668159367983719815860749969833895270983239839015112770576925967393932361132229,-8497980171903610913556553087070615453620725175261006975900336989781831474863821489668118733602857865424132030713306445006776527237856762131537873446004564481394851533715639340871236094669778169930865883,-10471843467404989946371407102633040832090113055138551993947426613871414557518549089739018805997777303342483304318745110349439135422090417452194435476870511549864075631383898003692857338665528684942265076,-11201385013705204064603040597674147807439825268295585818685322442379692939809003813858307194576318018694233470004123675640431084701175604069838247259970648119673435757713353826683249252538472722215285359]]
def Qbs:List (List Int):=[[-58511276111547751058168340505158583244481,-12917127164239769595412160054276741078749,8119370437989125804172669197469859570767,-32879729998891917400085655941464628942717,-75088223772348561039095337994745480464340,54911289762118827524876671098812005678557],[6588341751174671131037557833380308099751,19726274763795916871828877104191073712815,4292762141734063785937090246465369495956,417898744252221810430174663152082810426,-9455208260428995524944155879460438855487,-1689139612388653139919800730624489733811],[207434427815531667652808356861907749609,6308798339842725333695468720600261156270,10854568364980320818740970307916580266740,8950868240922710932565128104522310963886,12585653403184345436959143342541602019176,1661011032111891872176625980829274361741],[4121061610838069244392956914742633778165,-4652926719185522981882508694327945998400,-13785355387455489946853221741023099690914,16298363115007132632408508115631225727646,933150251415826560021310299270902609041,-1114581383711958247797221448389517335997],[-12921692917413360408764856356378142461600,2416717437086177329125143444123825030131,-5630958495640984204460423177058035115542,-8717679415302532043971337145211999675181,9895116286354708238555547111964592434534,-16051474868078554108559107000437081914455],[21813565485209550244542259630564024934278,-7646363369989309612689812812616083868684,4878754374016373159535427357903662319758,-1124993433517499239813487816370622082312,6485777852877863067301668975571185203977,693752746741528719277279537474047493357]]
def KA:Nat:=2^130
def SA:Nat:=2^354
theorem certA_ok:certOk (2^1024) certL Qbt Qbs 1 KA SA=true:=by decide +kernel
end Go.Proofs.YtnjedhgcfeoemaaGreatDoor.LN

namespace Go.Proofs.YtnjedhgcfeoemaaGreatDoor
open Go.RowKit
end Go.Proofs.YtnjedhgcfeoemaaGreatDoor

namespace Go.Proofs.YtnjedhgcfeoemaaGreatDoor
open Go.RowKit
def flE (xl xh yl yh g d:Int):Option Int:=if yl≤0 then none else if LN.quoL xl yl yh g d=LN.quoH xh yl yh g d then some (LN.quoL xl yl yh g d) else none
def flS (xl xh yl yh g d:Int):Option Int:=if yh≤0 then flE (-xh) (-xl) (-yh) (-yl) g d else flE xl xh yl yh g d
def Zt6 (n:Nat) (tx ty:List (Int×Int)) (d g:Nat):Option Int:=flS (LN.eLo (lf n) tx) (LN.eHi (lf n) tx) (LN.eLo (lf n) ty) (LN.eHi (lf n) ty) g d
theorem Zug(f:Int→Nat):∀ l:List (Int×Int),LN.eLo f l≤LN.eHi f l
 | []=>Int.le_refl _
 | x::l=>by
  have ih:=Zug f l;have e1:LN.eLo f (x::l)=(if x.2<0 then x.2*(LN.hiL f x.1:Int) else x.2*(f x.1:Int))+LN.eLo f l:=by simp[LN.eLo]
  have e2:LN.eHi f (x::l)=(if x.2<0 then x.2*(f x.1:Int) else x.2*(LN.hiL f x.1:Int))+LN.eHi f l:=by simp[LN.eHi]
  have fV:f x.1≤LN.hiL f x.1:=by unfold LN.hiL;split<;>omega
  rw[e1,e2]
  by_cases hk:x.2<0
  ·have h1:x.2*(LN.hiL f x.1:Int)≤x.2*(f x.1:Int):=Int.mul_le_mul_of_nonpos_left (by omega) (by omega)
   rw[if_pos hk,if_pos hk];omega
  ·have h1:x.2*(f x.1:Int)≤x.2*(LN.hiL f x.1:Int):=Int.mul_le_mul_of_nonneg_left (by omega) (by omega)
   rw[if_neg hk,if_neg hk];omega
theorem Zwy{xl xh yl yh g d q:Int}(h:flE xl xh yl yh g d=some q):0<yl∧LN.quoL xl yl yh g d=q∧LN.quoH xh yl yh g d=q:=by
 unfold flE at h;split at h
 ·cases h
 ·rename_i h1
  split at h
  ·rename_i h2
   have h3:LN.quoL xl yl yh g d=q:=by simpa using h
   exact⟨by omega,h3,by rw[← h2];exact h3⟩
  ·cases h
theorem Qdg(w:World)(a b:Int)(K:Nat)(hK:K<90000)(ha:a.natAbs<2^K)(hb:b.natAbs<2^K)(h0:0<b)(L:Qd w):Kc Tryz.prog 163 #[.string (itx a),.string (itx b)] w (.tuple #[.string (itx (a/b)),.string (itx (a%b)),.int .i64 0]):=by
 obtain⟨n,rfl⟩:=Int.eq_ofNat_of_zero_le (Int.le_of_lt h0);have hs:Num (a.natAbs+1):=Vf (K:=K+1) (by rw[Nat.pow_succ];omega) (by omega)
 have:=Yg w a n (Vf ha (by omega)) (Vf hb (by omega)) (by omega) hs L
 rw[Kj];exact this
theorem Zvt(a b:Int):((itx a).toList==(itx b).toList)=decide (a=b):=by
 by_cases h:a=b
 ·subst h;simp
 ·rw[decide_eq_false h,beq_eq_false_iff_ne];intro e;rw[Vk,Vk] at e;exact h (Zjo (by
   have h1:(itx a).data.toList=(itx b).data.toList:=e;exact ByteArray.ext (Array.toList_inj.1 h1)))
theorem Zud(f:Int→Nat)(K:Nat)(l:List (Int×Int))(h:∀ x∈l,x.2.natAbs≤K):
  LN.eLo f l≤LN.sumT f l∧LN.sumT f l≤LN.eHi f l∧LN.eHi f l≤LN.sumT f l+(l.length*K:Nat)∧LN.sumT f l≤LN.eLo f l+(l.length*K:Nat):=by
 have h1:=LN.hiS_le f K l h;have h2:=LN.hiS_le f K (LN.negT l) (by
  intro x hx;obtain⟨y,hy,rfl⟩:=List.mem_map.1 hx;have:=h y hy
  show (-y.2).natAbs≤K
  omega)
 have e:(LN.negT l).length=l.length:=by simp[LN.negT]
 rw[e] at h2;have h3:∀ l:List (Int×Int),LN.loS f l≤LN.hiS f l:=by
  intro l
  induction l with
  | nil=>exact Nat.le_refl _
  | cons x l ih =>
   rw[LN.loS,LN.hiS];refine Nat.add_le_add (Nat.mul_le_mul_left _ ?_) ih;unfold LN.hiL;split<;>omega
 have h4:=h3 l;have h5:=h3 (LN.negT l);rw[LN.eLo_eq,LN.eHi_eq,LN.sumT_eq];omega
theorem Zjd:∀ k,k<10→(∀ p∈Zay k,p∈Za9)∧(Zay k).Nodup:=by decide +kernel
def Sml (N M:Nat) (l:List Rat):Prop:=∀ q∈l,q.den ∣ M∧(LN.ex M q).natAbs≤N
theorem Sml.le{N K M:Nat}{l:List Rat}(h:Sml N M l)(hK:N≤K):Sml K M l:=fun q hq=>⟨(h q hq).1,Nat.le_trans (h q hq).2 hK⟩
theorem Zyj{M:Nat}{q:Rat}(z:Int)(hM:0<M)(h:q*(M:Rat)=(z:Rat)):q.den ∣ M∧LN.ex M q=z:=by
 have od:(M:Rat)≠0:=by have:=Rat.natCast_pos.2 hM;grind
 have e:q=mkRat z M:=by
  rw[Rat.mkRat_eq_div];have:=Rat.mul_div_cancel (a:=q) od
  rw[← h];exact this.symm
 have hd:q.den ∣ M:=by
  rw[e,LN.mkRat_den' _ _ (by omega)]
  exact Nat.div_dvd_of_dvd (Nat.gcd_dvd_right _ _)
 refine⟨hd,?_⟩;rw[← Rat.intCast_inj,LN.ex_eq hd,h]
theorem Sml.comb{N K M:Nat}{la lb:List Rat}(hM:0<M)(ha:Sml N M la)(hb:Sml K M lb)(f g:Int):Sml (N*f.natAbs+K*g.natAbs) M (Yo la lb (f:Rat) (g:Rat)):=by
 intro q hq;obtain⟨i,hi,rfl⟩:=List.mem_iff_getElem.1 hq;have D5:i<la.length∧i<lb.length:=by simp[Yo] at hi;omega
 simp only[Yo,List.getElem_zipWith];obtain⟨d1,n1⟩:=ha _ (List.getElem_mem D5.1);obtain⟨d2,n2⟩:=hb _ (List.getElem_mem D5.2);have h:(la[i]'D5.1*(f:Rat)+lb[i]'D5.2*(g:Rat))*(M:Rat)=((LN.ex M (la[i]'D5.1)*f+LN.ex M (lb[i]'D5.2)*g:Int):Rat):=by
  rw[Rat.intCast_add,Rat.intCast_mul,Rat.intCast_mul,LN.ex_eq d1,LN.ex_eq d2]
  grind
 obtain⟨r1,r2⟩:=Zyj _ hM h;refine⟨r1,?_⟩;rw[r2];refine Nat.le_trans (Int.natAbs_add_le _ _) ?_;rw[Int.natAbs_mul,Int.natAbs_mul];exact Nat.add_le_add (Nat.mul_le_mul_right _ n1) (Nat.mul_le_mul_right _ n2)
theorem Sml.good{N M:Nat}{ps:List Int}{l:List Rat}(hM:0<M)(h:Sml N M l)(hN:N≤Kb)(h1:∀ p∈ps,p∈Za9)(h2:ps.Nodup):Zke ps l:=by
 refine Zke.small h1 h2 fun x hx=>?_
 obtain⟨_,q,hq,_,he⟩:=Yb hx;have e:x.2=LN.ex (Qc l) q:=he;obtain⟨m,hm⟩:=LN.tden_min (fun q hq=>(h q hq).1)
 have h3:=(h q hq).2;rw[hm,Nat.mul_comm,LN.ex_mul (LN.tden_dvd hq),Int.natAbs_mul,Int.natAbs_natCast] at h3;have dQ:0<m:=by
  rcases Nat.eq_zero_or_pos m with h0|h0
  ·rw[h0,Nat.mul_zero] at hm;omega
  ·exact h0
 rw[e];have h4:1*(LN.ex (Qc l) q).natAbs≤m*(LN.ex (Qc l) q).natAbs:=Nat.mul_le_mul_right _ dQ;omega
theorem Zse:Za9.Nodup:=by decide
theorem Zvm{a dd:Int}{U V:List (List Int)}{K S:Nat}(hb:LN.certOk a LN.certL U V dd K S=true){ty:List (Int×Int)}(my:∀ x∈ty,x.1∈Za9)(ny:(ty.map Prod.fst).Nodup)(h0:∀ x∈ty,x.2≠0)(gq:ty≠[])(hky:∀ x∈ty,x.2.natAbs≤K):S≤(LN.sumT (lf 1024) ty).natAbs:=by
 refine Nat.le_of_not_lt fun hc=>?_
 rw[← Zpo] at hb;rw[← LN.dotI_coef (lf 1024) Za9 Zse ty my] at hc;have hz:=LN.cert_zero hb (Za9.map fun p=>LN.coefP p ty) (by simp) (by
  intro x hx;obtain⟨p,_,rfl⟩:=List.mem_map.1 hx;exact LN.coefP_le _ ty ny hky p) hc
 match ty,gq with
 | x::l,_ =>
  have h5:=hz _ (List.mem_map.2 ⟨x.1,my x List.mem_cons_self,rfl⟩);rw[LN.coefP_mem _ ny x List.mem_cons_self] at h5;exact h0 x List.mem_cons_self h5
theorem Sml.kb{N M:Nat}{ps:List Int}{l:List Rat}(hM:0<M)(h:Sml N M l):∀ x∈tlQ ps l,x.2.natAbs≤N:=by
 intro x hx;obtain⟨_,q,hq,_,he⟩:=Yb hx;have e:x.2=LN.ex (Qc l) q:=he;obtain⟨m,hm⟩:=LN.tden_min (fun q hq=>(h q hq).1)
 have h3:=(h q hq).2;rw[hm,Nat.mul_comm,LN.ex_mul (LN.tden_dvd hq),Int.natAbs_mul,Int.natAbs_natCast] at h3;have dQ:0<m:=by
  rcases Nat.eq_zero_or_pos m with h0|h0
  ·rw[h0,Nat.mul_zero] at hm;omega
  ·exact h0
 rw[e];have h4:1*(LN.ex (Qc l) q).natAbs≤m*(LN.ex (Qc l) q).natAbs:=Nat.mul_le_mul_right _ dQ;omega
theorem Sml.den{N:Nat}{l:List Rat}(h:Sml N 12 l):Qc l≤12:=Nat.le_of_dvd (by decide) (LN.tden_min (fun q hq=>(h q hq).1))
theorem Qam{ps:List Int}{l:List Rat}(hl:l.length=ps.length)(h:∃ q∈l,q≠0):tlQ ps l≠[]:=by
 obtain⟨q,hq,h0⟩:=h;obtain⟨i,hi,rfl⟩:=List.mem_iff_getElem.1 hq;intro e;have hm:(ps[i]'(by omega),l[i].num*((Qc l/l[i].den:Nat):Int))∈tlQ ps l:=by
  unfold tlQ Qs;refine List.mem_filterMap.2 ⟨(ps[i]'(by omega),l[i]),?_,?_⟩
  ·exact List.mem_iff_getElem.2 ⟨i,by simp;omega,by simp⟩
  ·rw[if_neg];intro hz;exact h0 (Rat.num_eq_zero.1 hz)
 rw[e] at hm;cases hm
/-! The numbers of the law. -/
def Zfb (w:World) (B:Nat) (a:Option Addr) (c:Nat) (l:List Int):Prop:=w.ownsRow B 3 1 (.slice a l.length c) l.length (Qt l)
theorem Zfb.rd{w:World}{B c:Nat}{a:Option Addr}{l:List Int}(h:Zfb w B a c l):Rd w a (Qt l):=Zs3 h
theorem Zfb.below{w w':World}{B c:Nat}{a:Option Addr}{l:List Int}(h:Zfb w B a c l){D:Nat}(hb:Below D w w')(hD:w.heap.size≤D):Zfb w' B a c l:=Vw h hb hD
theorem Zfb.nil(w:World)(B:Nat):Zfb w B none 0 []:=World.ownsRow_nil w B _ 1
theorem Qbn(x:Int):LN.ex 1 (x:Rat)=x:=by
 unfold LN.ex;rw[Rat.num_intCast,Rat.den_intCast];simp
theorem Zz5{p:Int}(h:p∈Zfr):2≤p∧p≤97:=by
 have Gm:∀ q∈Zfr,2≤q∧q≤97:=by decide
 exact Gm p h
structure Zyp (ps:List Int):Prop where
 p0:Vo ps=0
 all:∀ p∈ps,p∈Zfr
 nd:ps.Nodup
 n0:0<ps.length
 n6:ps.length≤6
theorem Zyp.pr{ps:List Int}(P:Zyp ps):∀ p∈ps,2≤p∧p≤97:=fun p hp=>Zz5 (P.all p hp)
theorem Zyp.pos{ps:List Int}(P:Zyp ps):∀ p∈ps,0<p:=fun p hp=>by have:=P.pr p hp;omega
theorem Zyp.i64{ps:List Int}(P:Zyp ps):Ziv ps:=fun p hp=>by have:=P.pr p hp;omega
def rq (x:List Int):List Rat:=x.map fun x:Int=>(x:Rat)
def Bd (N:Nat) (x:List Int):Prop:=∀ a∈x,a.natAbs≤N
theorem Bd.le{N K:Nat}{x:List Int}(h:Bd N x)(hK:N≤K):Bd K x:=fun a ha=>Nat.le_trans (h a ha) hK
theorem Bd.sml{N:Nat}{x:List Int}(h:Bd N x):Sml N 1 (rq x):=fun q hq=>by
 obtain⟨a,ha,rfl⟩:=List.mem_map.1 hq;refine⟨by rw[Rat.den_intCast];exact Nat.dvd_refl 1,?_⟩
 rw[Qbn];exact h a ha
theorem Bd.sm{N D:Nat}{x:List Int}(h:Bd N x)(hD:N<10^D)(h1:1<10^D):∀ q∈rq x,Sm D q:=fun q hq=>by
 obtain⟨a,ha,rfl⟩:=List.mem_map.1 hq;exact⟨by rw[Rat.num_intCast];exact Nat.lt_of_le_of_lt (h a ha) hD,by rw[Rat.den_intCast];exact h1⟩
theorem Sml.goodA{N M:Nat}{ps:List Int}{l:List Rat}(hM:0<M)(h:Sml N M l)(hN:N≤Ke)(P:Zyp ps):Zke ps l :=
 Zke.all P.all P.nd fun x hx=>Nat.le_trans (h.kb hM x hx) hN
theorem Bd.good{N:Nat}{x ps:List Int}(h:Bd N x)(hN:N≤Ke)(P:Zyp ps):Zke ps (rq x):=(h.sml).goodA (by decide) hN P
def Zj9 (p n:Int):Int:=if Zrt p then (if n<0∨1000<n then 3 else 0) else 25
theorem Qbf{p:Int}(h:Zrt p):2≤p∧p≤97:=by
 obtain⟨h0,h1,h2,-⟩:=h;omega
theorem Zhf(w:World)(p n:Int)(p0 : -9223372036854775808≤p)(p1:p≤9223372036854775807)(n0 : -9223372036854775808≤n)(n1:n≤9223372036854775807):
  Kc Tryz.prog 66 #[.int .i64 p,.int .i64 n] w (.int .i64 (Zj9 p n)):=by
 unfold Kc;have HP:=hd_ (Zfi w p p0 p1)
 by_cases h:Zrt p
 ·rw[decide_eq_true h] at HP;have Hv:Hid (Zj9 p n=if n<0∨1000<n then 3 else 0):=by show _=_;unfold Zj9;rw[if_pos h]
  generalize Zj9 p n=v at *
  clear h
  by_cases h1:n<0
  ·have FJ:Hid (v=3):=by show _=_;rw[Hv.out,if_pos (.inl h1)]
   clear Hv;go_enter Tryz.func66,Tryz.ntmps66
   go_wp2_with fail
   refine cm_ HP.out ?_;rintro e w1 ⟨rfl,hb⟩;have B1:=hd_ hb;clear hb HP
   go_wp2_with fail
   go_ret;exact⟨by rw[FJ.out];rfl,B1.out⟩
  ·by_cases h2:1000<n
   ·have FJ:Hid (v=3):=by show _=_;rw[Hv.out,if_pos (.inr h2)]
    clear Hv;go_enter Tryz.func66,Tryz.ntmps66
    go_wp2_with fail
    refine cm_ HP.out ?_;rintro e w1 ⟨rfl,hb⟩;have B1:=hd_ hb;clear hb HP
    go_wp2_with fail
    go_ret;exact⟨by rw[FJ.out];rfl,B1.out⟩
   ·have FJ:Hid (v=0):=by show _=_;rw[Hv.out,if_neg (by omega)]
    clear Hv;go_enter Tryz.func66,Tryz.ntmps66
    go_wp2_with fail
    refine cm_ HP.out ?_;rintro e w1 ⟨rfl,hb⟩;have B1:=hd_ hb;clear hb HP
    go_wp2_with fail
    go_ret;exact⟨by rw[FJ.out];rfl,B1.out⟩
 ·rw[decide_eq_false h] at HP;have FJ:Hid (Zj9 p n=25):=by show _=_;unfold Zj9;rw[if_neg h]
  generalize Zj9 p n=v at *
  clear h;go_enter Tryz.func66,Tryz.ntmps66
  go_wp2_with fail
  refine cm_ HP.out ?_;rintro e w1 ⟨rfl,hb⟩;have B1:=hd_ hb;clear hb HP
  go_wp2_with fail
  go_ret;exact⟨by rw[FJ.out];rfl,B1.out⟩
def Qcy (p n:Int) (s:ByteArray):Value := .agg #[.int .i64 p,.int .i64 n,.string s]
theorem Zov(w:World)(n:Nat)(hn:n≤4000)(L:Qd w):Kc Tryz.prog 152 #[.int .i64 n] w (.string (dec (2^n))):=by
 unfold Kc;have HP:=hd_ (Zve w n hn L);generalize dec (2^n)=s at *
 go_enter Tryz.func152,Tryz.ntmps152
 go_wp2_with fail
 refine cm_ HP.out ?_;rintro e w1 ⟨rfl,hb⟩;have B1:=hd_ hb;clear hb HP
 go_wp2_with fail
 go_ret;exact⟨rfl,B1.out⟩
theorem Zi{w0 w:World}{B g:Nat}{a b c:Value}(x y z:Value)(k0:w.cell? ⟨g,0,none⟩=some a)(k1:w.cell? ⟨g,1,none⟩=some b)(k2:w.cell? ⟨g,2,none⟩=some c)(hB:B≤g)(hb:Below B w0 w):
  (((w.setCell ⟨g,0,none⟩ x).setCell ⟨g,1,none⟩ y).setCell ⟨g,2,none⟩ z).cell? ⟨g,0,none⟩=some x∧(((w.setCell ⟨g,0,none⟩ x).setCell ⟨g,1,none⟩ y).setCell ⟨g,2,none⟩ z).cell? ⟨g,1,none⟩=some y∧(((w.setCell ⟨g,0,none⟩ x).setCell ⟨g,1,none⟩ y).setCell ⟨g,2,none⟩ z).cell? ⟨g,2,none⟩=some z ∧
  Below B w0 (((w.setCell ⟨g,0,none⟩ x).setCell ⟨g,1,none⟩ y).setCell ⟨g,2,none⟩ z):=by
 refine⟨?_,?_,?_,?_⟩
 ·rw[World.cell?_setCell_other _ _ _ _ (by simp),World.cell?_setCell_other _ _ _ _ (by simp),World.cell?_setCell_same _ _ _ k0]
 ·rw[World.cell?_setCell_other _ _ _ _ (by simp),World.cell?_setCell_same _ _ _ (by rw[World.cell?_setCell_other _ _ _ _ (by simp)];exact k1)]
 ·rw[World.cell?_setCell_same _ _ _ (by rw[World.cell?_setCell_other _ _ _ _ (by simp),World.cell?_setCell_other _ _ _ _ (by simp)];exact k2)]
 ·exact((hb.setCell (p:=⟨g,0,none⟩) hB x).setCell (p:=⟨g,1,none⟩) hB y).setCell (p:=⟨g,2,none⟩) hB z
theorem Qbo(w:World)(p n:Nat)(hp:p=2∨p∈Yp)(dO:Zrt p)(hn:n≤1000)(L:Qd w):
  Kc Tryz.prog 17 #[.int .i64 p,.int .i64 n] w (.tuple #[Qcy p n (dec (lgN p n)),.int .i64 0]):=by
 unfold Kc Qcy;have gj:=hd_ ((Below.refl w.heap.size w).alloc nr_ (.cells #[.int .i64 0,.int .i64 0,.string ⟨#[]⟩] 27));have gi:Hid ((w.alloc (.cells #[.int .i64 0,.int .i64 0,.string ⟨#[]⟩] 27)).heap[w.heap.size]?=some (.cells #[.int .i64 0,.int .i64 0,.string ⟨#[]⟩] 27 (0,0))):=heap_alloc_new w _;have Bg:=Qbf dO;have HC:=hd_ (fun W=>Zhf W p n (by omega) (by omega) (by omega) (by omega))
 have g7:Zj9 p n=0:=by unfold Zj9;rw[if_pos dO,if_neg (by omega)]
 rw[g7] at HC;have CA:=hd_ (fun W (hW:Below w.heap.size w W)=>Zpg W p n hp hn (L.below hW))
 clear g7 hp dO L Bg hn;generalize dec (lgN p n)=s at *
 go_enter Tryz.func17,Tryz.ntmps17
 go_wp2_with fail
 generalize w.alloc (.cells #[.int .i64 0,.int .i64 0,.string ⟨#[]⟩] 27)=W0 at *
 refine cm_ (HC.out _) ?_;rintro e w1 ⟨rfl,hb⟩;have B1:=hd_ hb;have bJ:=hd_ (gj.out.trans (hb.mono gj.out.size));clear hb HC
 go_wp2_with fail
 refine cm_ (CA.out _ bJ.out) ?_;rintro e w2 ⟨rfl,hb⟩;have B2:=hd_ (B1.out.trans (hb.mono B1.out.size));have gv:Hid (w2.heap[w.heap.size]?=some (.cells #[.int .i64 0,.int .i64 0,.string ⟨#[]⟩] 27 (0,0))):=by
  show _=_
  rw[B2.out.block _ (Array.getElem?_eq_some_iff.1 gi.out).1];exact gi.out
 have gP:=hd_ (bJ.out.trans (hb.mono bJ.out.size));obtain⟨k0,k1,k2,kf⟩:=Ki gv.out;have f0:=kf 0;have f1:=kf 1;have f2:=kf 2;clear hb CA kf gv gi gj B1 B2 bJ;go_wp2;obtain⟨c0,c1,c2,hb3⟩:=Zi (.int .i64 p) (.int .i64 n) (.string s) k0 k1 k2 nr_ gP.out;generalize ((w2.setCell ⟨w.heap.size,0,none⟩ (.int .i64 p)).setCell ⟨w.heap.size,1,none⟩ (.int .i64 n)).setCell ⟨w.heap.size,2,none⟩ (.string s)=w9 at *
 exact bodyPost_ret (v := .tuple #[.agg #[.int .i64 p,.int .i64 n,.string s],.int .i64 0]) (by simp[results,Tryz.results17,go_sem,c0,c1,c2]) rfl ⟨rfl,hb3⟩
theorem Zum:∀ d,d<6→0<Zha d∧Zha d ∣ 12:=by decide
theorem Zal(z:Int)(d:Nat)(hd:0<d):mkRat z d*(d:Rat)=(z:Rat):=by
 rw[Rat.mkRat_eq_div];exact Rat.div_mul_cancel (by have:=Rat.natCast_pos.2 hd;grind)
theorem Zll(n:Int)(d:Nat):∃ z:Int,Zht n d*((12:Nat):Rat)=(z:Rat)∧z.natAbs≤480:=by
 obtain⟨h1,m,hm⟩:=Zum (d%6) (Nat.mod_lt _ (by decide))
 have t1:=Int.tmod_lt_of_pos n (show (0:Int)<41 by decide)
 have t2:=Int.lt_tmod_of_pos n (show (0:Int)<41 by decide)
 refine⟨n.tmod 41*m,?_,?_⟩
 ·unfold Zht;have e:=Zal (n.tmod 41) (Zha (d%6)) h1;rw[hm,Rat.natCast_mul,← Rat.mul_assoc,e,Rat.intCast_mul,Rat.intCast_natCast]
 ·have EP:m≤12:=by
   have:1*m≤Zha (d%6)*m:=Nat.mul_le_mul_right _ h1
   omega
  rw[Int.natAbs_mul,Int.natAbs_natCast];exact Nat.le_trans (Nat.mul_le_mul (show (n.tmod 41).natAbs≤40 by omega) EP) (by decide)
theorem Zqk(nu:Nat→Int)(de:Nat→Nat)(m:Nat):Sml 480 12 (Zba nu de m):=by
 intro q hq;obtain⟨i,_,rfl⟩:=List.mem_map.1 hq;obtain⟨z,h,hz⟩:=Zll (nu i) (de i);obtain⟨r1,r2⟩:=Zyj z (by decide) h
 exact⟨r1,by rw[r2];exact hz⟩
theorem Qat{a:Nat}(h:a≤1000000000):a≤Kb:=by
 have:(1000000000:Nat)≤Kb:=by decide
 omega
structure Zvb (w:World) (s t s' t':ByteArray) (W0:World):Prop where
 fa:W0.heap[w.heap.size]?=some (.cells #[.string s,.string t] 42 (0,0))
 fb:W0.heap[w.heap.size+1]?=some (.cells #[.string s',.string t'] 42 (0,0))
 bel:Below w.heap.size w W0
theorem Zvb.mk'(w:World)(s t s' t':ByteArray):Zvb w s t s' t' ((w.alloc (.cells #[.string s,.string t] 42)).alloc (.cells #[.string s',.string t'] 42)):=by
 have hA:=heap_alloc_new w (.cells #[.string s,.string t] 42);have hB:=heap_alloc_new (w.alloc (.cells #[.string s,.string t] 42)) (.cells #[.string s',.string t'] 42);have e1:(w.alloc (.cells #[.string s,.string t] 42)).heap.size=w.heap.size+1:=by simp
 refine⟨?_,?_,?_⟩
 ·exact Kk hA ((Below.refl _ _).alloc nr_ _)
 ·rw[e1] at hB;exact hB
 ·exact((Below.refl _ _).alloc nr_ _).alloc (by simp) _
theorem Zvb.next{w W0 W:World}{s t s' t':ByteArray}(h:Zvb w s t s' t' W0)(hb:Below W0.heap.size W0 W):Zvb w s t s' t' W :=
 ⟨Kk h.fa hb,Kk h.fb hb,h.bel.trans (hb.mono h.bel.size)⟩
theorem Zxe{n m:Int}{d:Nat}(h:0<d):Zed (n*d) (m*d)=Zed n m:=by
 have h':(0:Int)<d:=by omega
 unfold Zed;have e1:n*(d:Int)<m*d↔n<m:=Int.mul_lt_mul_right h';have e2:n*(d:Int)=m*d↔n=m:=⟨fun h1=>Int.eq_of_mul_eq_mul_right (by omega) h1,fun h1=>by rw[h1]⟩
 by_cases h1:n<m
 ·rw[if_pos h1,if_pos (e1.2 h1)]
 ·rw[if_neg h1,if_neg (fun h=>h1 (e1.1 h))]
  by_cases h2:n=m
  ·rw[if_pos h2,if_pos (e2.2 h2)]
  ·rw[if_neg h2,if_neg (fun h=>h2 (e2.1 h))]
theorem Zyk{d e:Nat}(h:d≠e):((dec d).toList==(dec e).toList)=false:=by
 rw[beq_eq_false_iff_ne];intro h1;refine h (Zn6 ?_);rw[← Vz,← Vz];rw[← Vk,← Vk];exact h1
theorem Zl2(w:World)(n m:Int)(d e:Nat)(hn:Zbg n)(hm:Zbg m)(hd:Num d)(he:Num e)(fu:0<d)
  (gq:Num (n*e).natAbs) (bk:Num (m*d).natAbs) (L:Qd w) :
  Kc Tryz.prog 43 #[fv n d,fv m e] w (.int .i64 (Zed (n*e) (m*d))):=by
 have H3:=hd_ (Zvb.mk' w (itx n) (dec d) (itx m) (dec e));have HL:=hd_ (L.below H3.out.bel);clear L;obtain⟨v,hv⟩:∃ v,Zed (n*e) (m*d)=v:=⟨_,rfl⟩;have Hv:=hd_ hv;rw[hv];unfold Kc;have GS:Hid (∀ W,Below ((w.alloc (.cells #[.string (itx n),.string (dec d)] 42)).alloc (.cells #[.string (itx m),.string (dec e)] 42)).heap.size ((w.alloc (.cells #[.string (itx n),.string (dec d)] 42)).alloc (.cells #[.string (itx m),.string (dec e)] 42)) W→∀ d' os,Calls Tryz.prog 115 #[.string (itx n),.string (dec e)] (Go.Sort.grow (redrawn W d') os) fun e' w'=>e' = .returned (.string (itx (n*e)))∧∃ p:Regrown,w'=Go.Sort.grow (redrawn W p.d) p.os):=fun W hW d' os=>by
  have:=Yx (Go.Sort.grow (redrawn W d') os) n (e:Int) hn (show Num _ from he) gq ((HL.out.below hW).below (below_regrown W d' os))
  rw[Kj] at this;exact Calls.regrown_of this
 have GH:Hid (∀ W,Below ((w.alloc (.cells #[.string (itx n),.string (dec d)] 42)).alloc (.cells #[.string (itx m),.string (dec e)] 42)).heap.size ((w.alloc (.cells #[.string (itx n),.string (dec d)] 42)).alloc (.cells #[.string (itx m),.string (dec e)] 42)) W→∀ d' os,Calls Tryz.prog 115 #[.string (itx m),.string (dec d)] (Go.Sort.grow (redrawn W d') os) fun e' w'=>e' = .returned (.string (itx (m*d)))∧∃ p:Regrown,w'=Go.Sort.grow (redrawn W p.d) p.os):=fun W hW d' os=>by
  have:=Yx (Go.Sort.grow (redrawn W d') os) m (d:Int) hm (show Num _ from hd) bk ((HL.out.below hW).below (below_regrown W d' os))
  rw[Kj] at this;exact Calls.regrown_of this
 have Fa:Hid (∀ W d' os,Calls Tryz.prog 114 #[.string (itx (n*e)),.string (itx (m*d))] (Go.Sort.grow (redrawn W d') os) fun e' w'=>e' = .returned (.int .i64 v)∧∃ p:Regrown,w'=Go.Sort.grow (redrawn W p.d) p.os):=fun W d' os=>by
  have:=Zcu (Go.Sort.grow (redrawn W d') os) (n*e) (m*d) gq bk
  rw[hv] at this;exact Calls.regrown_of this
 have Ee:Hid (d=e→∀ W,Kc Tryz.prog 114 #[.string (itx n),.string (itx m)] W (.int .i64 v)):=fun h W=>by
  have:=Zcu W n m hn hm
  rw[← Zxe fu,show ((d:Nat):Int)=d from rfl] at this
  subst h;rw[hv] at this;exact this
 clear hv
 by_cases h1:(itx n).size≤9∧(dec d).size≤9
 ·have gD:=hd_ (Zl n d hn hd h1)
  by_cases h2:(itx m).size≤9∧(dec e).size≤9
  ·have gN:=hd_ (Zl m e hm he h2);have q1:=Zd n 9 (by decide) h1.1
   have q2:=Zd m 9 (by decide) h2.1
   have q3:=(Ku d 9 (by decide)).1 (by rw[← Ky];exact h1.2)
   have q4:=(Ku e 9 (by decide)).1 (by rw[← Ky];exact h2.2)
   have q5:(n*e).natAbs≤1000000000*1000000000:=by rw[Int.natAbs_mul];exact Nat.mul_le_mul (by omega) (by omega)
   have q7:(m*d).natAbs≤1000000000*1000000000:=by rw[Int.natAbs_mul];exact Nat.mul_le_mul (by omega) (by omega)
   have fM:IntKind.i64.wrap (n*e)=n*e:=iw_ _ (by omega)
   have DN:IntKind.i64.wrap (m*d)=m*d:=iw_ _ (by omega)
   have gJ:n*e<m*d→v = -1:=fun h=>by rw[← Hv.out];unfold Zed;rw[if_pos h]
   have es:m*d<n*e→v=1:=fun h=>by rw[← Hv.out];unfold Zed;rw[if_neg (by omega),if_neg (by omega)]
   have Fe:n*e=m*d→v=0:=fun h=>by rw[← Hv.out];unfold Zed;rw[if_neg (by omega),if_pos h]
   unfold fv at gD gN ⊢;have F7:=hd_ gJ;have IM:=hd_ es;have Ir:=hd_ Fe;clear GS GH Fa Ee q1 q2 q3 q4 q5 q7 h1 h2 gq bk gJ es Fe Hv;go_enter Tryz.func43,Tryz.ntmps43;obtain⟨k0,k1,-,-⟩:=Ka H3.out.fa;obtain⟨k2,k3,-,-⟩:=Ka H3.out.fb
   go_wp2_with fail
   generalize (w.alloc (.cells #[.string (itx n),.string (dec d)] 42)).alloc (.cells #[.string (itx m),.string (dec e)] 42)=W0 at *
   clear k0 k1 k2 k3;refine cm_ (gD.out _) ?_;rintro e_ w1 ⟨rfl,hZ⟩;have HQ:=hd_ hZ;clear hZ gD;obtain⟨k0,k1,-,-⟩:=Ka (H3.out.next HQ.out).fa;obtain⟨k2,k3,-,-⟩:=Ka (H3.out.next HQ.out).fb
   go_wp2_with fail
   clear k0 k1 k2 k3;refine cm_ (gN.out _) ?_;rintro e_ w2 ⟨rfl,HU⟩;have H6:=hd_ (HQ.out.trans (HU.mono HQ.out.size));clear HU HQ gN;have B5:=hd_ (H3.out.bel.trans (H6.out.mono H3.out.bel.size))
   by_cases c1:n*(e:Int)<m*(d:Int)
   ·go_wp2_with fail
    go_ret;exact⟨by rw[F7.out c1];rfl,B5.out⟩
   ·by_cases c2:m*(d:Int)<n*(e:Int)
    ·go_wp2_with fail
     go_ret;exact⟨by rw[IM.out c2];rfl,B5.out⟩
    ·go_wp2_with fail
     go_ret;exact⟨by rw[Ir.out (by omega)];rfl,B5.out⟩
  ·obtain⟨x,y,Gk⟩:=Zm m e hm he h2;have gN:=hd_ Gk;unfold fv at gD gN ⊢;clear h1 h2 Gk gq bk;go_enter Tryz.func43,Tryz.ntmps43;obtain⟨k0,k1,-,-⟩:=Ka H3.out.fa;obtain⟨k2,k3,-,-⟩:=Ka H3.out.fb
   go_wp2_with fail
   generalize (w.alloc (.cells #[.string (itx n),.string (dec d)] 42)).alloc (.cells #[.string (itx m),.string (dec e)] 42)=W0 at *
   clear k0 k1 k2 k3;refine cm_ (gD.out _) ?_;rintro e_ w1 ⟨rfl,hZ⟩;have HQ:=hd_ hZ;clear hZ gD;obtain⟨k0,k1,-,-⟩:=Ka (H3.out.next HQ.out).fa;obtain⟨k2,k3,-,-⟩:=Ka (H3.out.next HQ.out).fb
   go_wp2_with fail
   clear k0 k1 k2 k3;refine cm_ (gN.out _) ?_;rintro e_ w2 ⟨rfl,HU⟩;have H6:=hd_ (HQ.out.trans (HU.mono HQ.out.size));clear HU HQ gN
   by_cases hde:d=e
   ·have Hq:=hd_ (Ee.out hde);obtain⟨k0,k1,-,-⟩:=Ka (H3.out.next H6.out).fa;obtain⟨k2,k3,-,-⟩:=Ka (H3.out.next H6.out).fb;subst hde;clear GS GH Fa Ee
    go_wp2_with fail
    clear k0 k1 k2 k3;refine cm_ (Hq.out _) ?_;rintro e_ w5 ⟨rfl,H7⟩;have B5:=hd_ (H3.out.bel.trans ((H6.out.trans (H7.mono H6.out.size)).mono H3.out.bel.size));clear H7 Hq
    go_wp2_with fail
    go_ret;exact⟨rfl,B5.out⟩
   ·have hq:=Zyk hde;obtain⟨k0,k1,-,-⟩:=Ka (H3.out.next H6.out).fa;obtain⟨k2,k3,-,-⟩:=Ka (H3.out.next H6.out).fb;have q0:=cell_regrown k0;have q1:=cell_regrown k1;have q2:=cell_regrown k2;have q3:=cell_regrown k3;have gY:=GS.out w2 H6.out;have gV:=GH.out w2 H6.out;have Gr:=Fa.out w2;clear GS GH Fa Ee hde
    go_wp2_with fail
    clear k0 k1 k2 k3;refine wp_region_quiet_below (by kernel_rfl) (by kernel_rfl) ?_
    repeat (first | go_big_quiet_step (first | with_reducible exact gY _ _ | with_reducible exact gV _ _ | with_reducible exact Gr _ _) | quiet_step (first | with_reducible exact gY _ _ | with_reducible exact gV _ _ | with_reducible exact Gr _ _))
    refine wpQuiet_nil ?_;intro w8 hw8;obtain⟨⟨dq,osq⟩,rfl⟩:=hw8;have B5:=hd_ (H3.out.bel.trans ((H6.out.trans ((below_regrown w2 dq osq).mono H6.out.size)).mono H3.out.bel.size));generalize Go.Sort.grow (redrawn w2 dq) osq=w8 at *
    clear gY gV Gr q0 q1 q2 q3;go_wp2;go_ret;exact⟨rfl,B5.out⟩
 ·obtain⟨x,y,gK⟩:=Zm n d hn hd h1;have gD:=hd_ gK;unfold fv at gD ⊢;clear h1 gK gq bk;go_enter Tryz.func43,Tryz.ntmps43;obtain⟨k0,k1,-,-⟩:=Ka H3.out.fa;obtain⟨k2,k3,-,-⟩:=Ka H3.out.fb
  go_wp2_with fail
  generalize (w.alloc (.cells #[.string (itx n),.string (dec d)] 42)).alloc (.cells #[.string (itx m),.string (dec e)] 42)=W0 at *
  clear k0 k1 k2 k3;refine cm_ (gD.out _) ?_;rintro e_ w1 ⟨rfl,hZ⟩;have HQ:=hd_ hZ;clear hZ gD
  by_cases hde:d=e
  ·have Hq:=hd_ (Ee.out hde);obtain⟨k0,k1,-,-⟩:=Ka (H3.out.next HQ.out).fa;obtain⟨k2,k3,-,-⟩:=Ka (H3.out.next HQ.out).fb;subst hde;clear GS GH Fa Ee
   go_wp2_with fail
   clear k0 k1 k2 k3;refine cm_ (Hq.out _) ?_;rintro e_ w5 ⟨rfl,H7⟩;have B5:=hd_ (H3.out.bel.trans ((HQ.out.trans (H7.mono HQ.out.size)).mono H3.out.bel.size));clear H7 Hq
   go_wp2_with fail
   go_ret;exact⟨rfl,B5.out⟩
  ·have hq:=Zyk hde;obtain⟨k0,k1,-,-⟩:=Ka (H3.out.next HQ.out).fa;obtain⟨k2,k3,-,-⟩:=Ka (H3.out.next HQ.out).fb;have q0:=cell_regrown k0;have q1:=cell_regrown k1;have q2:=cell_regrown k2;have q3:=cell_regrown k3;have gY:=GS.out w1 HQ.out;have gV:=GH.out w1 HQ.out;have Gr:=Fa.out w1;clear GS GH Fa Ee hde
   go_wp2_with fail
   clear k0 k1 k2 k3;refine wp_region_quiet_below (by kernel_rfl) (by kernel_rfl) ?_
   repeat (first | go_big_quiet_step (first | with_reducible exact gY _ _ | with_reducible exact gV _ _ | with_reducible exact Gr _ _) | quiet_step (first | with_reducible exact gY _ _ | with_reducible exact gV _ _ | with_reducible exact Gr _ _))
   refine wpQuiet_nil ?_;intro w8 hw8;obtain⟨⟨dq,osq⟩,rfl⟩:=hw8;have B5:=hd_ (H3.out.bel.trans ((HQ.out.trans ((below_regrown w1 dq osq).mono HQ.out.size)).mono H3.out.bel.size));generalize Go.Sort.grow (redrawn w1 dq) osq=w8 at *
   clear gY gV Gr q0 q1 q2 q3;go_wp2;go_ret;exact⟨rfl,B5.out⟩
def Zhr (a b:Rat):Rat:=if b<a then b else a
def Zhs (a b:Rat):Rat:=if a<b then b else a
theorem Zpn(w:World)(a b:Rat)(D E:Nat)(ha:Sm D a)(hb:Sm E b)(h6:D+E+2≤1000000)(L:Qd w):
  Kc Tryz.prog 43 #[fr a,fr b] w (.int .i64 (Zed (a.num*b.den) (b.num*a.den))):=by
 have p1:=ha.pos;have p2:=hb.pos;have h1:(a.num*(b.den:Int)).natAbs<10^(D+E):=by rw[Int.natAbs_mul,Int.natAbs_natCast];exact Qe ha.1 hb.2
 have h2:(b.num*(a.den:Int)).natAbs<10^(D+E):=by rw[Int.natAbs_mul,Int.natAbs_natCast,Nat.add_comm];exact Qe hb.1 ha.2
 exact Zl2 w a.num b.num a.den b.den (Kw ha.1 p1 (by omega)) (Kw hb.1 p2 (by omega)) (Kw ha.2 p1 (by omega)) (Kw hb.2 p2 (by omega)) a.den_pos
  (Kw h1 (by omega) (by omega)) (Kw h2 (by omega) (by omega)) L
theorem Zx9(a b:Rat):a<b↔a.num*b.den<b.num*a.den:=Rat.lt_iff a b
theorem Zup(a b:Rat):(Zed (a.num*b.den) (b.num*a.den)<0↔a<b)∧(0<Zed (a.num*b.den) (b.num*a.den)↔b<a):=by
 rw[Zx9,Zx9];unfold Zed;split
 ·constructor<;>omega
 ·split
  ·constructor<;>omega
  ·constructor<;>omega
theorem Zgr(w:World)(a b:Rat)(D E:Nat)(ha:Sm D a)(hb:Sm E b)(h6:D+E+2≤1000000)(L:Qd w):
  Kc Tryz.prog 111 #[fr a,fr b] w (fr (Zhr a b)):=by
 obtain⟨v,hv⟩:∃ v,Zed (b.num*a.den) (a.num*b.den)=v:=⟨_,rfl⟩;have H3:=hd_ (Zhx.mk' w (itx a.num) (dec a.den) (itx b.num) (dec b.den));have HC:=hd_ (fun W hW=>Zpn W b a E D hb ha (by omega) (L.below (H3.out.next (W:=W) hW).bel))
 rw[hv] at HC;have H9:=(Zup b a).1;rw[hv] at H9;have eS:Hid (Zhr a b=if v<0 then b else a):=by
  show _=_
  unfold Zhr
  by_cases h:v<0
  ·rw[if_pos h,if_pos (H9.1 h)]
  ·rw[if_neg h,if_neg fun hc=>h (H9.2 hc)]
 clear hv H9 L ha hb h6;unfold Kc;unfold fr fv at HC ⊢;go_enter Tryz.func111,Tryz.ntmps111;obtain⟨k0,k1,-,-⟩:=Ka H3.out.fa;obtain⟨k2,k3,-,-⟩:=Ka H3.out.fb
 go_wp2_with fail
 generalize ((w.alloc (.cells #[.string (itx a.num),.string (dec a.den)] 42)).alloc (.cells #[.string (itx b.num),.string (dec b.den)] 42)).alloc (.cells #[.string ⟨#[]⟩,.string ⟨#[]⟩] 42)=W0 at *
 clear k0 k1 k2 k3;refine cm_ (HC.out _ (Below.refl _ _)) ?_;rintro e w1 ⟨rfl,hZ⟩;have H4:=hd_ (H3.out.next hZ);clear hZ HC H3;obtain⟨k0,k1,-,-⟩:=Ka H4.out.fa;obtain⟨k2,k3,-,-⟩:=Ka H4.out.fb;obtain⟨k4,k5,f4,f5⟩:=Ka H4.out.fr;have gP:=hd_ H4.out.bel;clear H4
 by_cases c1:v<0
 ·have hm:Zhr a b=b:=by rw[eS.out,if_pos c1]
  have Hm:=hd_ hm;clear hm eS;go_wp2;obtain⟨c0,c1,hb3⟩:=Ks (B:=w.heap.size) (.string (itx b.num)) (.string (dec b.den)) k4 k5 (by omega) gP.out
  generalize (w1.setCell ⟨w.heap.size+1+1,0,none⟩ (.string (itx b.num))).setCell ⟨w.heap.size+1+1,1,none⟩ (.string (dec b.den))=w9 at *
  exact bodyPost_ret (v := .agg #[.string (itx b.num),.string (dec b.den)]) (by simp[results,Tryz.results111,go_sem,c0,c1]) rfl ⟨by rw[Hm.out],hb3⟩
 ·have hm:Zhr a b=a:=by rw[eS.out,if_neg c1]
  have Hm:=hd_ hm;clear hm eS;go_wp2;obtain⟨c0,c1,hb3⟩:=Ks (B:=w.heap.size) (.string (itx a.num)) (.string (dec a.den)) k4 k5 (by omega) gP.out
  generalize (w1.setCell ⟨w.heap.size+1+1,0,none⟩ (.string (itx a.num))).setCell ⟨w.heap.size+1+1,1,none⟩ (.string (dec a.den))=w9 at *
  exact bodyPost_ret (v := .agg #[.string (itx a.num),.string (dec a.den)]) (by simp[results,Tryz.results111,go_sem,c0,c1]) rfl ⟨by rw[Hm.out],hb3⟩
theorem Zgs(w:World)(a b:Rat)(D E:Nat)(ha:Sm D a)(hb:Sm E b)(h6:D+E+2≤1000000)(L:Qd w):
  Kc Tryz.prog 112 #[fr a,fr b] w (fr (Zhs a b)):=by
 obtain⟨v,hv⟩:∃ v,Zed (b.num*a.den) (a.num*b.den)=v:=⟨_,rfl⟩;have H3:=hd_ (Zhx.mk' w (itx a.num) (dec a.den) (itx b.num) (dec b.den));have HC:=hd_ (fun W hW=>Zpn W b a E D hb ha (by omega) (L.below (H3.out.next (W:=W) hW).bel))
 rw[hv] at HC;have H9:=(Zup b a).2;rw[hv] at H9;have eS:Hid (Zhs a b=if 0<v then b else a):=by
  show _=_
  unfold Zhs
  by_cases h:0<v
  ·rw[if_pos h,if_pos (H9.1 h)]
  ·rw[if_neg h,if_neg fun hc=>h (H9.2 hc)]
 clear hv H9 L ha hb h6;unfold Kc;unfold fr fv at HC ⊢;go_enter Tryz.func112,Tryz.ntmps112;obtain⟨k0,k1,-,-⟩:=Ka H3.out.fa;obtain⟨k2,k3,-,-⟩:=Ka H3.out.fb
 go_wp2_with fail
 generalize ((w.alloc (.cells #[.string (itx a.num),.string (dec a.den)] 42)).alloc (.cells #[.string (itx b.num),.string (dec b.den)] 42)).alloc (.cells #[.string ⟨#[]⟩,.string ⟨#[]⟩] 42)=W0 at *
 clear k0 k1 k2 k3;refine cm_ (HC.out _ (Below.refl _ _)) ?_;rintro e w1 ⟨rfl,hZ⟩;have H4:=hd_ (H3.out.next hZ);clear hZ HC H3;obtain⟨k0,k1,-,-⟩:=Ka H4.out.fa;obtain⟨k2,k3,-,-⟩:=Ka H4.out.fb;obtain⟨k4,k5,f4,f5⟩:=Ka H4.out.fr;have gP:=hd_ H4.out.bel;clear H4
 by_cases c1:0<v
 ·have hm:Zhs a b=b:=by rw[eS.out,if_pos c1]
  have Hm:=hd_ hm;clear hm eS;go_wp2;obtain⟨c0,c1,hb3⟩:=Ks (B:=w.heap.size) (.string (itx b.num)) (.string (dec b.den)) k4 k5 (by omega) gP.out
  generalize (w1.setCell ⟨w.heap.size+1+1,0,none⟩ (.string (itx b.num))).setCell ⟨w.heap.size+1+1,1,none⟩ (.string (dec b.den))=w9 at *
  exact bodyPost_ret (v := .agg #[.string (itx b.num),.string (dec b.den)]) (by simp[results,Tryz.results112,go_sem,c0,c1]) rfl ⟨by rw[Hm.out],hb3⟩
 ·have hm:Zhs a b=a:=by rw[eS.out,if_neg c1]
  have Hm:=hd_ hm;clear hm eS;go_wp2;obtain⟨c0,c1,hb3⟩:=Ks (B:=w.heap.size) (.string (itx a.num)) (.string (dec a.den)) k4 k5 (by omega) gP.out
  generalize (w1.setCell ⟨w.heap.size+1+1,0,none⟩ (.string (itx a.num))).setCell ⟨w.heap.size+1+1,1,none⟩ (.string (dec a.den))=w9 at *
  exact bodyPost_ret (v := .agg #[.string (itx a.num),.string (dec a.den)]) (by simp[results,Tryz.results112,go_sem,c0,c1]) rfl ⟨by rw[Hm.out],hb3⟩
def Zqr (a:Rat):Int:=(a+1/2).floor
theorem Zt2:Sm 1 (1/2:Rat):=⟨by decide +kernel,by decide +kernel⟩
theorem Zzn:fr (1/2:Rat) = .agg #[.string ⟨#[49]⟩,.string ⟨#[50]⟩]:=by
 have h1:(1/2:Rat).num=1:=by decide +kernel
 have h2:(1/2:Rat).den=2:=by decide +kernel
 unfold fr fv;rw[h1,h2,show itx 1=dec 1 from Kj 1,Vg,Zdj]
theorem Zv3(w:World)(a:Rat)(D:Nat)(ha:Sm D a)(h6:D+5≤1000000)(L:Qd w):
  Kc Tryz.prog 46 #[fr a] w (.string (itx (Zqr a))):=by
 have gj:=hd_ ((Below.refl w.heap.size w).alloc nr_ (.cells #[.string (itx a.num),.string (dec a.den)] 42));have gi:Hid ((w.alloc (.cells #[.string (itx a.num),.string (dec a.den)] 42)).heap[w.heap.size]?=some (.cells #[.string (itx a.num),.string (dec a.den)] 42 (0,0))):=heap_alloc_new w _;have HA:=hd_ (Zrs (w.alloc (.cells #[.string (itx a.num),.string (dec a.den)] 42)) a (1/2) D 1 ha Zt2 (by omega) (L.below gj.out))
 rw[Zzn] at HA;have HF:=hd_ (fun W (hW:Below w.heap.size w W)=>Qbm W (a+1/2) (D+1+1) (ha.add Zt2) (by omega) (L.below hW))
 clear L ha h6;unfold Kc;unfold Zqr;generalize a+1/2=s at *
 unfold fr fv at HA HF ⊢;go_enter Tryz.func46,Tryz.ntmps46;obtain⟨k0,k1,-,-⟩:=Ka gi.out
 go_wp2_with fail
 generalize w.alloc (.cells #[.string (itx a.num),.string (dec a.den)] 42)=W0 at *
 clear k0 k1;refine cm_ HA.out ?_;rintro e w1 ⟨rfl,hZ⟩;have B1:=hd_ (gj.out.trans (hZ.mono gj.out.size));clear hZ HA
 go_wp2_with fail
 refine cm_ (HF.out _ B1.out) ?_;rintro e w2 ⟨rfl,HU⟩;have B2:=hd_ (B1.out.trans (HU.mono B1.out.size));clear HU HF
 go_wp2_with fail
 go_ret;exact⟨rfl,B2.out⟩
theorem Zq3{p N a b:Nat}(h1:Zz8 p N a)(h2:Zz8 p (2*N) b):b=2*a∨b=2*a+1:=by
 have hP:p^(2*N)=p^N*p^N:=by rw[Nat.two_mul,Nat.pow_add]
 have e1:2^(2*a)≤p^(2*N):=by
  rw[hP,Nat.two_mul,Nat.pow_add];exact Nat.mul_le_mul h1.1 h1.1
 have e2:p^(2*N)<2^(2*a+2):=by
  rw[hP,show 2*a+2=(a+1)+(a+1) by omega,Nat.pow_add];exact Nat.mul_lt_mul'' h1.2 h1.2
 have f1:=(Nat.pow_lt_pow_iff_right (by decide)).1 (Nat.lt_of_le_of_lt e1 h2.2)
 have f2:=(Nat.pow_lt_pow_iff_right (by decide)).1 (Nat.lt_of_le_of_lt h2.1 e2)
 omega
theorem Zjm{p n:Nat}(hp:p∈Yp)(hn:n+1≤1056):lgN p (n+1)=2*lgN p n∨lgN p (n+1)=2*lgN p n+1:=by
 have h2:=Zo5 hp hn;rw[Nat.pow_succ,Nat.mul_comm] at h2;exact Zq3 (Zo5 hp (by omega)) h2
theorem Zet{p n:Nat}(hp:p=2∨p∈Yp):∀ d,n+d≤1056→lgN p (n+d)/2^d=lgN p n
 | 0,_=>by simp
 | d+1,h=>by
  have ih:=Zet hp d (n:=n) (by omega)
  rw[← Nat.add_assoc,Nat.pow_succ,Nat.mul_comm,← Nat.div_div_eq_div_mul];have e:lgN p (n+d+1)/2=lgN p (n+d):=by
   rcases hp with rfl|hp
   ·rw[show ((2:Nat):Int)=2 from rfl,Yq,Yq,Nat.pow_succ];omega
   ·rcases Zjm hp (n:=n+d) (by omega) with e | e<;>rw[e]<;>omega
  rw[e,ih]
def xE (p:Int) (n:Nat):Rat:=if p=2 then 1 else mkRat ((lgN p n:Nat):Int) (2^n)
def yE (p:Int) (n:Nat):Rat:=if p=2 then 1 else mkRat ((lgN p n+1:Nat):Int) (2^n)
def loE (n:Nat):List Int→List Rat→Rat
 | p::ps,c::l=>Zhr (c*xE p n) (c*yE p n)+loE n ps l
 | _,_=>0
def hiE (n:Nat):List Int→List Rat→Rat
 | p::ps,c::l=>Zhs (c*xE p n) (c*yE p n)+hiE n ps l
 | _,_=>0
theorem Zau(n:Nat):((2^n:Nat):Rat)=2^n:=by
 rw[LN.natCast_pow];rfl
theorem Zcp(n:Nat):(0:Rat)<2^n:=Rat.pow_pos (by decide)
theorem Zkh(p:Int)(n:Nat):xE p n*2^n=((lgN p n:Nat):Rat):=by
 unfold xE
 by_cases h:p=2
 ·rw[if_pos h,h,Yq,Zau,Rat.one_mul]
 ·rw[if_neg h,← Zau,← Rat.intCast_natCast (lgN p n),Zal _ _ (Nat.two_pow_pos n)]
theorem Zkg(p:Int)(n:Nat):yE p n*2^n=((LN.hiL (lf n) p:Nat):Rat):=by
 unfold yE LN.hiL
 by_cases h:p=2
 ·rw[if_pos h,if_pos h,h];unfold lf;rw[Yq,Zau,Rat.one_mul]
 ·rw[if_neg h,if_neg h];unfold lf;rw[← Zau,← Rat.intCast_natCast (lgN p n+1),Zal _ _ (Nat.two_pow_pos n)]
theorem Zb9{a b:Rat}{n:Nat}(h:a*2^n≤b*2^n):a≤b:=Rat.le_of_mul_le_mul_right h (Zcp n)
theorem Zdn(p:Int)(n:Nat):xE p n≤yE p n:=by
 refine Zb9 (n:=n) ?_;rw[Zkh,Zkg];refine Rat.natCast_le_natCast.2 ?_;unfold LN.hiL lf;split<;>omega
theorem Znh{c x y:Rat}(h:x≤y)(hc:c<0):Zhr (c*x) (c*y)=c*y∧Zhs (c*x) (c*y)=c*x:=by
 have h1:c*y≤c*x:=by
  have:=Rat.mul_le_mul_of_nonneg_left h (c := -c) (by grind)
  grind
 unfold Zhr Zhs;refine⟨?_,?_⟩
 ·split
  ·rfl
  ·grind
 ·split
  ·grind
  ·rfl
theorem Zji{c x y:Rat}(h:x≤y)(hc:0≤c):Zhr (c*x) (c*y)=c*x∧Zhs (c*x) (c*y)=c*y:=by
 have h1:c*x≤c*y:=Rat.mul_le_mul_of_nonneg_left h hc;unfold Zhr Zhs;refine⟨?_,?_⟩
 ·split
  ·grind
  ·rfl
 ·split
  ·rfl
  ·grind
theorem Zmn(D:Nat)(p:Int)(ps:List Int)(c:Rat)(l:List Rat):Qs D (p::ps) (c::l)=if c.num=0 then Qs D ps l else (p,LN.ex D c)::Qs D ps l:=by
 unfold Qs LN.ex;rw[List.zip_cons_cons,List.filterMap_cons]
 by_cases h:c.num=0
 ·simp[h]
 ·simp[h]
theorem Zw3(f:Int→Nat)(x:Int×Int)(l:List (Int×Int)):LN.eLo f (x::l)=(if x.2<0 then x.2*(LN.hiL f x.1:Int) else x.2*(f x.1:Int))+LN.eLo f l:=by
 unfold LN.eLo;rw[List.map_cons,List.sum_cons]
theorem Zw5(f:Int→Nat)(x:Int×Int)(l:List (Int×Int)):LN.eHi f (x::l)=(if x.2<0 then x.2*(f x.1:Int) else x.2*(LN.hiL f x.1:Int))+LN.eHi f l:=by
 unfold LN.eHi;rw[List.map_cons,List.sum_cons]
theorem Zpf{D:Nat}(hD:0<D)(n:Nat):∀ (ps:List Int) (l:List Rat),(∀ q∈l,q.den ∣ D) →
  ((LN.eLo (lf n) (Qs D ps l):Int):Rat)=loE n ps l*D*2^n∧((LN.eHi (lf n) (Qs D ps l):Int):Rat)=hiE n ps l*D*2^n
 | [],_,_=>by
  simp[Qs,LN.eLo,LN.eHi,loE,hiE,Rat.zero_mul]
 | _::_,[],_=>by
  simp[Qs,LN.eLo,LN.eHi,loE,hiE,Rat.zero_mul]
 | p::ps,c::l,h=>by
  obtain⟨i1,i2⟩:=Zpf hD n ps l fun q hq=>h q (List.mem_cons_of_mem _ hq)
  have hc:=LN.ex_eq (h c List.mem_cons_self);have hx:xE p n*2^n=((lf n p:Nat):Rat):=Zkh p n;have hy:=Zkg p n;have Dl:=Zdn p n;rw[Zmn];simp only[loE,hiE]
  by_cases h0:c.num=0
  ·rw[if_pos h0,i1,i2];have c0:c=0:=Rat.num_eq_zero.1 h0;obtain⟨m1,m2⟩:=Zji Dl (show (0:Rat)≤c by rw[c0];decide)
   rw[m1,m2,c0,Rat.zero_mul,Rat.zero_mul,Rat.zero_add,Rat.zero_add];exact⟨rfl,rfl⟩
  ·rw[if_neg h0,Zw3,Zw5]
   dsimp only
   have jJ:(0:Rat)<(D:Rat):=Rat.natCast_pos.2 hD
   by_cases hn:LN.ex D c<0
   ·have cn:c<0:=by
     have:((LN.ex D c:Int):Rat)<0:=by rw[← Rat.intCast_zero];exact Rat.intCast_lt_intCast.2 hn
     rw[hc] at this;refine Rat.not_le.1 fun h=>?_
     have:=Rat.mul_nonneg h (Rat.le_of_lt jJ)
     grind
    obtain⟨m1,m2⟩:=Znh Dl cn;rw[if_pos hn,if_pos hn,m1,m2,Rat.intCast_add,Rat.intCast_add,i1,i2,Rat.intCast_mul,Rat.intCast_mul,hc,Rat.intCast_natCast,Rat.intCast_natCast,← hx,← hy];constructor<;>grind
   ·have cp:0≤c:=by
     refine Rat.not_lt.1 fun h=>hn ?_
     have h1:c*D<0:=by
      have:=Rat.mul_pos (show (0:Rat) < -c by grind) jJ
      grind
     rw[← hc,← Rat.intCast_zero] at h1;exact Rat.intCast_lt_intCast.1 h1
    obtain⟨m1,m2⟩:=Zji Dl cp;rw[if_neg hn,if_neg hn,m1,m2,Rat.intCast_add,Rat.intCast_add,i1,i2,Rat.intCast_mul,Rat.intCast_mul,hc,Rat.intCast_natCast,Rat.intCast_natCast,← hx,← hy];constructor<;>grind
theorem Qcb{p n:Nat}(hp:p=2∨p∈Yp)(hn:n+1≤1056):xE p n≤xE p (n+1)∧yE p (n+1)≤yE p n:=by
 rcases hp with rfl|hp
 ·unfold xE yE;rw[show ((2:Nat):Int)=2 from rfl]
  simp only[if_true];exact⟨Rat.le_refl,Rat.le_refl⟩
 ·have h2:=(Yl hp).2.1;have gq:¬ ((p:Nat):Int)=2:=by have:=(Yl hp).1;omega
  have e1:=Zkh p n;have e2:=Zkg p n;have e3:=Zkh p (n+1);have e4:=Zkg p (n+1);unfold LN.hiL lf at e2 e4;rw[if_neg gq] at e2 e4;have hs:(2:Rat)^(n+1)=2^n*2:=Rat.pow_succ ..;constructor
  ·refine Zb9 (n:=n+1) ?_;rw[e3,hs,← Rat.mul_assoc,e1];have h3:((2*lgN p n:Nat):Rat)≤((lgN p (n+1):Nat):Rat):=Rat.natCast_le_natCast.2 (by rcases Zjm hp hn with e | e<;>omega)
   rw[Rat.natCast_mul] at h3;have:((2:Nat):Rat)=2:=rfl
   grind
  ·refine Zb9 (n:=n+1) ?_;rw[e4,hs,← Rat.mul_assoc,e2];have h3:((lgN p (n+1)+1:Nat):Rat)≤((2*(lgN p n+1):Nat):Rat):=Rat.natCast_le_natCast.2 (by rcases Zjm hp hn with e | e<;>omega)
   rw[Rat.natCast_mul] at h3;have:((2:Nat):Rat)=2:=rfl
   grind
theorem Zuc{n:Nat}(hn:n+1≤1056):∀ (ps:List Int) (l:List Rat),(∀ p∈ps,∃ q:Nat,p=q∧(q=2∨q∈Yp))→loE n ps l≤loE (n+1) ps l∧hiE (n+1) ps l≤hiE n ps l
 | [],_,_=>by simp[loE,hiE]
 | _::_,[],_=>by simp[loE,hiE]
 | p::ps,c::l,h=>by
  obtain⟨i1,i2⟩:=Zuc hn ps l fun q hq=>h q (List.mem_cons_of_mem _ hq)
  obtain⟨q,rfl,hq⟩:=h p List.mem_cons_self;obtain⟨u1,u2⟩:=Qcb hq hn;simp only[loE,hiE];rcases Decidable.em (c<0) with hc|hc
  ·obtain⟨m1,m2⟩:=Znh (Zdn q n) hc;obtain⟨m3,m4⟩:=Znh (Zdn q (n+1)) hc;rw[m1,m2,m3,m4];have a1:=Rat.mul_le_mul_of_nonneg_left u1 (c := -c) (by grind)
   have a2:=Rat.mul_le_mul_of_nonneg_left u2 (c := -c) (by grind)
   constructor<;>grind
  ·have hc:=Rat.not_lt.1 hc;obtain⟨m1,m2⟩:=Zji (Zdn q n) hc;obtain⟨m3,m4⟩:=Zji (Zdn q (n+1)) hc;rw[m1,m2,m3,m4];have a1:=Rat.mul_le_mul_of_nonneg_left u1 hc;have a2:=Rat.mul_le_mul_of_nonneg_left u2 hc;constructor<;>grind
theorem Zue(n:Nat):∀ (ps:List Int) (l:List Rat),loE n ps l≤hiE n ps l
 | [],_=>by simp[loE,hiE]
 | _::_,[]=>by simp[loE,hiE]
 | p::ps,c::l=>by
  have ih:=Zue n ps l;simp only[loE,hiE];have h1:Zhr (c*xE p n) (c*yE p n)≤Zhs (c*xE p n) (c*yE p n):=by
   unfold Zhr Zhs;split<;>split<;>grind
  grind
theorem Zju{n:Nat}{ps:List Int}{l:List Rat}(h:∀ p∈ps,∃ q:Nat,p=q∧(q=2∨q∈Yp)):∀ d,n+d≤1056→loE n ps l≤loE (n+d) ps l∧hiE (n+d) ps l≤hiE n ps l
 | 0,_=>⟨Rat.le_refl,Rat.le_refl⟩
 | d+1,hd=>by
  obtain⟨i1,i2⟩:=Zju h (n:=n) (l:=l) d (by omega)
  obtain⟨j1,j2⟩:=Zuc (n:=n+d) (by omega) ps l h
  exact⟨Rat.le_trans i1 j1,Rat.le_trans j2 i2⟩
def Zai (n:Nat) (ps:List Int) (l:List Rat):Int:=if 0≤loE n ps l then 1 else if hiE n ps l≤0 then -1 else 0
theorem Zq0{n:Nat}(hn:n≤1056){p:Int}(hp:p∈Zfr):LN.LogAt n p (lgN p n):=by
 obtain⟨q,rfl,hq⟩:=Ze7 hp;exact Ztt hq hn
theorem Zr4{n:Nat}(hn:n≤1056){ps:List Int}{l:List Rat}(h1:∀ p∈ps,p∈Zfr):∀ x∈tlQ ps l,LN.LogAt n x.1 ((lf n) x.1):=fun x hx=>by
 have h:=(Zav (Qc l) ps l).subset (List.mem_map.2 ⟨x,hx,rfl⟩);exact Zq0 hn (h1 _ h)
theorem Zgb{ps:List Int}{l:List Rat}(h2:ps.Nodup):((tlQ ps l).map Prod.fst).Nodup:=(Zav (Qc l) ps l).nodup h2
theorem Zjx(n:Nat)(ps:List Int)(l:List Rat):(0≤loE n ps l↔0≤LN.eLo (lf n) (tlQ ps l))∧(hiE n ps l≤0↔LN.eHi (lf n) (tlQ ps l)≤0):=by
 have hD:=LN.tden_pos' l;obtain⟨e1,e2⟩:=Zpf hD n ps l fun q hq=>LN.tden_dvd hq
 have jJ:(0:Rat)<(Qc l:Rat):=Rat.natCast_pos.2 hD;have h2:=Zcp n;have hc:(0:Rat)<(Qc l:Rat)*2^n:=Rat.mul_pos jJ h2;rw[Rat.mul_assoc] at e1 e2;unfold tlQ;generalize (Qc l:Rat)*2^n=c at *
 refine⟨⟨fun h=>?_,fun h=>?_⟩,⟨fun h=>?_,fun h=>?_⟩⟩
 ·have h3:=Rat.mul_nonneg h (Rat.le_of_lt hc);rw[← e1,← Rat.intCast_zero] at h3;exact Rat.intCast_le_intCast.1 h3
 ·refine Rat.not_lt.1 fun h3=>?_
  have h4:=Rat.mul_pos (show 0 < -loE n ps l by grind) hc
  have h5:((0:Int):Rat)≤_:=Rat.intCast_le_intCast.2 h;rw[e1,Rat.intCast_zero] at h5
  grind
 ·have h3:=Rat.mul_nonneg (show 0 ≤ -hiE n ps l by grind) (Rat.le_of_lt hc)
  have h4:hiE n ps l*c≤0:=by grind
  rw[← e2,← Rat.intCast_zero] at h4;exact Rat.intCast_le_intCast.1 h4
 ·refine Rat.not_lt.1 fun h3=>?_
  have h4:=Rat.mul_pos h3 hc;have h5:_≤((0:Int):Rat):=Rat.intCast_le_intCast.2 h;rw[e2,Rat.intCast_zero] at h5
  grind
theorem Zwe{n:Nat}(hn:n≤1056){ps:List Int}{l:List Rat}(h1:∀ p∈ps,p∈Zfr)(h2:ps.Nodup)(gq:tlQ ps l≠[])(h:0≤loE n ps l):LN.sz ps l=1:=by
 have h3:=(Zjx n ps l).1.1 h;rw[LN.eLo_eq] at h3;exact LN.sign_low n _ (tlQ ps l) (Zr4 hn h1) (fun x hx=>Zol hx) gq (Zgb h2) (by omega)
theorem Zwu{n:Nat}(hn:n≤1056){ps:List Int}{l:List Rat}(h1:∀ p∈ps,p∈Zfr)(h2:ps.Nodup)(gq:tlQ ps l≠[])(h:hiE n ps l≤0):LN.sz ps l = -1:=by
 have h3:=(Zjx n ps l).2.1 h;rw[LN.eHi_eq] at h3;exact LN.sign_high n _ (tlQ ps l) (Zr4 hn h1) (fun x hx=>Zol hx) gq (Zgb h2) (by omega)
theorem Zl1{n:Nat}(hn:n≤1056){ps:List Int}{l:List Rat}(h1:∀ p∈ps,p∈Zfr)(h2:ps.Nodup)(gq:tlQ ps l≠[])(h:Zai n ps l≠0):Zai n ps l=LN.sz ps l:=by
 unfold Zai at h ⊢;split at h
 ·rename_i c
  rw[if_pos c,Zwe hn h1 h2 gq c]
 ·rename_i c
  rw[if_neg c];split at h
  ·rename_i c2
   rw[if_pos c2,Zwu hn h1 h2 gq c2]
  ·exact absurd rfl h
theorem Zj5{n d:Nat}{ps:List Int}{l:List Rat}(h1:∀ p∈ps,p∈Zfr)(hd:n+d≤1056)(h:Zai n ps l≠0):Zai (n+d) ps l≠0:=by
 obtain⟨u1,u2⟩:=Zju (n:=n) (ps:=ps) (l:=l) (fun p hp=>Ze7 (h1 p hp)) d hd
 unfold Zai at h ⊢;split
 ·decide
 ·split
  ·decide
  ·rename_i c1 c2
   split at h
   ·rename_i c3
    exact absurd (Rat.le_trans c3 u1) c1
   ·split at h
    ·rename_i c4
     exact absurd (Rat.le_trans u2 c4) c2
    ·exact h
theorem Zpe(n:Nat):∀ (ps:List Int) (l:List Rat) (p:Int) (c:Rat),ps.length=l.length →
  loE n (ps++[p]) (l++[c])=loE n ps l+Zhr (c*xE p n) (c*yE p n)∧hiE n (ps++[p]) (l++[c])=hiE n ps l+Zhs (c*xE p n) (c*yE p n)
 | [],[],p,c,_=>by
  show _+(0:Rat)=0+_∧_+(0:Rat)=0+_
  rw[Rat.add_zero,Rat.zero_add,Rat.add_zero,Rat.zero_add];exact⟨rfl,rfl⟩
 | [],_::_,_,_,h=>by simp at h
 | _::_,[],_,_,h=>by simp at h
 | q::ps,d::l,p,c,h=>by
  obtain⟨i1,i2⟩:=Zpe n ps l p c (by simpa using h)
  simp only[List.cons_append,loE,hiE];rw[i1,i2,Rat.add_assoc,Rat.add_assoc];exact⟨rfl,rfl⟩
theorem Zg4(n:Nat)(ps:List Int)(l:List Rat)(k:Nat)(h:l.length=ps.length)(h1:k<ps.length)(h2:k<l.length):
  loE n (ps.take (k+1)) (l.take (k+1))=loE n (ps.take k) (l.take k)+Zhr (l[k]*xE ps[k] n) (l[k]*yE ps[k] n) ∧
  hiE n (ps.take (k+1)) (l.take (k+1))=hiE n (ps.take k) (l.take k)+Zhs (l[k]*xE ps[k] n) (l[k]*yE ps[k] n):=by
 have e1:ps.take (k+1)=ps.take k++[ps[k]]:=by rw[List.take_add_one,List.getElem?_eq_getElem h1];rfl
 have e2:l.take (k+1)=l.take k++[l[k]]:=by rw[List.take_add_one,List.getElem?_eq_getElem h2];rfl
 rw[e1,e2];exact Zpe n _ _ _ _ (by simp;omega)
theorem Zln(n:Nat)(p:Int):Zhr ((0:Rat)*xE p n) (0*yE p n)=0∧Zhs ((0:Rat)*xE p n) (0*yE p n)=0:=by
 rw[Rat.zero_mul,Rat.zero_mul];exact⟨rfl,rfl⟩
theorem Zeq{D:Nat}{a b:Rat}(ha:Sm D a)(hb:Sm D b):Sm D (Zhr a b):=by unfold Zhr;split<;>assumption
theorem Zer{D:Nat}{a b:Rat}(ha:Sm D a)(hb:Sm D b):Sm D (Zhs a b):=by unfold Zhs;split<;>assumption
theorem Zhz(n D:Nat)(h:n≤3*D):2^n≤10^D:=by
 refine Nat.le_trans (Nat.pow_le_pow_right (by decide) h) ?_
 rw[Nat.pow_mul];exact Nat.pow_le_pow_left (by decide) D
theorem Zyr{p:Int}{n:Nat}(hp:∃ q:Nat,p=q∧(q=2∨q∈Yp))(hn:n≤1056):Sm 355 (xE p n)∧Sm 355 (yE p n):=by
 obtain⟨h1,h2⟩:=Zze hp hn;obtain⟨D,hD⟩:∃ D,D=354:=⟨_,rfl⟩;have e:2^(n+3)≤10^D:=Zhz _ _ (by omega)
 have e2:2^n≤10^D:=Zhz _ _ (by omega)
 have e3:(10:Nat)^(D+1)=10^D*10:=Nat.pow_succ ..;have h0:0<(10:Nat)^D:=Nat.pow_pos (by decide)
 have Dy:lgN p n<2^(n+3):=h1;rw[show 355=D+1 by omega]
 unfold xE yE
 by_cases h:p=2
 ·rw[if_pos h,if_pos h];have:Sm 1 (1:Rat):=⟨by decide,by decide⟩
  exact⟨this.le (by omega),this.le (by omega)⟩
 ·rw[if_neg h,if_neg h];generalize 10^D=T at *
  generalize 2^(n+3)=U at *
  have hz:2^n≠0:=Nat.ne_of_gt (Nat.two_pow_pos n);exact⟨Sm.mk' hz (by rw[Int.natAbs_natCast,e3];omega) (by rw[e3];omega),Sm.mk' hz (by rw[Int.natAbs_natCast,e3];omega) (by rw[e3];omega)⟩
theorem Zjv{D n:Nat}(hn:n≤1056){ps:List Int}{l:List Rat}(hp:∀ p∈ps,∃ q:Nat,p=q∧(q=2∨q∈Yp))(hl:l.length=ps.length)(hs:∀ q∈l,Sm D q):
  ∀ k,k≤ps.length→Sm (1+k*(D+356)) (loE n (ps.take k) (l.take k))∧Sm (1+k*(D+356)) (hiE n (ps.take k) (l.take k))
 | 0,_=>by
  have:Sm 1 (0:Rat):=⟨by decide,by decide⟩
  rw[Nat.zero_mul];exact⟨this,this⟩
 | k+1,h=>by
  obtain⟨i1,i2⟩:=Zjv hn hp hl hs k (by omega)
  obtain⟨e1,e2⟩:=Zg4 n ps l k hl (by omega) (by omega)
  obtain⟨s1,s2⟩:=Zyr (hp _ (List.getElem_mem (show k<ps.length by omega))) hn
  have hc:=hs _ (List.getElem_mem (show k<l.length by omega))
  rw[e1,e2,show 1+(k+1)*(D+356)=1+k*(D+356)+(D+355)+1 by rw[Nat.add_mul];omega]
  exact⟨i1.add (Zeq (hc.mul s1) (hc.mul s2)),i2.add (Zer (hc.mul s1) (hc.mul s2))⟩
/-! The least number of bits. -/
structure Zbh (T:Nat→Bool) (n:Nat):Prop where
 at_:T n=true
 low:n=0∨T (n-1)=false
 le:n≤1000
theorem Zrz{T:Nat→Bool}(hm:∀ n,n<1000→T n=true→T (n+1)=true):∀ d n,n+d≤1000→T n=true→T (n+d)=true
 | 0,_,_,h=>h
 | d+1,n,hd,h=>hm (n+d) (by omega) (Zrz hm d n (by omega) h)
theorem Zbh.uniq{T:Nat→Bool}(hm:∀ n,n<1000→T n=true→T (n+1)=true){n m:Nat}(h1:Zbh T n)(h2:Zbh T m):n=m:=by
 have Gm:∀ a b,Zbh T a→Zbh T b→¬ a<b:=fun a b ha hb hc=>by
  have h3:=Zrz hm (b-1-a) a (by have:=hb.le;omega) ha.at_
  rw[show a+(b-1-a)=b-1 by omega] at h3
  rcases hb.low with h4|h4
  ·omega
  ·rw[h3] at h4;cases h4
 have:=Gm n m h1 h2
 have:=Gm m n h2 h1
 omega
def Ztm (B:Nat) (ps:List Int) (l:List Rat):List ByteArray:=(ps.zip l).map fun x=>if x.2.num=0 then ⟨#[]⟩ else dec (lgN x.1 B)
theorem Yd(B:Nat)(ps:List Int)(l:List Rat)(h:l.length=ps.length):(Ztm B ps l).length=ps.length:=by
 unfold Ztm;rw[List.length_map,List.length_zip,h,Nat.min_self]
theorem Zjk(B:Nat)(ps:List Int)(l:List Rat)(h:l.length=ps.length)(k:Nat)(h1:k<ps.length)(h2:k<l.length):(Ztm B ps l).getD k ⟨#[]⟩=if l[k].num=0 then ⟨#[]⟩ else dec (lgN ps[k] B):=by
 unfold Ztm;rw[List.getD_eq_getElem?_getD,List.getElem?_map,List.getElem?_eq_getElem (by rw[List.length_zip];omega),List.getElem_zip]
 rfl
structure LgS (w:World) (R:Nat) (ps:List Int) (l:List Rat) (B:Nat) (a0:Option Addr) (c0:Nat) (a1:Option Addr) (c1:Nat) (a2:Option Addr) (c2:Nat):Prop where
 ob:w.heap[R]?=some (.cells #[.slice a0 ps.length c0,.slice a1 ps.length c1,.int .i64 B,.slice a2 ps.length c2] 146 (0,0))
 rp:Rd w a0 (Qt ps)
 rl:Rd w a1 (Kt l)
 rs:Rd w a2 (Zdq (Ztm B ps l))
theorem LgS.below{w w':World}{R:Nat}{ps:List Int}{l:List Rat}{B:Nat}{a0 a1 a2:Option Addr}{c0 c1 c2:Nat}(h:LgS w R ps l B a0 c0 a1 c1 a2 c2)(hb:Below w.heap.size w w'):LgS w' R ps l B a0 c0 a1 c1 a2 c2 :=
 ⟨by rw[hb.block R (Array.getElem?_eq_some_iff.1 h.ob).1];exact h.ob,h.rp.below hb nr_,h.rl.below hb nr_,h.rs.below hb nr_⟩
def Zmg (w:World) (R:Nat) (ps:List Int) (l:List Rat) (B:Nat):Prop:=∃ a0 c0 a1 c1 a2 c2,LgS w R ps l B a0 c0 a1 c1 a2 c2
theorem Zmg.below{w w':World}{R:Nat}{ps:List Int}{l:List Rat}{B:Nat}(h:Zmg w R ps l B)(hb:Below w.heap.size w w'):Zmg w' R ps l B:=by
 obtain⟨a0,c0,a1,c1,a2,c2,S⟩:=h;exact⟨a0,c0,a1,c1,a2,c2,S.below hb⟩
theorem Zc5{w:World}{g:Nat}{a b c d:Value}{t:TypeId}(h:w.heap[g]?=some (.cells #[a,b,c,d] t (0,0))):
  w.cell? ⟨g,0,none⟩=some a∧w.cell? ⟨g,1,none⟩=some b∧w.cell? ⟨g,2,none⟩=some c∧w.cell? ⟨g,3,none⟩=some d∧(∀ j,w.frozen? ⟨g,j,none⟩=false):=by
 refine⟨by rw[cell_of_row w g 0 _ t (0,0) h];rfl,by rw[cell_of_row w g 1 _ t (0,0) h];rfl,by rw[cell_of_row w g 2 _ t (0,0) h];rfl,by rw[cell_of_row w g 3 _ t (0,0) h];rfl,fun j=>?_⟩
 simp[World.frozen?,h]
theorem Zft(l:List ByteArray)(j:Nat)(h:j<l.length):(Zdq l)[j]?=some (.string (l.getD j ⟨#[]⟩)):=by
 simp[Zdq,List.getD_eq_getElem?_getD,h]
theorem Zyl(w:World)(R:Nat)(ps:List Int)(l:List Rat)(B b k:Nat)(H:Zmg w R ps l B)(hl:l.length=ps.length)(hn:ps.length≤100)(hk:k<ps.length)(gO:k<l.length)(hp:∃ q:Nat,ps[k]=q∧(q=2∨q∈Yp))(hz:l[k].num≠0)(hb:b≤B)(hB:B≤1000)(L:Qd w):
  Kc Tryz.prog 90 #[.pointer (some ⟨R,0,none⟩),.int .i64 k,.int .i64 b] w (.string (dec (lgN ps[k] b))):=by
 unfold Kc;obtain⟨a0,c0,a1,c1,a2,c2,S⟩:=H;obtain⟨k0,k1,k2,k3,-⟩:=Zc5 S.ob;have gh:=Yd B ps l hl;obtain⟨b2,o2,rfl,HU,Gw⟩:=S.rs.open (by rw[Zb,gh];omega)
 have ct:=Gw k _ (Zft _ k (by rw[gh];exact hk))
 rw[Zjk B ps l hl k hk gO,if_neg hz] at ct;obtain⟨q,hq,Gh⟩:=hp;rw[hq] at ct ⊢;have hcut:lgN q B/2^(B-b)=lgN q b:=by
  have:=Zet Gh (B-b) (n:=b) (by omega)
  rwa [show b+(B-b)=B by omega] at this
 have hw:IntKind.i64.wrap ((B:Int)-b)=((B-b:Nat):Int):=by rw[show (B:Int)-b=((B-b:Nat):Int) by omega];exact iw_ _ (by omega)
 have HP:=hd_ (fun W (hW:Below w.heap.size w W)=>Zov W (B-b) (by omega) (L.below hW))
 have H9:lgN q B<2^K10:=by
  refine Nat.lt_trans (Zgx Gh (by omega)) ?_
  refine Nat.lt_of_lt_of_le (Nat.mul_lt_mul_of_pos_right (show 7<2^3 by decide) (Nat.two_pow_pos B)) ?_
  rw[← Nat.pow_add];exact Nat.pow_le_pow_right (by decide) (by rw[k10];omega)
 have HD:=hd_ (fun W (hW:Below w.heap.size w W)=>Qbq W (lgN q B) (2^(B-b)) K10 (by decide) H9 (Nat.pow_lt_pow_right (by decide) (by rw[k10];omega)) (Nat.two_pow_pos _) (L.below hW))
 rw[hcut] at HD;have Aq:k<100:=by omega
 clear hcut H9 S gh Gw L hz hl gO Gh hq;generalize dec (lgN q B)=s at *
 generalize dec (lgN q b)=s2 at *
 generalize dec (lgN q B%2^(B-b))=s3 at *
 generalize dec (2^(B-b))=s4 at *
 generalize B-b=m at *
 generalize ps.length=n at *
 have q0:=NW.cell k3;have q1:=NW.cell k2;have q2:=NW.cell ct;have gk:Nonempty (NW w):=⟨⟨w,Below.refl _ _⟩⟩;have I:Hid (Below w.heap.size w w.drew):=(Below.refl _ _).drew;clear k0 k1 k2 k3 ct;go_enter Tryz.func90,Tryz.ntmps90
 go_wp2_with fail
 refine RP.wp_region_readers 14 [(2,0),(2,1),(2,2),(1,3),(2,4),(2,5),(1,6),(2,7),(2,8),(2,9),(1,10),(2,11),(2,12),(0,13),(0,14),(2,15),(2,16),(2,17),(2,18),(2,19),(2,20),(2,21)] (fun w'=>∃ p:NW w,w'=p.w) (by kernel_rfl) (by kernel_rfl) ?_ ?_
 ·exact⟨⟨_,I.out⟩,rfl⟩
 iterate 3 (refine RP.walkR_any ?_;simp only[Kh,dz_,Kg,tz_];go_big_quiet_step (fail);refine wpQuiet_nil ?_)
 iterate 1 (refine RP.walkR_read ?_;simp only[Kh,dz_,Kg,tz_];go_big_quiet_step (fail);refine wpQuiet_nil ?_)
 iterate 2 (refine RP.walkR_any ?_;simp only[Kh,dz_,Kg,tz_];go_big_quiet_step (fail);refine wpQuiet_nil ?_)
 iterate 1 (refine RP.walkR_read ?_;simp only[Kh,dz_,Kg,tz_];go_big_quiet_step (fail);refine wpQuiet_nil ?_)
 iterate 3 (refine RP.walkR_any ?_;simp only[Kh,dz_,Kg,tz_];go_big_quiet_step (fail);refine wpQuiet_nil ?_)
 iterate 1 (refine RP.walkR_read ?_;simp only[Kh,dz_,Kg,tz_];go_big_quiet_step (fail);refine wpQuiet_nil ?_)
 iterate 2 (refine RP.walkR_any ?_;simp only[Kh,dz_,Kg,tz_];go_big_quiet_step (fail);refine wpQuiet_nil ?_)
 clear gk q0 q1 q2;refine RP.walkR_move ?_;simp only[Kh,dz_,Kg,tz_]
 go_wp2_with fail
 refine cm_ (HP.out _ I.out) ?_;rintro e w1 ⟨rfl,hZ⟩;have I1:Hid (Below w.heap.size w w1):=I.out.trans (hZ.mono I.out.size);clear hZ I HP
 go_wp2_with fail
 refine⟨⟨⟨_,I1.out⟩,rfl⟩,?_⟩;refine RP.walkR_move ?_;simp only[Kh,dz_,Kg,tz_]
 go_wp2_with fail
 refine cm_ (HD.out _ I1.out) ?_;rintro e w2 ⟨rfl,hZ⟩;have I2:Hid (Below w.heap.size w w2):=I1.out.trans (hZ.mono I1.out.size);clear hZ I1 HD
 go_wp2_with fail
 iterate 7 (refine RP.walkR_any ?_;simp only[Kh,dz_,Kg,tz_];go_big_quiet_step (fail);refine wpQuiet_nil ?_)
 simp only[RP.walkR]
 go_wp2_with fail
 go_ret;exact⟨rfl,I2.out⟩
def Zfa (w:World) (B:Nat) (a:Option Addr) (c:Nat) (l:List ByteArray):Prop:=w.ownsRow B 25 1 (.slice a l.length c) l.length (Zdq l)
theorem Qay(n:Nat)(w:World)(hn:n≤10000000):
  (Instr.makeSlice 132 (.int .i64 (n:Int)) (.int .i64 (n:Int))).run Tryz.prog w = .ok (.slice (some ⟨w.heap.size,0,none⟩) n n) (w.alloc (.cells (Zdq (List.replicate n ⟨#[]⟩)).toArray 25)):=by
 have:=run_make_row' (P:=Tryz.prog) 132 25 (.string ⟨#[]⟩) 16 Tryz.underlying132 Qbg rfl .i64 .i64 n (by omega) (by omega) w
 rw[show madeCells #[.string ⟨#[]⟩] n=(Zdq (List.replicate n ⟨#[]⟩)).toArray by apply Array.ext';rw[toList_madeCells_one];simp[Zdq]] at this
 exact this
theorem Zs4(w:World)(l:List ByteArray)(hl:l.length≤100000000):Zfa (w.alloc (.cells (Zdq l).toArray 25)) w.heap.size (some ⟨w.heap.size,0,none⟩) l.length l :=
 ⟨by simp[Zb],.inr ⟨w.heap.size,l.length,(Zdq l).toArray,rfl,Nat.le_refl _,heap_alloc_new _ _,Nat.le_refl _,by unfold maxLen;omega,by simp[Zb],by rw[Nat.mul_one];exact List.take_of_length_le (by simp[Zb])⟩⟩
theorem Zfa.open{w:World}{B c:Nat}{a:Option Addr}{l:List ByteArray}(h:Zfa w B a c l)(hn:0<l.length):
  ∃ g,a=some ⟨g,0,none⟩∧B≤g∧g<w.heap.size∧l.length≤c∧(∀ j,j<l.length→w.cell? ⟨g,j,none⟩=some (.string (l.getD j ⟨#[]⟩)))∧(∀ j,w.frozen? ⟨g,j,none⟩=false):=by
 obtain⟨g,cap,hv,h1,h2,h3,h4,h5⟩:=Vy h hn;simp only[Value.slice.injEq] at hv;obtain⟨rfl,-,rfl⟩:=hv;exact⟨g,rfl,h1,h2,h3,fun j hj=>by rw[h4 j (by omega),Zft l j hj],h5⟩
theorem Zfa.store{w:World}{B c g:Nat}{l:List ByteArray}(h:Zfa w B (some ⟨g,0,none⟩) c l)(j:Nat)(x:ByteArray):
  Zfa (w.setCell ⟨g,j,none⟩ (.string x)) B (some ⟨g,0,none⟩) c (l.set j x):=by
 have:=(World.ownsRow.stored h j (.string x)).1
 have e:(Zdq l).set j (.string x)=Zdq (l.set j x):=by simp[Zdq,List.map_set]
 rw[e] at this;unfold Zfa;rw[List.length_set];exact this
theorem Zfa.rd{w:World}{B:Nat}{a:Option Addr}{c:Nat}{l:List ByteArray}(h:Zfa w B a c l):Rd w a (Zdq l):=by
 by_cases hn:0<l.length
 ·obtain⟨g,rfl,h1,h2,h3,h4,h5⟩:=h.open hn;refine .inr ⟨g,0,rfl,h2,fun i v hi=>?_⟩
  have H9:=(List.getElem?_eq_some_iff.1 hi).1;rw[Zb] at H9;rw[Zft l i H9] at hi;rw[Nat.zero_add,← hi];exact h4 i H9
 ·obtain rfl:=List.length_eq_zero_iff.1 (Nat.eq_zero_of_not_pos hn);exact .inl rfl
def Znk (B:Nat) (ps:List Int) (l:List Rat) (k:Nat):List ByteArray:=(Ztm B ps l).take k++List.replicate (ps.length-k) ⟨#[]⟩
theorem Znj(B:Nat)(ps:List Int)(l:List Rat)(h:l.length=ps.length)(k:Nat)(hk:k≤ps.length):(Znk B ps l k).length=ps.length:=by
 unfold Znk;rw[List.length_append,List.length_take,Yd B ps l h,List.length_replicate];omega
theorem Zwc(B:Nat)(ps:List Int)(l:List Rat)(h:l.length=ps.length)(k:Nat)(hk:k<ps.length):(Znk B ps l k).set k ((Ztm B ps l).getD k ⟨#[]⟩)=Znk B ps l (k+1):=by
 have hl:((Ztm B ps l).take k).length=k:=by rw[List.length_take,Yd B ps l h];omega
 unfold Znk;rw[List.set_append_right _ _ (by omega),hl,Nat.sub_self,List.take_add_one,List.getElem?_eq_getElem (by rw[Yd B ps l h];exact hk),show ps.length-k=(ps.length-(k+1))+1 by omega,List.replicate_succ,List.set_cons_zero,List.append_assoc]
 congr 1;rw[List.getD_eq_getElem?_getD,List.getElem?_eq_getElem (by rw[Yd B ps l h];exact hk)]
 rfl
theorem Zzb(B:Nat)(ps:List Int)(l:List Rat)(h:l.length=ps.length)(k:Nat)(hk:k<ps.length):(Znk B ps l k).getD k ⟨#[]⟩=⟨#[]⟩:=by
 have hl:((Ztm B ps l).take k).length=k:=by rw[List.length_take,Yd B ps l h];omega
 unfold Znk;rw[List.getD_eq_getElem?_getD,List.getElem?_append_right (by omega),hl,List.getElem?_replicate]
 split<;>rfl
theorem Zwd(B:Nat)(ps:List Int)(l:List Rat)(h:l.length=ps.length):Znk B ps l ps.length=Ztm B ps l:=by
 unfold Znk;rw[Nat.sub_self,List.replicate_zero,List.append_nil,List.take_of_length_le (by rw[Yd B ps l h];exact Nat.le_refl _)]
theorem Ztn(B:Nat)(ps:List Int)(l:List Rat):Znk B ps l 0=List.replicate ps.length ⟨#[]⟩:=by simp[Znk]
structure OpI (w wr:World) (ps:List Int) (l:List Rat) (B k:Nat) (a0:Option Addr) (c0:Nat) (a1:Option Addr) (c1:Nat):Prop where
 ob:wr.heap[w.heap.size+1]?=some (.cells #[.slice a0 ps.length c0,.slice a1 ps.length c1,.int .i64 B,.slice (some ⟨w.heap.size,0,none⟩) ps.length ps.length] 146 (0,0))
 own:Zfa wr w.heap.size (some ⟨w.heap.size,0,none⟩) ps.length (Znk B ps l k)
 bel:Below w.heap.size w wr
theorem Zek(w:World)(ps:List Int)(l:List Rat)(B:Nat)(a0 a1:Option Addr)(c0 c1:Nat)(rp:Rd w a0 (Qt ps))(rl:Rd w a1 (Kt l))(hl:l.length=ps.length)(hn:ps.length≤100)(hp:∀ p∈ps,∃ q:Nat,p=q∧(q=2∨q∈Yp))(hB:B≤1000)(L:Qd w):
  Calls Tryz.prog 79 #[.slice a0 ps.length c0,.slice a1 ps.length c1,.int .i64 B] w fun e w'=>∃ R,e = .returned (.pointer (some ⟨R,0,none⟩))∧Zmg w' R ps l B∧w.heap.size≤R∧Below w.heap.size w w':=by
 have Dh:=hd_ rp;have dj:=hd_ rl;have HL:=hd_ L;have Hl:=hd_ hl;have F7:=hd_ (fun (k:Nat) (hk:k<ps.length) (W:World) (hW:Below w.heap.size w W)=>show Kc Tryz.prog 67 #[.int .i64 ps[k],.int .i64 B] W (.string (dec (lgN ps[k] B))) from by
  obtain⟨q,hq,Gh⟩:=hp _ (List.getElem_mem hk);rw[hq];exact Zpg W q B Gh hB (L.below hW))
 have l9:=hd_ (fun k h1 h2=>Zjk B ps l hl k h1 h2)
 have aJ:=hd_ (fun k h=>Zwc B ps l hl k h)
 have Og:=hd_ (fun k h=>Zzb B ps l hl k h)
 have fH:=hd_ (Zwd B ps l hl);have EQ:=hd_ (fun k h=>Znj B ps l hl k h)
 clear rp rl L hp;obtain⟨n,FD⟩:∃ n,ps.length=n:=⟨_,rfl⟩;have eI:=Qay n w (by omega)
 have gz:Hid (Zfa (w.alloc (.cells (Zdq (List.replicate n ⟨#[]⟩)).toArray 25)) w.heap.size (some ⟨w.heap.size,0,none⟩) n (Znk B ps l 0)):=by
  have:=Zs4 w (List.replicate n ⟨#[]⟩) (by simp;omega)
  rw[List.length_replicate] at this;rw[Ztn,FD];exact this
 have Hb:=hd_ ((Below.refl w.heap.size w).alloc nr_ (.cells (Zdq (List.replicate n ⟨#[]⟩)).toArray 25));have GJ:(w.alloc (.cells (Zdq (List.replicate n ⟨#[]⟩)).toArray 25)).heap.size=w.heap.size+1:=by simp
 generalize w.alloc (.cells (Zdq (List.replicate n ⟨#[]⟩)).toArray 25)=w1 at *
 have G3:Hid (OpI w (w1.alloc (.cells #[.slice a0 n c0,.slice a1 n c1,.int .i64 B,.slice (some ⟨w.heap.size,0,none⟩) n n] 146)) ps l B 0 a0 c0 a1 c1):=by
  refine⟨?_,?_,Hb.out.alloc (by omega) _⟩
  ·rw[← GJ,FD];exact heap_alloc_new w1 _
  ·rw[FD];exact(show Zfa _ _ _ _ _ from World.ownsRow.alloc gz.out _)
 have Hn:=hd_ FD;rw[FD];clear FD gz Hb;go_enter Tryz.func79,Tryz.ntmps79
 go_wp2_with fail
 go_loopw [20] (fun i wr=>∃ k:Nat,k≤n∧i = .int .i64 k∧Hid (OpI w wr ps l B k a0 c0 a1 c1)) (fun i _=>n-(intOf i).toNat)
 case atStart=>exact⟨0,Nat.zero_le _,rfl,by rw[GJ] at *;exact G3⟩
 case round =>
  obtain⟨k,hk,rfl,HI⟩:=hrel;clear G3
  by_cases H9:k<n
  ·have gm:(k:Int)<n:=by omega
   have GD:k<ps.length:=by rw[Hn.out];exact H9
   have gO:k<l.length:=by rw[Hl.out];exact GD
   obtain⟨b0,o0,rfl,g7,fB⟩:=Dh.out.open (by rw[Qf];omega)
   have cp:=fB k _ (Ym ps k GD);rw[← HI.out.bel.cell (p:=⟨b0,o0+k,none⟩) g7] at cp;obtain⟨b1,o1,rfl,hZ,gK⟩:=dj.out.open (by rw[Kz];omega)
   obtain⟨x0,x1⟩:=Qm gK k (by rw[List.length_map];exact gO)
   rw[Qw l k gO] at x0 x1;rw[← HI.out.bel.cell (p:=⟨b1,o1+k*2,none⟩) hZ] at x0;rw[← HI.out.bel.cell (p:=⟨b1,o1+k*2+1,none⟩) hZ] at x1;have Ga:=hd_ (fun W=>Zi5 W l[k])
   have dR:IntKind.i64.wrap ((k:Int)+1)=((k+1:Nat):Int):=by rw[← Int.natCast_succ];exact iw_ _ (by omega)
   have fX:=l9.out k GD gO;have G4:=aJ.out k GD;have EZ:=Og.out k GD;have fk:=hd_ (fun W (hW:Below w.heap.size w W)=>F7.out k GD W hW)
   have gh:=EQ.out k (by rw[Hn.out];omega)
   clear fB gK;unfold fr fv at Ga;unfold qs at x0 x1;generalize l[k]=q at *
   generalize ps[k]=pk at *
   simp only at x0 x1
   by_cases hz:q.num=0
   ·rw[hz] at Ga;rw[if_pos hz] at fX;rw[fX] at G4;have Fe:Znk B ps l (k+1)=Znk B ps l k:=by
     rw[← G4];refine List.ext_getElem? fun i=>?_
     by_cases hi:k=i
     ·subst hi;rw[List.getElem?_set_self (by rw[gh];exact GD)]
      rw[List.getD_eq_getElem?_getD,List.getElem?_eq_getElem (by rw[gh];exact GD)] at EZ
      rw[List.getElem?_eq_getElem (by rw[gh];exact GD)]
      exact congrArg some EZ.symm
     ·rw[List.getElem?_set_ne hi]
    rw[hz] at x0;have HS:=hd_ Fe;clear fX G4 EZ gh Fe hz fk
    go_wp2_with fail
    refine cm_ (Ga.out _) ?_;rintro e w2 ⟨rfl,hb⟩;have gn:Hid (OpI w w2 ps l B (k+1) (some ⟨b0,o0,none⟩) c0 (some ⟨b1,o1,none⟩) c1) :=
     ⟨by rw[hb.block _ (Array.getElem?_eq_some_iff.1 HI.out.ob).1];exact HI.out.ob,by rw[HS.out];exact Vw HI.out.own hb nr_,HI.out.bel.trans (hb.mono HI.out.bel.size)⟩
    clear hb Ga HI HS
    go_wp2_with fail
    refine⟨⟨k+1,by omega,by go_num,gn⟩,by simp[intOf];omega⟩
   ·rw[if_neg hz] at fX;rw[fX] at G4;have JC:(q.num.sign==0)=false:=by
     rw[beq_eq_false_iff_ne];intro h;exact hz (Int.sign_eq_zero_iff_zero.1 h)
    have mr:(q.num.sign != 0)=true:=by
     rw[bne_iff_ne];intro h;exact hz (Int.sign_eq_zero_iff_zero.1 h)
    clear fX EZ gh hz
    go_wp2_with fail
    refine cm_ (Ga.out _) ?_;rintro e w2 ⟨rfl,hb⟩;have gn:Hid (OpI w w2 ps l B k (some ⟨b0,o0,none⟩) c0 (some ⟨b1,o1,none⟩) c1) :=
     ⟨by rw[hb.block _ (Array.getElem?_eq_some_iff.1 HI.out.ob).1];exact HI.out.ob,Vw HI.out.own hb nr_,HI.out.bel.trans (hb.mono HI.out.bel.size)⟩
    clear hb Ga HI x0 x1 cp JC;obtain⟨k0,k1,k2,k3,-⟩:=Zc5 gn.out.ob;rw[Hn.out] at k3;have q0:=NW.cell k3;have gk:Nonempty (NW w2):=⟨⟨w2,Below.refl _ _⟩⟩;have I:Hid (Below w2.heap.size w2 w2.drew):=(Below.refl _ _).drew;clear k0 k1 k2 k3
    go_wp2_with fail
    refine RP.wp_region_readers 9 [(2,0),(2,1),(2,2),(1,3),(2,4),(2,5),(2,6),(0,7),(2,8),(0,9)] (fun w'=>∃ p:NW w2,w'=p.w) (by kernel_rfl) (by kernel_rfl) ?_ ?_
    ·exact⟨⟨_,I.out⟩,rfl⟩
    iterate 3 (refine RP.walkR_any ?_;simp only[Kh,dz_,Kg,tz_];go_big_quiet_step (fail);refine wpQuiet_nil ?_)
    iterate 1 (refine RP.walkR_read ?_;simp only[Kh,dz_,Kg,tz_];go_big_quiet_step (fail);refine wpQuiet_nil ?_)
    iterate 3 (refine RP.walkR_any ?_;simp only[Kh,dz_,Kg,tz_];go_big_quiet_step (fail);refine wpQuiet_nil ?_)
    clear gk q0;refine RP.walkR_move ?_;simp only[Kh,dz_,Kg,tz_]
    go_wp2_with fail
    refine cm_ (fk.out _ (gn.out.bel.trans (I.out.mono gn.out.bel.size))) ?_;rintro e w3 ⟨rfl,hb⟩;have I3:Hid (Below w2.heap.size w2 w3):=I.out.trans (hb.mono I.out.size);clear hb I fk;have gF:Hid (OpI w w3 ps l B k (some ⟨b0,o0,none⟩) c0 (some ⟨b1,o1,none⟩) c1) :=
     ⟨by rw[I3.out.block _ (Array.getElem?_eq_some_iff.1 gn.out.ob).1];exact gn.out.ob,Vw gn.out.own I3.out nr_,gn.out.bel.trans (I3.out.mono gn.out.bel.size)⟩
    obtain⟨g,hg,fP,fO,hg3,hg4,hg5⟩:=gF.out.own.open (by rw[EQ.out k (by rw[Hn.out];omega)];omega)
    obtain rfl:w.heap.size=g:=by simpa using hg
    have OZ:=hg4 k (by rw[EQ.out k (by rw[Hn.out];omega)];exact GD)
    have mM:=hg5 k;clear hg hg3 hg4 hg5;have Gf:Hid (OpI w (w3.setCell ⟨w.heap.size,k,none⟩ (.string (dec (lgN pk B)))) ps l B (k+1) (some ⟨b0,o0,none⟩) c0 (some ⟨b1,o1,none⟩) c1) :=
     ⟨by rw[Below.heap_setCell _ _ _ _ (by show w.heap.size+1≠w.heap.size;omega)];exact gF.out.ob,by rw[← G4];exact gF.out.own.store k _,gF.out.bel.setCell (p:=⟨w.heap.size,k,none⟩) nr_ _⟩
    go_wp2_with fail
    refine⟨⟨⟨_,I3.out⟩,rfl⟩,?_⟩;clear I3 gn gF
    iterate 1 (refine RP.walkR_any ?_;simp only[Kh,dz_,Kg,tz_];go_big_quiet_step (fail);refine wpQuiet_nil ?_)
    refine RP.walkR_move ?_;simp only[Kh,dz_,Kg,tz_]
    go_wp2_with fail
    simp only[RP.walkR]
    go_wp2_with fail
    refine⟨⟨k+1,by omega,by go_num,Gf⟩,by simp[intOf];omega⟩
  ·obtain rfl:k=n:=by omega
   have gm:¬ (k:Int)<k:=by omega
   have HR:Hid (Zmg wr (w.heap.size+1) ps l B):=by
    refine⟨a0,c0,a1,c1,some ⟨w.heap.size,0,none⟩,ps.length,HI.out.ob,Dh.out.below HI.out.bel nr_,dj.out.below HI.out.bel nr_,?_⟩;have:=HI.out.own
    rw[← Hn.out,fH.out,Hn.out] at this;have h2:Zfa wr w.heap.size (some ⟨w.heap.size,0,none⟩) ps.length (Ztm B ps l):=by rw[Hn.out];exact this
    exact h2.rd
   go_wp2_with fail
   go_ret;exact⟨w.heap.size+1,rfl,HR.out,Nat.le_succ _,HI.out.bel⟩
theorem Ya{w:World}{R:Nat}{x y x' y':Value}{t:TypeId}(h:w.heap[R]?=some (.cells #[x,y] t (0,0))):
  ((w.setCell ⟨R,0,none⟩ x').setCell ⟨R,1,none⟩ y').heap[R]?=some (.cells #[x',y'] t (0,0)):=by
 have H9:=lt_of_block h;have h':w.heap[R] = .cells #[x,y] t (0,0):=by simpa [Array.getElem?_eq_getElem H9] using h
 have e1:(w.setCell ⟨R,0,none⟩ x').heap[R]?=some (.cells #[x',y] t (0,0)):=by
  show (w.heap.modify R _)[R]?=_
  rw[Array.getElem?_eq_getElem (by simpa using H9),Array.getElem_modify_self,h']
  rfl
 have Gb:=lt_of_block e1;have ER:(w.setCell ⟨R,0,none⟩ x').heap[R] = .cells #[x',y] t (0,0):=by simpa [Array.getElem?_eq_getElem Gb] using e1
 show ((w.setCell ⟨R,0,none⟩ x').heap.modify R _)[R]?=_
 rw[Array.getElem?_eq_getElem (by simpa using Gb),Array.getElem_modify_self,ER]
 rfl
def Zah (w:World) (g:Nat) (q:Rat):Prop:=w.heap[g]?=some (.cells #[.string (itx q.num),.string (dec q.den)] 42 (0,0))
theorem Zah.below{w w':World}{g:Nat}{q:Rat}(h:Zah w g q)(hb:Below w.heap.size w w'):Zah w' g q:=by
 unfold Zah at *
 rw[hb.block g (Array.getElem?_eq_some_iff.1 h).1];exact h
structure EnI (w wr:World) (lo hi:Rat):Prop where
 e0:Zah wr w.heap.size lo
 e1:Zah wr (w.heap.size+1) hi
 bel:Below w.heap.size w wr
theorem EnI.below{w wr w':World}{lo hi:Rat}(h:EnI w wr lo hi)(hb:Below wr.heap.size wr w'):EnI w w' lo hi:=⟨h.e0.below hb,h.e1.below hb,h.bel.trans (hb.mono h.bel.size)⟩
def Vu (w:World) (E:Nat) (a b:Rat):World :=
 (((w.setCell ⟨E,0,none⟩ (.string (itx a.num))).setCell ⟨E,1,none⟩ (.string (dec a.den))).setCell ⟨E+1,0,none⟩ (.string (itx b.num))).setCell ⟨E+1,1,none⟩ (.string (dec b.den))
theorem EnI.put{w wr:World}{lo hi:Rat}(h:EnI w wr lo hi)(a b:Rat):EnI w (Vu wr w.heap.size a b) a b:=by
 have h1:=Ya (x' := .string (itx a.num)) (y' := .string (dec a.den)) h.e0;have e1:((wr.setCell ⟨w.heap.size,0,none⟩ (.string (itx a.num))).setCell ⟨w.heap.size,1,none⟩ (.string (dec a.den))).heap[w.heap.size+1]?=some (.cells #[.string (itx hi.num),.string (dec hi.den)] 42 (0,0)):=by
  rw[Below.heap_setCell _ _ _ _ (by show w.heap.size+1≠w.heap.size;omega),Below.heap_setCell _ _ _ _ (by show w.heap.size+1≠w.heap.size;omega)]
  exact h.e1
 have h2:=Ya (x' := .string (itx b.num)) (y' := .string (dec b.den)) e1;unfold Vu;refine⟨?_,h2,?_⟩
 ·unfold Zah;rw[Below.heap_setCell _ _ _ _ (by show w.heap.size≠w.heap.size+1;omega),Below.heap_setCell _ _ _ _ (by show w.heap.size≠w.heap.size+1;omega)]
  exact h1
 ·exact(((h.bel.setCell (p:=⟨w.heap.size,0,none⟩) nr_ _).setCell (p:=⟨w.heap.size,1,none⟩) nr_ _).setCell (p:=⟨w.heap.size+1,0,none⟩) (Nat.le_succ _) _).setCell (p:=⟨w.heap.size+1,1,none⟩) (Nat.le_succ _) _
theorem EnI.set{w wr:World}{lo hi:Rat}(h:EnI w wr lo hi){g:Nat}(hg:w.heap.size+2≤g)(x y:Value):EnI w ((wr.setCell ⟨g,0,none⟩ x).setCell ⟨g,1,none⟩ y) lo hi:=by
 refine⟨?_,?_,(h.bel.setCell (p:=⟨g,0,none⟩) (by show _≤g;omega) _).setCell (p:=⟨g,1,none⟩) (by show _≤g;omega) _⟩
 ·unfold Zah;rw[Below.heap_setCell _ _ _ _ (by show w.heap.size≠g;omega),Below.heap_setCell _ _ _ _ (by show w.heap.size≠g;omega)]
  exact h.e0
 ·unfold Zah;rw[Below.heap_setCell _ _ _ _ (by show w.heap.size+1≠g;omega),Below.heap_setCell _ _ _ _ (by show w.heap.size+1≠g;omega)]
  exact h.e1
theorem Zah.set{w:World}{g k:Nat}{q:Rat}(h:Zah w g q)(hk:g≠k)(x y:Value):Zah ((w.setCell ⟨k,0,none⟩ x).setCell ⟨k,1,none⟩ y) g q:=by
 unfold Zah;rw[Below.heap_setCell _ _ _ _ hk,Below.heap_setCell _ _ _ _ hk];exact h
theorem Zah.put{w:World}{g:Nat}{q:Rat}(h:Zah w g q)(a:Rat):Zah ((w.setCell ⟨g,0,none⟩ (.string (itx a.num))).setCell ⟨g,1,none⟩ (.string (dec a.den))) g a:=Ya h
theorem Zah.new(w:World)(q:Rat):Zah (w.alloc (.cells #[.string (itx q.num),.string (dec q.den)] 42)) w.heap.size q:=heap_alloc_new w _
theorem Zcx:itx (0:Rat).num=⟨#[48]⟩∧dec (0:Rat).den=⟨#[49]⟩:=by
 refine⟨?_,?_⟩
 ·show itx 0=_
  rw[show itx 0=dec 0 from Kj 0]
  have:(dec 0).data = #[48]:=by decide +kernel
  exact ByteArray.ext this
 ·exact Vg
structure EnW (w0:World) (lo hi:Rat) where
 w:World
 h:EnI w0 w lo hi
theorem EnW.cells{w0:World}{lo hi:Rat}(p:EnW w0 lo hi):p.w.cell? ⟨w0.heap.size,0,none⟩=some (.string (itx lo.num))∧p.w.cell? ⟨w0.heap.size,1,none⟩=some (.string (dec lo.den))∧p.w.cell? ⟨w0.heap.size+1,0,none⟩=some (.string (itx hi.num))∧p.w.cell? ⟨w0.heap.size+1,1,none⟩=some (.string (dec hi.den)):=by
 obtain⟨k0,k1,-,-⟩:=Ka p.h.e0;obtain⟨k2,k3,-,-⟩:=Ka p.h.e1;exact⟨k0,k1,k2,k3⟩
theorem EnI.put0{w wr:World}{lo hi:Rat}(h:EnI w wr lo hi)(a:Rat):EnI w ((wr.setCell ⟨w.heap.size,0,none⟩ (.string (itx a.num))).setCell ⟨w.heap.size,1,none⟩ (.string (dec a.den))) a hi :=
 ⟨Ya h.e0,Zah.set h.e1 (by omega) _ _,(h.bel.setCell (p:=⟨w.heap.size,0,none⟩) nr_ _).setCell (p:=⟨w.heap.size,1,none⟩) nr_ _⟩
theorem EnI.put1{w wr:World}{lo hi:Rat}(h:EnI w wr lo hi)(a:Rat):EnI w ((wr.setCell ⟨w.heap.size+1,0,none⟩ (.string (itx a.num))).setCell ⟨w.heap.size+1,1,none⟩ (.string (dec a.den))) lo a :=
 ⟨Zah.set h.e0 (by omega) _ _,Ya h.e1,(h.bel.setCell (p:=⟨w.heap.size+1,0,none⟩) (Nat.le_succ _) _).setCell (p:=⟨w.heap.size+1,1,none⟩) (Nat.le_succ _) _⟩
theorem Zgp{x:Nat}(h:x<2^K10):Num x:=Vf h (by decide)
theorem Zyc{q b:Nat}(hq:q=2∨q∈Yp)(hb:b≤1000):lgN q b+2<2^K10∧2^b+1<2^K10:=by
 have h1:=Zgx hq (show b≤1056 by omega)
 have h2:8*2^b≤2^K10:=by
  rw[show 8=2^3 from rfl,← Nat.pow_add]
  exact Nat.pow_le_pow_right (by decide) (by rw[k10];omega)
 have h3:8*2^b+8≤2^K10:=by
  have e:8*2^b*2≤2^K10:=by
   rw[show 8=2^3 from rfl,← Nat.pow_add,← Nat.pow_succ]
   exact Nat.pow_le_pow_right (by decide) (by rw[k10];omega)
  have:=Nat.two_pow_pos b
  omega
 have:=Nat.two_pow_pos b
 omega
theorem Qb7(w:World)(n d:Nat)(hn:n+1<2^K10)(hd:d+1<2^K10)(fu:0<d)(L:Qd w):
  Kc Tryz.prog 102 #[.string (dec n),.string (dec d)] w (.tuple #[fr (mkRat (n:Int) d),.int .i64 0]):=by
 have h:=Zo0 w n d (show Num _ from Zgp (by rw[Int.natAbs_natCast];omega)) (Zgp (by omega)) fu (Zgp (by rw[Int.natAbs_natCast];exact hn)) (Zgp hd) L
 rw[Kj,Zc2 _ _ (by omega)] at h
 exact h
theorem Zbv(w:World)(R:Nat)(ps:List Int)(l:List Rat)(B b D:Nat)(H:Zmg w R ps l B)(hl:l.length=ps.length)(hn:ps.length≤100)(hp:∀ p∈ps,∃ q:Nat,p=q∧(q=2∨q∈Yp))(hs:∀ q∈l,Sm D q)(hD:D≤300)(hb:b≤B)(hB:B≤1000)(L:Qd w):
  Kc Tryz.prog 80 #[.pointer (some ⟨R,0,none⟩),.int .i64 b] w (.tuple #[fr (loE b ps l),fr (hiE b ps l)]):=by
 unfold Kc;have HH:=hd_ H;have Hp:=hd_ hp;have Hl:=hd_ hl;have Hs:=hd_ hs;have HL:=hd_ L;obtain⟨a0,c0,a1,c1,a2,c2,S⟩:=H;obtain⟨k0,k1,k2,k3,-⟩:=Zc5 S.ob;have As:R<w.heap.size:=(Array.getElem?_eq_some_iff.1 S.ob).1;have Dh:=hd_ S.rp;have dj:=hd_ S.rl;have C':=hd_ (fun W (hW:Below w.heap.size w W)=>Zov W b (by omega) (HL.out.below hW))
 have ET:Hid (∀ W,Below w.heap.size w W→W.cell? ⟨R,0,none⟩=some (.slice a0 ps.length c0)):=fun W hW=>by rw[hW.cell (p:=⟨R,0,none⟩) As];exact k0
 have Fv:Hid (∀ W,Below w.heap.size w W→W.cell? ⟨R,1,none⟩=some (.slice a1 ps.length c1)):=fun W hW=>by rw[hW.cell (p:=⟨R,1,none⟩) As];exact k1
 have Hv:Hid (True→(loE b ps l=loE b (ps.take ps.length) (l.take ps.length))∧hiE b ps l=hiE b (ps.take ps.length) (l.take ps.length)):=fun _=>by
  rw[List.take_length,List.take_of_length_le (by omega)];exact⟨rfl,rfl⟩
 obtain⟨vlo,hvlo⟩:∃ v,loE b ps l=v:=⟨_,rfl⟩;obtain⟨vhi,hvhi⟩:∃ v,hiE b ps l=v:=⟨_,rfl⟩;rw[hvlo,hvhi] at Hv ⊢;clear S L hs hp hl hvlo hvhi k2 k3;obtain⟨n,FD⟩:∃ n,ps.length=n:=⟨_,rfl⟩;have Hn:=hd_ FD;rw[FD] at hn ET Fv Hv k0 k1;clear FD;unfold fr fv;go_enter Tryz.func80,Tryz.ntmps80
 go_wp2_with fail
 have Aa:Hid (EnI w ((w.alloc (.cells #[.string ⟨#[48]⟩,.string ⟨#[49]⟩] 42)).alloc (.cells #[.string ⟨#[48]⟩,.string ⟨#[49]⟩] 42)) 0 0):=by
  obtain⟨z1,z2⟩:=Zcx;have h1:=Zah.new w 0;have h2:=Zah.new (w.alloc (.cells #[.string (itx (0:Rat).num),.string (dec (0:Rat).den)] 42)) 0;rw[z1,z2] at h1 h2;refine⟨h1.below ((Below.refl _ _).alloc nr_ _),?_,((Below.refl _ _).alloc nr_ _).alloc (by simp) _⟩
  have e:(w.alloc (.cells #[.string ⟨#[48]⟩,.string ⟨#[49]⟩] 42)).heap.size=w.heap.size+1:=by simp
  rw[e] at h2;exact h2
 have Da:Hid (w.heap.size+2≤((w.alloc (.cells #[.string ⟨#[48]⟩,.string ⟨#[49]⟩] 42)).alloc (.cells #[.string ⟨#[48]⟩,.string ⟨#[49]⟩] 42)).heap.size):=by show _≤_;simp
 generalize (w.alloc (.cells #[.string ⟨#[48]⟩,.string ⟨#[49]⟩] 42)).alloc (.cells #[.string ⟨#[48]⟩,.string ⟨#[49]⟩] 42)=W0 at *
 refine cm_ (C'.out _ Aa.out.bel) ?_;rintro e w1 ⟨rfl,hZ⟩;have Eh:=hd_ (Aa.out.below hZ);have Mk:=hd_ (Nat.le_trans Da.out hZ.size);have nT:=Fv.out _ Eh.out.bel;clear hZ Aa C' k0 k1 Da
 go_wp2_with fail
 go_loopw [25] (fun i wr=>∃ k:Nat,k≤n∧i = .int .i64 k∧Hid (EnI w wr (loE b (ps.take k) (l.take k)) (hiE b (ps.take k) (l.take k)))∧Hid (w.heap.size+2≤wr.heap.size)) (fun i _=>n-(intOf i).toNat)
 case atStart=>exact⟨0,Nat.zero_le _,rfl,by simpa [loE,hiE] using Eh,Mk⟩
 case round =>
  obtain⟨k,hk,rfl,HE,Hz⟩:=hrel;clear Eh Mk nT
  by_cases H9:k<n
  ·have gm:(k:Int)<n:=by omega
   have GD:k<ps.length:=by rw[Hn.out];exact H9
   have gO:k<l.length:=by rw[Hl.out];exact GD
   obtain⟨b0,o0,rfl,g7,fB⟩:=Dh.out.open (by rw[Qf];omega)
   have Fb:Hid (∀ W,Below w.heap.size w W→W.cell? ⟨b0,o0+k,none⟩=some (.int .i64 ps[k])):=fun W hW=>by
    rw[hW.cell (p:=⟨b0,o0+k,none⟩) g7];exact fB k _ (Ym ps k GD)
   obtain⟨b1,o1,rfl,hZ,gK⟩:=dj.out.open (by rw[Kz];omega)
   obtain⟨x0,x1⟩:=Qm gK k (by rw[List.length_map];exact gO)
   rw[Qw l k gO] at x0 x1;rw[← HE.out.bel.cell (p:=⟨b1,o1+k*2,none⟩) hZ] at x0;rw[← HE.out.bel.cell (p:=⟨b1,o1+k*2+1,none⟩) hZ] at x1;have dR:IntKind.i64.wrap ((k:Int)+1)=((k+1:Nat):Int):=by rw[← Int.natCast_succ];exact iw_ _ (by omega)
   have Ga:=hd_ (fun W=>Zi5 W l[k])
   have Gu:=hd_ (Zg4 b ps l k Hl.out GD gO);have F3:=hd_ (Zjv (show b≤1056 by omega) Hp.out Hl.out Hs.out k (Nat.le_of_lt GD))
   have eD:=hd_ (Hs.out l[k] (List.getElem_mem gO));obtain⟨q,hq,Gh⟩:=Hp.out _ (List.getElem_mem GD);have ES:=hd_ (Zyr (p:=ps[k]) (Hp.out _ (List.getElem_mem GD)) (show b≤1056 by omega))
   have AN:=hd_ (fun W (hW:Below w.heap.size w W) (hz:l[k].num≠0)=>Zyl W R ps l B b k (HH.out.below hW) Hl.out (by rw[Hn.out];omega) GD gO (Hp.out _ (List.getElem_mem GD)) hz hb hB (HL.out.below hW))
   have Hq:=hd_ hq;have lU:=hd_ Gh;have lz:1+k*(D+356)≤65700:=by
    have:k*(D+356)≤100*656:=Nat.mul_le_mul (by omega) (by omega)
    omega
   clear fB gK hq Gh;unfold fr fv at Ga;unfold qs at x0 x1;simp only at x0 x1;generalize l[k]=c at *
   generalize ps[k]=pk at *
   have Cw:=hd_ (show b≤1000 by omega)
   by_cases hz:c.num=0
   ·have fB:c=0:=Rat.num_eq_zero.1 hz;have El:loE b (ps.take (k+1)) (l.take (k+1))=loE b (ps.take k) (l.take k)∧hiE b (ps.take (k+1)) (l.take (k+1))=hiE b (ps.take k) (l.take k):=by
     obtain⟨e1,e2⟩:=Zln b pk;have:=Gu.out
     rw[fB,e1,e2,Rat.add_zero,Rat.add_zero] at this;exact this
    have EG:=hd_ El;rw[hz] at Ga x0;have Jf:=hd_ (HE.out.below ((Below.refl _ _).alloc nr_ (.cells #[.string (itx 0),.string (dec c.den)] 42)));have jS:Hid (w.heap.size+2≤(wr.alloc (.cells #[.string (itx 0),.string (dec c.den)] 42)).heap.size):=by show _≤_;simp;have:=Hz.out;omega
    have k8:=Ka (heap_alloc_new wr (.cells #[.string (itx 0),.string (dec c.den)] 42));clear El AN Gu F3 eD ES Hq lU Fb fB hz
    go_wp2_with fail
    refine cm_ (Ga.out _) ?_;rintro e w2 ⟨rfl,HU⟩;have Fc:=hd_ (Jf.out.below HU);have Da:=hd_ (Nat.le_trans jS.out HU.size);clear HU Ga k8
    go_wp2_with fail
    refine⟨⟨k+1,by omega,by go_num,by rw[EG.out.1,EG.out.2];exact Fc,Da⟩,by simp[intOf];omega⟩
   ·have BP:(c.num.sign==0)=false:=by
     rw[beq_eq_false_iff_ne];intro h;exact hz (Int.sign_eq_zero_iff_zero.1 h)
    have eh:=hd_ (fun W hW=>AN.out W hW hz)
    have Jf:=hd_ (HE.out.below ((Below.refl _ _).alloc nr_ (.cells #[.string (itx c.num),.string (dec c.den)] 42)));have jS:Hid (w.heap.size+2≤(wr.alloc (.cells #[.string (itx c.num),.string (dec c.den)] 42)).heap.size):=by show _≤_;simp;have:=Hz.out;omega
    have F8:=hd_ (Zah.new wr c);obtain⟨g8,hg8⟩:∃ g8,g8=wr.heap.size:=⟨_,rfl⟩;have k8:=Ka (heap_alloc_new wr (.cells #[.string (itx c.num),.string (dec c.den)] 42));clear AN hz
    go_wp2_with fail
    refine cm_ (Ga.out _) ?_;rintro e w2 ⟨rfl,HU⟩;have Fc:=hd_ (Jf.out.below HU);have Da:=hd_ (Nat.le_trans jS.out HU.size);have Aj:=hd_ (F8.out.below HU);rw[← hg8] at Aj;have mf:w.heap.size+2≤g8:=by rw[hg8];exact Hz.out
    have Mb:g8<w2.heap.size:=(Array.getElem?_eq_some_iff.1 Aj.out).1;clear HU Ga k8 Jf jS F8;rw[← hg8];have pC:=hd_ mf;have AO:=hd_ Mb;clear x0 x1 hg8 mf Mb;obtain⟨k0,k1,-,-⟩:=Ka Aj.out;have q0:=NW.cell k0;have q1:=NW.cell k1;have gk:Nonempty (NW w2):=⟨⟨w2,Below.refl _ _⟩⟩;have I:Hid (Below w2.heap.size w2 w2.drew):=(Below.refl _ _).drew
    go_wp2_with fail
    clear k0 k1;refine RP.wp_region_tree 5 (.rd 1 0 (.rd 1 1 (.two 2 3 (.mv 3 (.mv 4 (.mv 5 .nil))) (.mv 2 (.mv 4 (.mv 5 .nil)))))) (fun w'=>∃ p:NW w2,w'=p.w) (by kernel_rfl) (by kernel_rfl) ?_ ?_
    ·exact⟨⟨_,I.out⟩,rfl⟩
    iterate 2 (refine RP.walkT_read ?_;simp only[Kh,dz_,Kg,tz_];go_big_quiet_step (fail);refine wpQuiet_nil ?_)
    clear q0 q1 gk;refine RP.walkT_two ?_ ?_
    ·simp only[Kh,dz_,Kg,tz_]
     go_wp2_with fail
     obtain⟨ga,Ds⟩:∃ x,x=w2.heap.size:=⟨_,rfl⟩;have I3:Hid (Below w2.heap.size w2 (w2.alloc (.cells #[.string ⟨#[]⟩,.string ⟨#[]⟩] 42)).drew):=Qh ((Below.refl _ _).alloc nr_ _) 1;have N3:Hid ((w2.alloc (.cells #[.string ⟨#[]⟩,.string ⟨#[]⟩] 42)).drew.heap[ga]?=some (.cells #[.string ⟨#[]⟩,.string ⟨#[]⟩] 42 (0,0))):=by rw[Ds];exact heap_alloc_new w2 _
     have Z3:Hid ((w2.alloc (.cells #[.string ⟨#[]⟩,.string ⟨#[]⟩] 42)).drew.heap.size=w2.heap.size+1):=by show _=_;simp
     rw[← Ds];have Lb:=hd_ Ds;clear Ds;generalize (w2.alloc (.cells #[.string ⟨#[]⟩,.string ⟨#[]⟩] 42)).drew=w3 at *
     refine⟨⟨⟨_,I3.out⟩,rfl⟩,?_⟩;refine RP.walkT_move ?_;simp only[Kh,dz_,Kg,tz_]
     go_wp2_with fail
     obtain⟨gb,Et⟩:∃ x,x=w3.heap.size:=⟨_,rfl⟩;have I4:Hid (Below w2.heap.size w2 (w3.alloc (.cells #[.string ⟨#[]⟩,.string ⟨#[]⟩] 42))):=I3.out.alloc I3.out.size _;have N4:Hid ((w3.alloc (.cells #[.string ⟨#[]⟩,.string ⟨#[]⟩] 42)).heap[ga]?=some (.cells #[.string ⟨#[]⟩,.string ⟨#[]⟩] 42 (0,0))):=by
      show _=_
      rw[((Below.refl _ w3).alloc nr_ _).block ga (Array.getElem?_eq_some_iff.1 N3.out).1];exact N3.out
     have M4:Hid ((w3.alloc (.cells #[.string ⟨#[]⟩,.string ⟨#[]⟩] 42)).heap[gb]?=some (.cells #[.string ⟨#[]⟩,.string ⟨#[]⟩] 42 (0,0))):=by rw[Et];exact heap_alloc_new w3 _
     have FT:ga≠gb:=by have:=Z3.out;have:=Lb.out;omega
     have Ft:w2.heap.size≤ga:=by have:=Lb.out;omega
     have DM:w2.heap.size≤gb:=by have:=Z3.out;omega
     rw[← Et];clear N3 I3 Et Z3;generalize w3.alloc (.cells #[.string ⟨#[]⟩,.string ⟨#[]⟩] 42)=w4 at *
     have NA:=N4;have NB:=M4;have Eu:=Ft;have Es:=DM;have FL:=hd_ FT;clear N4 M4 Ft DM FT;refine⟨⟨⟨_,I4.out⟩,rfl⟩,?_⟩;refine RP.walkT_move ?_;simp only[Kh,dz_,Kg,tz_];obtain⟨n0,n1,f0,f1⟩:=Ka NA.out
     go_wp2_with fail
     have I5:=hd_ ((I4.out.setCell (p:=⟨ga,0,none⟩) Eu (.string (itx c.num))).setCell (p:=⟨ga,1,none⟩) Eu (.string (dec c.den)));have js:Hid (Zah ((w4.setCell ⟨ga,0,none⟩ (.string (itx c.num))).setCell ⟨ga,1,none⟩ (.string (dec c.den))) ga c):=Ya NA.out;have ay:Hid (((w4.setCell ⟨ga,0,none⟩ (.string (itx c.num))).setCell ⟨ga,1,none⟩ (.string (dec c.den))).heap[gb]?=some (.cells #[.string ⟨#[]⟩,.string ⟨#[]⟩] 42 (0,0))):=by
      show _=_
      rw[Below.heap_setCell _ _ _ _ (Ne.symm FL.out),Below.heap_setCell _ _ _ _ (Ne.symm FL.out)];exact NB.out
     clear n0 n1 f0 f1 NA NB I4;generalize (w4.setCell ⟨ga,0,none⟩ (.string (itx c.num))).setCell ⟨ga,1,none⟩ (.string (dec c.den))=w5 at *
     refine⟨⟨⟨_,I5.out⟩,rfl⟩,?_⟩;refine RP.walkT_move ?_;simp only[Kh,dz_,Kg,tz_];obtain⟨n0,n1,f0,f1⟩:=Ka ay.out
     go_wp2_with fail
     have I6:=hd_ ((I5.out.setCell (p:=⟨gb,0,none⟩) Es (.string (itx c.num))).setCell (p:=⟨gb,1,none⟩) Es (.string (dec c.den)));have Ae:Hid (Zah ((w5.setCell ⟨gb,0,none⟩ (.string (itx c.num))).setCell ⟨gb,1,none⟩ (.string (dec c.den))) gb c):=Ya ay.out;have Ai:=hd_ (js.out.set FL.out (.string (itx c.num)) (.string (dec c.den)));clear n0 n1 f0 f1 js ay I5;generalize (w5.setCell ⟨gb,0,none⟩ (.string (itx c.num))).setCell ⟨gb,1,none⟩ (.string (dec c.den))=w6 at *
     have Fx:=hd_ (Fc.out.below I6.out);have jw:=hd_ (Aj.out.below I6.out);have Ds:w.heap.size+2≤ga:=by have:=Da.out;omega
     have Et:w.heap.size+2≤gb:=by have:=Da.out;omega
     have Ld:Hid (g8≠ga):=by have:=AO.out;show _≠_;omega
     have Lc:Hid (g8≠gb):=by have:=AO.out;show _≠_;omega
     have aA:=hd_ (Nat.le_trans Da.out I6.out.size);clear Fc Aj I6 Eu Es Da AO;simp only[RP.walkT];have Jq:=ET.out w6 Fx.out.bel;have cp:=Fb.out w6 Fx.out.bel
     by_cases h2:pk=2
     ·have At:(pk != 2)=false:=by rw[h2];rfl
      have GP:Hid (c=c*xE pk b∧Sm (D+355) c):=⟨by rw[h2];unfold xE;rw[if_pos rfl,Rat.mul_one],eD.out.le (by omega)⟩
      have GO:Hid (c=c*yE pk b∧Sm (D+355) c):=⟨by rw[h2];unfold yE;rw[if_pos rfl,Rat.mul_one],eD.out.le (by omega)⟩
      clear eh;obtain⟨k0,k1,-,-⟩:=Ka Fx.out.e0;obtain⟨k2,k3,-,-⟩:=Ka Fx.out.e1;obtain⟨k4,k5,-,-⟩:=Ka Ai.out;obtain⟨k6,k7,-,-⟩:=Ka Ae.out;have q0:=NW.cell k0;have q1:=NW.cell k1;have q2:=NW.cell k2;have q3:=NW.cell k3;have q4:=NW.cell k4;have q5:=NW.cell k5;have q6:=NW.cell k6;have q7:=NW.cell k7;have gk:Nonempty (NW w6):=⟨⟨w6,Below.refl _ _⟩⟩;have I:Hid (Below w6.heap.size w6 w6.drew):=(Below.refl _ _).drew;have fJ:=hd_ (fun X (hX:Below w6.heap.size w6 X)=>HL.out.below (Fx.out.bel.trans (hX.mono Fx.out.bel.size)))
      have eR:=hd_ (fun X hX=>Zgr X c c (D+355) (D+355) GP.out.2 GO.out.2 (by omega) (fJ.out X hX))
      have f':=hd_ (fun X hX=>Zgs X c c (D+355) (D+355) GP.out.2 GO.out.2 (by omega) (fJ.out X hX))
      have Gl:=hd_ (fun X hX=>Zrs X _ _ _ _ F3.out.1 (Zeq GP.out.2 GO.out.2) (by omega) (fJ.out X hX))
      have Gp:=hd_ (fun X hX=>Zrs X _ _ _ _ F3.out.2 (Zer GP.out.2 GO.out.2) (by omega) (fJ.out X hX))
      have Fz:loE b (ps.take k) (l.take k)+Zhr c c=loE b (ps.take (k+1)) (l.take (k+1)):=by first | (rw[Gu.out.1];done) | (rw[Gu.out.1,← GP.out.1,← GO.out.1];done)
      have Fy:hiE b (ps.take k) (l.take k)+Zhs c c=hiE b (ps.take (k+1)) (l.take (k+1)):=by first | (rw[Gu.out.2];done) | (rw[Gu.out.2,← GP.out.1,← GO.out.1];done)
      rw[Fz] at Gl;rw[Fy] at Gp;clear Fz Fy fJ;unfold fr fv at eR f' Gl Gp
      go_wp2_with fail
      clear k0 k1 k2 k3 k4 k5 k6 k7;refine RP.wp_region_readers 10 [(1,0),(1,1),(1,2),(1,5),(1,6),(1,7),(0,3),(0,4),(0,8),(0,9),(0,10),(0,11)] (fun w'=>∃ p:NW w6,w'=p.w) (by kernel_rfl) (by kernel_rfl) ?_ ?_
      ·exact⟨⟨_,I.out⟩,rfl⟩
      iterate 6 (refine RP.walkR_read ?_;simp only[Kh,dz_,Kg,tz_];go_big_quiet_step (fail);refine wpQuiet_nil ?_)
      clear q0 q1 q2 q3 q4 q5 q6 q7 gk;refine RP.walkR_move ?_;simp only[Kh,dz_,Kg,tz_]
      go_wp2_with fail
      refine cm_ (eR.out _ I.out) ?_;rintro e x1 ⟨rfl,hbx⟩;have J1:Hid (Below w6.heap.size w6 x1):=I.out.trans (hbx.mono I.out.size);clear hbx I eR
      go_wp2_with fail
      refine⟨⟨⟨_,J1.out⟩,rfl⟩,?_⟩;refine RP.walkR_move ?_;simp only[Kh,dz_,Kg,tz_]
      go_wp2_with fail
      refine cm_ (Gl.out _ J1.out) ?_;rintro e x2 ⟨rfl,hbx⟩;have J2:Hid (Below w6.heap.size w6 x2):=J1.out.trans (hbx.mono J1.out.size);clear hbx J1 Gl
      go_wp2_with fail
      refine⟨⟨⟨_,J2.out⟩,rfl⟩,?_⟩;refine RP.walkR_move ?_;simp only[Kh,dz_,Kg,tz_]
      go_wp2_with fail
      refine cm_ (f'.out _ J2.out) ?_;rintro e x3 ⟨rfl,hbx⟩;have J3:Hid (Below w6.heap.size w6 x3):=J2.out.trans (hbx.mono J2.out.size);clear hbx J2 f'
      go_wp2_with fail
      refine⟨⟨⟨_,J3.out⟩,rfl⟩,?_⟩;refine RP.walkR_move ?_;simp only[Kh,dz_,Kg,tz_]
      go_wp2_with fail
      refine cm_ (Gp.out _ J3.out) ?_;rintro e x4 ⟨rfl,hbx⟩;have J4:Hid (Below w6.heap.size w6 x4):=J3.out.trans (hbx.mono J3.out.size);clear hbx J3 Gp
      go_wp2_with fail
      refine⟨⟨⟨_,J4.out⟩,rfl⟩,?_⟩;have Fw:=hd_ (Fx.out.below J4.out);have cS:=hd_ (Nat.le_trans aA.out J4.out.size);obtain⟨k0,k1,f0,f1⟩:=Ka Fw.out.e0;obtain⟨k2,k3,f2,f3⟩:=Ka Fw.out.e1;have dI:=hd_ (Fw.out.put (loE b (ps.take (k+1)) (l.take (k+1))) (hiE b (ps.take (k+1)) (l.take (k+1))));have cT:Hid (w.heap.size+2≤(Vu x4 w.heap.size (loE b (ps.take (k+1)) (l.take (k+1))) (hiE b (ps.take (k+1)) (l.take (k+1)))).heap.size):=by
       show _≤_
       unfold Vu;rw[World.size_setCell,World.size_setCell,World.size_setCell,World.size_setCell];exact cS.out
      unfold Vu at dI cT;clear Fw J4 cS;refine RP.walkR_move ?_;simp only[Kh,dz_,Kg,tz_]
      go_wp2_with fail
      refine RP.walkR_move ?_;simp only[Kh,dz_,Kg,tz_]
      go_wp2_with fail
      simp only[RP.walkR]
      go_wp2_with fail
      refine⟨⟨k+1,by omega,by go_num,dI,cT⟩,by simp[intOf];omega⟩
     ·have At:(pk != 2)=true:=by rw[bne_iff_ne];exact h2
      have ow:(pk==2)=false:=by rw[beq_eq_false_iff_ne];exact h2
      have GP:Hid (c*xE pk b=c*xE pk b∧Sm (D+355) (c*xE pk b)):=⟨rfl,eD.out.mul ES.out.1⟩;have GO:Hid (c*yE pk b=c*yE pk b∧Sm (D+355) (c*yE pk b)):=⟨rfl,eD.out.mul ES.out.2⟩;have EQ:lgN pk b+2<2^K10∧2^b+1<2^K10:=by
       rw[Hq.out];exact Zyc lU.out Cw.out
      have G2:=hd_ (fun W (hW:Below w.heap.size w W)=>Qb7 W (lgN pk b) (2^b) (by omega) EQ.2 (Nat.two_pow_pos b) (HL.out.below hW))
      have dF:=hd_ (fun W (hW:Below w.heap.size w W)=>Qb7 W (lgN pk b+1) (2^b) (by omega) EQ.2 (Nat.two_pow_pos b) (HL.out.below hW))
      have ee:=hd_ (fun W (hW:Below w.heap.size w W)=>Zxp W (lgN pk b) 1 K10 (by decide) (by omega) (Nat.one_lt_two_pow (by decide)) (HL.out.below hW))
      rw[Vg] at ee;have AV:mkRat ((lgN pk b:Nat):Int) (2^b)=xE pk b:=by unfold xE;rw[if_neg h2]
      have AS:mkRat ((lgN pk b+1:Nat):Int) (2^b)=yE pk b:=by unfold yE;rw[if_neg h2]
      rw[AV] at G2;rw[AS] at dF;have E8:=hd_ (fun W (hW:Below w.heap.size w W)=>Zu9 W c (xE pk b) D 355 eD.out ES.out.1 (by omega) (HL.out.below hW))
      have E7:=hd_ (fun W (hW:Below w.heap.size w W)=>Zu9 W c (yE pk b) D 355 eD.out ES.out.2 (by omega) (HL.out.below hW))
      clear EQ AV AS h2;unfold fr fv at G2 dF E8 E7
      go_wp2_with fail
      refine cm_ (eh.out _ Fx.out.bel) ?_;rintro e w7 ⟨rfl,hbx⟩;have bb:=hd_ (Fx.out.below hbx);have BH:=hd_ (Ai.out.below hbx);have jr:=hd_ (Ae.out.below hbx);have jv:=hd_ (jw.out.below hbx);have az:=hd_ (Nat.le_trans aA.out hbx.size);clear hbx eh Fx Ai Ae jw aA Jq cp
      go_wp2_with fail
      refine cm_ (G2.out _ bb.out.bel) ?_;rintro e w8 ⟨rfl,hbx⟩;have Gd:=hd_ (hbx.alloc hbx.size (.cells #[.string (itx (xE pk b).num),.string (dec (xE pk b).den)] 42));have DH:=hd_ (bb.out.below Gd.out);have Ah:=hd_ (BH.out.below Gd.out);have Ad:=hd_ (jr.out.below Gd.out);have ju:=hd_ (jv.out.below Gd.out);have cU:=hd_ (Nat.le_trans az.out Gd.out.size);have FX:=hd_ (Zah.new w8 (xE pk b));have iv:=hd_ (Nat.le_trans az.out hbx.size);clear hbx Gd bb BH jr jv az G2
      go_wp2_with fail
      generalize w8.alloc (.cells #[.string (itx (xE pk b).num),.string (dec (xE pk b).den)] 42)=w9 at *
      generalize w8.heap.size=gx at *
      refine cm_ (ee.out _ DH.out.bel) ?_;rintro e w10 ⟨rfl,hbx⟩;have dl:=hd_ (DH.out.below hbx);have CM:=hd_ (Ah.out.below hbx);have CK:=hd_ (Ad.out.below hbx);have CO:=hd_ (ju.out.below hbx);have CI:=hd_ (FX.out.below hbx);have cW:=hd_ (Nat.le_trans cU.out hbx.size);clear hbx DH Ah Ad ju FX cU ee
      go_wp2_with fail
      refine cm_ (dF.out _ dl.out.bel) ?_;rintro e w11 ⟨rfl,hbx⟩;have Gd:=hd_ (hbx.alloc hbx.size (.cells #[.string (itx (yE pk b).num),.string (dec (yE pk b).den)] 42));have Fd:=hd_ (dl.out.below Gd.out);have CL:=hd_ (CM.out.below Gd.out);have CJ:=hd_ (CK.out.below Gd.out);have CN:=hd_ (CO.out.below Gd.out);have CH:=hd_ (CI.out.below Gd.out);have CG:=hd_ (Zah.new w11 (yE pk b));have cV:=hd_ (Nat.le_trans cW.out Gd.out.size);obtain⟨k0,k1,-,-⟩:=Ka CN.out;obtain⟨k2,k3,-,-⟩:=Ka CH.out;obtain⟨k4,k5,-,-⟩:=Ka CG.out;have q0:=NW.cell k0;have q1:=NW.cell k1;have q2:=NW.cell k2;have q3:=NW.cell k3;have q4:=NW.cell k4;have q5:=NW.cell k5;clear hbx Gd dl CM CK CO CI cW dF k0 k1 k2 k3 k4 k5
      go_wp2_with fail
      generalize w11.alloc (.cells #[.string (itx (yE pk b).num),.string (dec (yE pk b).den)] 42)=w12 at *
      generalize w11.heap.size=gy at *
      have gk:Nonempty (NW w12):=⟨⟨w12,Below.refl _ _⟩⟩;have I:Hid (Below w12.heap.size w12 w12.drew):=(Below.refl _ _).drew;refine RP.wp_region_readers 6 [(1,0),(1,1),(1,3),(1,4),(0,2),(0,5),(0,6),(0,7)] (fun w'=>∃ p:NW w12,w'=p.w) (by kernel_rfl) (by kernel_rfl) ?_ ?_
      ·exact⟨⟨_,I.out⟩,rfl⟩
      iterate 4 (refine RP.walkR_read ?_;simp only[Kh,dz_,Kg,tz_];go_big_quiet_step (fail);refine wpQuiet_nil ?_)
      clear gk q0 q1 q2 q3 q4 q5;refine RP.walkR_move ?_;simp only[Kh,dz_,Kg,tz_]
      go_wp2_with fail
      refine cm_ (E8.out _ (Fd.out.bel.trans (I.out.mono Fd.out.bel.size))) ?_;rintro e y1 ⟨rfl,hbx⟩;have J1:Hid (Below w12.heap.size w12 y1):=I.out.trans (hbx.mono I.out.size);clear hbx I E8
      go_wp2_with fail
      refine⟨⟨⟨_,J1.out⟩,rfl⟩,?_⟩;refine RP.walkR_move ?_;simp only[Kh,dz_,Kg,tz_]
      go_wp2_with fail
      refine cm_ (E7.out _ (Fd.out.bel.trans (J1.out.mono Fd.out.bel.size))) ?_;rintro e y2 ⟨rfl,hbx⟩;have J2:Hid (Below w12.heap.size w12 y2):=J1.out.trans (hbx.mono J1.out.size);clear hbx J1 E7
      go_wp2_with fail
      refine⟨⟨⟨_,J2.out⟩,rfl⟩,?_⟩;have jl:=hd_ (Fd.out.below J2.out);have Ag:=hd_ (CL.out.below J2.out);have jq:=hd_ (CJ.out.below J2.out);have If:=hd_ (Nat.le_trans cV.out J2.out.size);obtain⟨k0,k1,f0,f1⟩:=Ka Ag.out;have jt:=hd_ (Ag.out.put (c*xE pk b));have Af:=hd_ (jq.out.set (Ne.symm FL.out) (.string (itx (c*xE pk b).num)) (.string (dec (c*xE pk b).den)));have CD:=hd_ (jl.out.set Ds (.string (itx (c*xE pk b).num)) (.string (dec (c*xE pk b).den)));have Ig:Hid (w.heap.size+2≤((y2.setCell ⟨ga,0,none⟩ (.string (itx (c*xE pk b).num))).setCell ⟨ga,1,none⟩ (.string (dec (c*xE pk b).den))).heap.size):=by
       show _≤_
       rw[World.size_setCell,World.size_setCell];exact If.out
      clear Fd CL CJ CN CH CG cV J2 jl Ag jq If;refine RP.walkR_move ?_;simp only[Kh,dz_,Kg,tz_]
      go_wp2_with fail
      generalize (y2.setCell ⟨ga,0,none⟩ (.string (itx (c*xE pk b).num))).setCell ⟨ga,1,none⟩ (.string (dec (c*xE pk b).den))=y3 at *
      clear k0 k1 f0 f1;obtain⟨k0,k1,f0,f1⟩:=Ka Af.out;have LY:=hd_ (jt.out.set FL.out (.string (itx (c*yE pk b).num)) (.string (dec (c*yE pk b).den)));have LX:=hd_ (Af.out.put (c*yE pk b));have FO:=hd_ (CD.out.set Et (.string (itx (c*yE pk b).num)) (.string (dec (c*yE pk b).den)));have aB:Hid (w.heap.size+2≤((y3.setCell ⟨gb,0,none⟩ (.string (itx (c*yE pk b).num))).setCell ⟨gb,1,none⟩ (.string (dec (c*yE pk b).den))).heap.size):=by
       show _≤_
       rw[World.size_setCell,World.size_setCell];exact Ig.out
      clear jt Af CD Ig;refine RP.walkR_move ?_;simp only[Kh,dz_,Kg,tz_]
      go_wp2_with fail
      generalize (y3.setCell ⟨gb,0,none⟩ (.string (itx (c*yE pk b).num))).setCell ⟨gb,1,none⟩ (.string (dec (c*yE pk b).den))=y4 at *
      clear k0 k1 f0 f1;simp only[RP.walkR];generalize hXc:c*xE pk b=vx at *
      generalize hYc:c*yE pk b=vy at *
      have GP:=hd_ (show c*xE pk b=vx∧Sm (D+355) vx from ⟨hXc,GP.out.2⟩)
      have GO:=hd_ (show c*yE pk b=vy∧Sm (D+355) vy from ⟨hYc,GO.out.2⟩)
      clear hXc hYc;obtain⟨k0,k1,-,-⟩:=Ka FO.out.e0;obtain⟨k2,k3,-,-⟩:=Ka FO.out.e1;obtain⟨k4,k5,-,-⟩:=Ka LY.out;obtain⟨k6,k7,-,-⟩:=Ka LX.out;have q0:=NW.cell k0;have q1:=NW.cell k1;have q2:=NW.cell k2;have q3:=NW.cell k3;have q4:=NW.cell k4;have q5:=NW.cell k5;have q6:=NW.cell k6;have q7:=NW.cell k7;have gk:Nonempty (NW y4):=⟨⟨y4,Below.refl _ _⟩⟩;have I:Hid (Below y4.heap.size y4 y4.drew):=(Below.refl _ _).drew;have fJ:=hd_ (fun X (hX:Below y4.heap.size y4 X)=>HL.out.below (FO.out.bel.trans (hX.mono FO.out.bel.size)))
      have eR:=hd_ (fun X hX=>Zgr X vx vy (D+355) (D+355) GP.out.2 GO.out.2 (by omega) (fJ.out X hX))
      have f':=hd_ (fun X hX=>Zgs X vx vy (D+355) (D+355) GP.out.2 GO.out.2 (by omega) (fJ.out X hX))
      have Gl:=hd_ (fun X hX=>Zrs X _ _ _ _ F3.out.1 (Zeq GP.out.2 GO.out.2) (by omega) (fJ.out X hX))
      have Gp:=hd_ (fun X hX=>Zrs X _ _ _ _ F3.out.2 (Zer GP.out.2 GO.out.2) (by omega) (fJ.out X hX))
      have Fz:loE b (ps.take k) (l.take k)+Zhr vx vy=loE b (ps.take (k+1)) (l.take (k+1)):=by first | (rw[Gu.out.1];done) | (rw[Gu.out.1,← GP.out.1,← GO.out.1];done)
      have Fy:hiE b (ps.take k) (l.take k)+Zhs vx vy=hiE b (ps.take (k+1)) (l.take (k+1)):=by first | (rw[Gu.out.2];done) | (rw[Gu.out.2,← GP.out.1,← GO.out.1];done)
      rw[Fz] at Gl;rw[Fy] at Gp;clear Fz Fy fJ;unfold fr fv at eR f' Gl Gp
      go_wp2_with fail
      clear k0 k1 k2 k3 k4 k5 k6 k7;refine RP.wp_region_readers 10 [(1,0),(1,1),(1,2),(1,5),(1,6),(1,7),(0,3),(0,4),(0,8),(0,9),(0,10),(0,11)] (fun w'=>∃ p:NW y4,w'=p.w) (by kernel_rfl) (by kernel_rfl) ?_ ?_
      ·exact⟨⟨_,I.out⟩,rfl⟩
      iterate 6 (refine RP.walkR_read ?_;simp only[Kh,dz_,Kg,tz_];go_big_quiet_step (fail);refine wpQuiet_nil ?_)
      clear q0 q1 q2 q3 q4 q5 q6 q7 gk;refine RP.walkR_move ?_;simp only[Kh,dz_,Kg,tz_]
      go_wp2_with fail
      refine cm_ (eR.out _ I.out) ?_;rintro e x1 ⟨rfl,hbx⟩;have J1:Hid (Below y4.heap.size y4 x1):=I.out.trans (hbx.mono I.out.size);clear hbx I eR
      go_wp2_with fail
      refine⟨⟨⟨_,J1.out⟩,rfl⟩,?_⟩;refine RP.walkR_move ?_;simp only[Kh,dz_,Kg,tz_]
      go_wp2_with fail
      refine cm_ (Gl.out _ J1.out) ?_;rintro e x2 ⟨rfl,hbx⟩;have J2:Hid (Below y4.heap.size y4 x2):=J1.out.trans (hbx.mono J1.out.size);clear hbx J1 Gl
      go_wp2_with fail
      refine⟨⟨⟨_,J2.out⟩,rfl⟩,?_⟩;refine RP.walkR_move ?_;simp only[Kh,dz_,Kg,tz_]
      go_wp2_with fail
      refine cm_ (f'.out _ J2.out) ?_;rintro e x3 ⟨rfl,hbx⟩;have J3:Hid (Below y4.heap.size y4 x3):=J2.out.trans (hbx.mono J2.out.size);clear hbx J2 f'
      go_wp2_with fail
      refine⟨⟨⟨_,J3.out⟩,rfl⟩,?_⟩;refine RP.walkR_move ?_;simp only[Kh,dz_,Kg,tz_]
      go_wp2_with fail
      refine cm_ (Gp.out _ J3.out) ?_;rintro e x4 ⟨rfl,hbx⟩;have J4:Hid (Below y4.heap.size y4 x4):=J3.out.trans (hbx.mono J3.out.size);clear hbx J3 Gp
      go_wp2_with fail
      refine⟨⟨⟨_,J4.out⟩,rfl⟩,?_⟩;have Fw:=hd_ (FO.out.below J4.out);have cS:=hd_ (Nat.le_trans aB.out J4.out.size);obtain⟨k0,k1,f0,f1⟩:=Ka Fw.out.e0;obtain⟨k2,k3,f2,f3⟩:=Ka Fw.out.e1;have dI:=hd_ (Fw.out.put (loE b (ps.take (k+1)) (l.take (k+1))) (hiE b (ps.take (k+1)) (l.take (k+1))));have cT:Hid (w.heap.size+2≤(Vu x4 w.heap.size (loE b (ps.take (k+1)) (l.take (k+1))) (hiE b (ps.take (k+1)) (l.take (k+1)))).heap.size):=by
       show _≤_
       unfold Vu;rw[World.size_setCell,World.size_setCell,World.size_setCell,World.size_setCell];exact cS.out
      unfold Vu at dI cT;clear Fw J4 cS;refine RP.walkR_move ?_;simp only[Kh,dz_,Kg,tz_]
      go_wp2_with fail
      refine RP.walkR_move ?_;simp only[Kh,dz_,Kg,tz_]
      go_wp2_with fail
      simp only[RP.walkR]
      go_wp2_with fail
      refine⟨⟨k+1,by omega,by go_num,dI,cT⟩,by simp[intOf];omega⟩
    ·simp only[Kh,dz_,Kg,tz_]
     go_wp2_with fail
     obtain⟨gb,Et⟩:∃ x,x=w2.heap.size:=⟨_,rfl⟩;have I3:Hid (Below w2.heap.size w2 (w2.alloc (.cells #[.string ⟨#[]⟩,.string ⟨#[]⟩] 42)).drew):=Qh ((Below.refl _ _).alloc nr_ _) 1;have N3:Hid ((w2.alloc (.cells #[.string ⟨#[]⟩,.string ⟨#[]⟩] 42)).drew.heap[gb]?=some (.cells #[.string ⟨#[]⟩,.string ⟨#[]⟩] 42 (0,0))):=by rw[Et];exact heap_alloc_new w2 _
     have Z3:Hid ((w2.alloc (.cells #[.string ⟨#[]⟩,.string ⟨#[]⟩] 42)).drew.heap.size=w2.heap.size+1):=by show _=_;simp
     rw[← Et];have MT:=hd_ Et;clear Et;generalize (w2.alloc (.cells #[.string ⟨#[]⟩,.string ⟨#[]⟩] 42)).drew=w3 at *
     refine⟨⟨⟨_,I3.out⟩,rfl⟩,?_⟩;refine RP.walkT_move ?_;simp only[Kh,dz_,Kg,tz_]
     go_wp2_with fail
     obtain⟨ga,Ds⟩:∃ x,x=w3.heap.size:=⟨_,rfl⟩;have I4:Hid (Below w2.heap.size w2 (w3.alloc (.cells #[.string ⟨#[]⟩,.string ⟨#[]⟩] 42))):=I3.out.alloc I3.out.size _;have N4:Hid ((w3.alloc (.cells #[.string ⟨#[]⟩,.string ⟨#[]⟩] 42)).heap[gb]?=some (.cells #[.string ⟨#[]⟩,.string ⟨#[]⟩] 42 (0,0))):=by
      show _=_
      rw[((Below.refl _ w3).alloc nr_ _).block gb (Array.getElem?_eq_some_iff.1 N3.out).1];exact N3.out
     have M4:Hid ((w3.alloc (.cells #[.string ⟨#[]⟩,.string ⟨#[]⟩] 42)).heap[ga]?=some (.cells #[.string ⟨#[]⟩,.string ⟨#[]⟩] 42 (0,0))):=by rw[Ds];exact heap_alloc_new w3 _
     have FT:gb≠ga:=by have:=Z3.out;have:=MT.out;omega
     have Ft:w2.heap.size≤gb:=by have:=MT.out;omega
     have DM:w2.heap.size≤ga:=by have:=Z3.out;omega
     rw[← Ds];clear N3 I3 Ds Z3;generalize w3.alloc (.cells #[.string ⟨#[]⟩,.string ⟨#[]⟩] 42)=w4 at *
     have NA:=M4;have NB:=N4;have Eu:=DM;have Es:=Ft;have FL:=hd_ (Ne.symm FT);clear N4 M4 Ft DM FT;refine⟨⟨⟨_,I4.out⟩,rfl⟩,?_⟩;refine RP.walkT_move ?_;simp only[Kh,dz_,Kg,tz_];obtain⟨n0,n1,f0,f1⟩:=Ka NA.out
     go_wp2_with fail
     have I5:=hd_ ((I4.out.setCell (p:=⟨ga,0,none⟩) Eu (.string (itx c.num))).setCell (p:=⟨ga,1,none⟩) Eu (.string (dec c.den)));have js:Hid (Zah ((w4.setCell ⟨ga,0,none⟩ (.string (itx c.num))).setCell ⟨ga,1,none⟩ (.string (dec c.den))) ga c):=Ya NA.out;have ay:Hid (((w4.setCell ⟨ga,0,none⟩ (.string (itx c.num))).setCell ⟨ga,1,none⟩ (.string (dec c.den))).heap[gb]?=some (.cells #[.string ⟨#[]⟩,.string ⟨#[]⟩] 42 (0,0))):=by
      show _=_
      rw[Below.heap_setCell _ _ _ _ (Ne.symm FL.out),Below.heap_setCell _ _ _ _ (Ne.symm FL.out)];exact NB.out
     clear n0 n1 f0 f1 NA NB I4;generalize (w4.setCell ⟨ga,0,none⟩ (.string (itx c.num))).setCell ⟨ga,1,none⟩ (.string (dec c.den))=w5 at *
     refine⟨⟨⟨_,I5.out⟩,rfl⟩,?_⟩;refine RP.walkT_move ?_;simp only[Kh,dz_,Kg,tz_];obtain⟨n0,n1,f0,f1⟩:=Ka ay.out
     go_wp2_with fail
     have I6:=hd_ ((I5.out.setCell (p:=⟨gb,0,none⟩) Es (.string (itx c.num))).setCell (p:=⟨gb,1,none⟩) Es (.string (dec c.den)));have Ae:Hid (Zah ((w5.setCell ⟨gb,0,none⟩ (.string (itx c.num))).setCell ⟨gb,1,none⟩ (.string (dec c.den))) gb c):=Ya ay.out;have Ai:=hd_ (js.out.set FL.out (.string (itx c.num)) (.string (dec c.den)));clear n0 n1 f0 f1 js ay I5;generalize (w5.setCell ⟨gb,0,none⟩ (.string (itx c.num))).setCell ⟨gb,1,none⟩ (.string (dec c.den))=w6 at *
     have Fx:=hd_ (Fc.out.below I6.out);have jw:=hd_ (Aj.out.below I6.out);have Ds:w.heap.size+2≤ga:=by have:=Da.out;omega
     have Et:w.heap.size+2≤gb:=by have:=Da.out;omega
     have Ld:Hid (g8≠ga):=by have:=AO.out;show _≠_;omega
     have Lc:Hid (g8≠gb):=by have:=AO.out;show _≠_;omega
     have aA:=hd_ (Nat.le_trans Da.out I6.out.size);clear Fc Aj I6 Eu Es Da AO;simp only[RP.walkT];have Jq:=ET.out w6 Fx.out.bel;have cp:=Fb.out w6 Fx.out.bel
     by_cases h2:pk=2
     ·have At:(pk != 2)=false:=by rw[h2];rfl
      have GP:Hid (c=c*xE pk b∧Sm (D+355) c):=⟨by rw[h2];unfold xE;rw[if_pos rfl,Rat.mul_one],eD.out.le (by omega)⟩
      have GO:Hid (c=c*yE pk b∧Sm (D+355) c):=⟨by rw[h2];unfold yE;rw[if_pos rfl,Rat.mul_one],eD.out.le (by omega)⟩
      clear eh;obtain⟨k0,k1,-,-⟩:=Ka Fx.out.e0;obtain⟨k2,k3,-,-⟩:=Ka Fx.out.e1;obtain⟨k4,k5,-,-⟩:=Ka Ai.out;obtain⟨k6,k7,-,-⟩:=Ka Ae.out;have q0:=NW.cell k0;have q1:=NW.cell k1;have q2:=NW.cell k2;have q3:=NW.cell k3;have q4:=NW.cell k4;have q5:=NW.cell k5;have q6:=NW.cell k6;have q7:=NW.cell k7;have gk:Nonempty (NW w6):=⟨⟨w6,Below.refl _ _⟩⟩;have I:Hid (Below w6.heap.size w6 w6.drew):=(Below.refl _ _).drew;have fJ:=hd_ (fun X (hX:Below w6.heap.size w6 X)=>HL.out.below (Fx.out.bel.trans (hX.mono Fx.out.bel.size)))
      have eR:=hd_ (fun X hX=>Zgr X c c (D+355) (D+355) GP.out.2 GO.out.2 (by omega) (fJ.out X hX))
      have f':=hd_ (fun X hX=>Zgs X c c (D+355) (D+355) GP.out.2 GO.out.2 (by omega) (fJ.out X hX))
      have Gl:=hd_ (fun X hX=>Zrs X _ _ _ _ F3.out.1 (Zeq GP.out.2 GO.out.2) (by omega) (fJ.out X hX))
      have Gp:=hd_ (fun X hX=>Zrs X _ _ _ _ F3.out.2 (Zer GP.out.2 GO.out.2) (by omega) (fJ.out X hX))
      have Fz:loE b (ps.take k) (l.take k)+Zhr c c=loE b (ps.take (k+1)) (l.take (k+1)):=by first | (rw[Gu.out.1];done) | (rw[Gu.out.1,← GP.out.1,← GO.out.1];done)
      have Fy:hiE b (ps.take k) (l.take k)+Zhs c c=hiE b (ps.take (k+1)) (l.take (k+1)):=by first | (rw[Gu.out.2];done) | (rw[Gu.out.2,← GP.out.1,← GO.out.1];done)
      rw[Fz] at Gl;rw[Fy] at Gp;clear Fz Fy fJ;unfold fr fv at eR f' Gl Gp
      go_wp2_with fail
      clear k0 k1 k2 k3 k4 k5 k6 k7;refine RP.wp_region_readers 10 [(1,0),(1,1),(1,2),(1,5),(1,6),(1,7),(0,3),(0,4),(0,8),(0,9),(0,10),(0,11)] (fun w'=>∃ p:NW w6,w'=p.w) (by kernel_rfl) (by kernel_rfl) ?_ ?_
      ·exact⟨⟨_,I.out⟩,rfl⟩
      iterate 6 (refine RP.walkR_read ?_;simp only[Kh,dz_,Kg,tz_];go_big_quiet_step (fail);refine wpQuiet_nil ?_)
      clear q0 q1 q2 q3 q4 q5 q6 q7 gk;refine RP.walkR_move ?_;simp only[Kh,dz_,Kg,tz_]
      go_wp2_with fail
      refine cm_ (eR.out _ I.out) ?_;rintro e x1 ⟨rfl,hbx⟩;have J1:Hid (Below w6.heap.size w6 x1):=I.out.trans (hbx.mono I.out.size);clear hbx I eR
      go_wp2_with fail
      refine⟨⟨⟨_,J1.out⟩,rfl⟩,?_⟩;refine RP.walkR_move ?_;simp only[Kh,dz_,Kg,tz_]
      go_wp2_with fail
      refine cm_ (Gl.out _ J1.out) ?_;rintro e x2 ⟨rfl,hbx⟩;have J2:Hid (Below w6.heap.size w6 x2):=J1.out.trans (hbx.mono J1.out.size);clear hbx J1 Gl
      go_wp2_with fail
      refine⟨⟨⟨_,J2.out⟩,rfl⟩,?_⟩;refine RP.walkR_move ?_;simp only[Kh,dz_,Kg,tz_]
      go_wp2_with fail
      refine cm_ (f'.out _ J2.out) ?_;rintro e x3 ⟨rfl,hbx⟩;have J3:Hid (Below w6.heap.size w6 x3):=J2.out.trans (hbx.mono J2.out.size);clear hbx J2 f'
      go_wp2_with fail
      refine⟨⟨⟨_,J3.out⟩,rfl⟩,?_⟩;refine RP.walkR_move ?_;simp only[Kh,dz_,Kg,tz_]
      go_wp2_with fail
      refine cm_ (Gp.out _ J3.out) ?_;rintro e x4 ⟨rfl,hbx⟩;have J4:Hid (Below w6.heap.size w6 x4):=J3.out.trans (hbx.mono J3.out.size);clear hbx J3 Gp
      go_wp2_with fail
      refine⟨⟨⟨_,J4.out⟩,rfl⟩,?_⟩;have Fw:=hd_ (Fx.out.below J4.out);have cS:=hd_ (Nat.le_trans aA.out J4.out.size);obtain⟨k0,k1,f0,f1⟩:=Ka Fw.out.e0;obtain⟨k2,k3,f2,f3⟩:=Ka Fw.out.e1;have dI:=hd_ (Fw.out.put (loE b (ps.take (k+1)) (l.take (k+1))) (hiE b (ps.take (k+1)) (l.take (k+1))));have cT:Hid (w.heap.size+2≤(Vu x4 w.heap.size (loE b (ps.take (k+1)) (l.take (k+1))) (hiE b (ps.take (k+1)) (l.take (k+1)))).heap.size):=by
       show _≤_
       unfold Vu;rw[World.size_setCell,World.size_setCell,World.size_setCell,World.size_setCell];exact cS.out
      unfold Vu at dI cT;clear Fw J4 cS;refine RP.walkR_move ?_;simp only[Kh,dz_,Kg,tz_]
      go_wp2_with fail
      refine RP.walkR_move ?_;simp only[Kh,dz_,Kg,tz_]
      go_wp2_with fail
      simp only[RP.walkR]
      go_wp2_with fail
      refine⟨⟨k+1,by omega,by go_num,dI,cT⟩,by simp[intOf];omega⟩
     ·have At:(pk != 2)=true:=by rw[bne_iff_ne];exact h2
      have ow:(pk==2)=false:=by rw[beq_eq_false_iff_ne];exact h2
      have GP:Hid (c*xE pk b=c*xE pk b∧Sm (D+355) (c*xE pk b)):=⟨rfl,eD.out.mul ES.out.1⟩;have GO:Hid (c*yE pk b=c*yE pk b∧Sm (D+355) (c*yE pk b)):=⟨rfl,eD.out.mul ES.out.2⟩;have EQ:lgN pk b+2<2^K10∧2^b+1<2^K10:=by
       rw[Hq.out];exact Zyc lU.out Cw.out
      have G2:=hd_ (fun W (hW:Below w.heap.size w W)=>Qb7 W (lgN pk b) (2^b) (by omega) EQ.2 (Nat.two_pow_pos b) (HL.out.below hW))
      have dF:=hd_ (fun W (hW:Below w.heap.size w W)=>Qb7 W (lgN pk b+1) (2^b) (by omega) EQ.2 (Nat.two_pow_pos b) (HL.out.below hW))
      have ee:=hd_ (fun W (hW:Below w.heap.size w W)=>Zxp W (lgN pk b) 1 K10 (by decide) (by omega) (Nat.one_lt_two_pow (by decide)) (HL.out.below hW))
      rw[Vg] at ee;have AV:mkRat ((lgN pk b:Nat):Int) (2^b)=xE pk b:=by unfold xE;rw[if_neg h2]
      have AS:mkRat ((lgN pk b+1:Nat):Int) (2^b)=yE pk b:=by unfold yE;rw[if_neg h2]
      rw[AV] at G2;rw[AS] at dF;have E8:=hd_ (fun W (hW:Below w.heap.size w W)=>Zu9 W c (xE pk b) D 355 eD.out ES.out.1 (by omega) (HL.out.below hW))
      have E7:=hd_ (fun W (hW:Below w.heap.size w W)=>Zu9 W c (yE pk b) D 355 eD.out ES.out.2 (by omega) (HL.out.below hW))
      clear EQ AV AS h2;unfold fr fv at G2 dF E8 E7
      go_wp2_with fail
      refine cm_ (eh.out _ Fx.out.bel) ?_;rintro e w7 ⟨rfl,hbx⟩;have bb:=hd_ (Fx.out.below hbx);have BH:=hd_ (Ai.out.below hbx);have jr:=hd_ (Ae.out.below hbx);have jv:=hd_ (jw.out.below hbx);have az:=hd_ (Nat.le_trans aA.out hbx.size);clear hbx eh Fx Ai Ae jw aA Jq cp
      go_wp2_with fail
      refine cm_ (G2.out _ bb.out.bel) ?_;rintro e w8 ⟨rfl,hbx⟩;have Gd:=hd_ (hbx.alloc hbx.size (.cells #[.string (itx (xE pk b).num),.string (dec (xE pk b).den)] 42));have DH:=hd_ (bb.out.below Gd.out);have Ah:=hd_ (BH.out.below Gd.out);have Ad:=hd_ (jr.out.below Gd.out);have ju:=hd_ (jv.out.below Gd.out);have cU:=hd_ (Nat.le_trans az.out Gd.out.size);have FX:=hd_ (Zah.new w8 (xE pk b));have iv:=hd_ (Nat.le_trans az.out hbx.size);clear hbx Gd bb BH jr jv az G2
      go_wp2_with fail
      generalize w8.alloc (.cells #[.string (itx (xE pk b).num),.string (dec (xE pk b).den)] 42)=w9 at *
      generalize w8.heap.size=gx at *
      refine cm_ (ee.out _ DH.out.bel) ?_;rintro e w10 ⟨rfl,hbx⟩;have dl:=hd_ (DH.out.below hbx);have CM:=hd_ (Ah.out.below hbx);have CK:=hd_ (Ad.out.below hbx);have CO:=hd_ (ju.out.below hbx);have CI:=hd_ (FX.out.below hbx);have cW:=hd_ (Nat.le_trans cU.out hbx.size);clear hbx DH Ah Ad ju FX cU ee
      go_wp2_with fail
      refine cm_ (dF.out _ dl.out.bel) ?_;rintro e w11 ⟨rfl,hbx⟩;have Gd:=hd_ (hbx.alloc hbx.size (.cells #[.string (itx (yE pk b).num),.string (dec (yE pk b).den)] 42));have Fd:=hd_ (dl.out.below Gd.out);have CL:=hd_ (CM.out.below Gd.out);have CJ:=hd_ (CK.out.below Gd.out);have CN:=hd_ (CO.out.below Gd.out);have CH:=hd_ (CI.out.below Gd.out);have CG:=hd_ (Zah.new w11 (yE pk b));have cV:=hd_ (Nat.le_trans cW.out Gd.out.size);obtain⟨k0,k1,-,-⟩:=Ka CN.out;obtain⟨k2,k3,-,-⟩:=Ka CH.out;obtain⟨k4,k5,-,-⟩:=Ka CG.out;have q0:=NW.cell k0;have q1:=NW.cell k1;have q2:=NW.cell k2;have q3:=NW.cell k3;have q4:=NW.cell k4;have q5:=NW.cell k5;clear hbx Gd dl CM CK CO CI cW dF k0 k1 k2 k3 k4 k5
      go_wp2_with fail
      generalize w11.alloc (.cells #[.string (itx (yE pk b).num),.string (dec (yE pk b).den)] 42)=w12 at *
      generalize w11.heap.size=gy at *
      have gk:Nonempty (NW w12):=⟨⟨w12,Below.refl _ _⟩⟩;have I:Hid (Below w12.heap.size w12 w12.drew):=(Below.refl _ _).drew;refine RP.wp_region_readers 6 [(1,0),(1,1),(1,3),(1,4),(0,2),(0,5),(0,6),(0,7)] (fun w'=>∃ p:NW w12,w'=p.w) (by kernel_rfl) (by kernel_rfl) ?_ ?_
      ·exact⟨⟨_,I.out⟩,rfl⟩
      iterate 4 (refine RP.walkR_read ?_;simp only[Kh,dz_,Kg,tz_];go_big_quiet_step (fail);refine wpQuiet_nil ?_)
      clear gk q0 q1 q2 q3 q4 q5;refine RP.walkR_move ?_;simp only[Kh,dz_,Kg,tz_]
      go_wp2_with fail
      refine cm_ (E8.out _ (Fd.out.bel.trans (I.out.mono Fd.out.bel.size))) ?_;rintro e y1 ⟨rfl,hbx⟩;have J1:Hid (Below w12.heap.size w12 y1):=I.out.trans (hbx.mono I.out.size);clear hbx I E8
      go_wp2_with fail
      refine⟨⟨⟨_,J1.out⟩,rfl⟩,?_⟩;refine RP.walkR_move ?_;simp only[Kh,dz_,Kg,tz_]
      go_wp2_with fail
      refine cm_ (E7.out _ (Fd.out.bel.trans (J1.out.mono Fd.out.bel.size))) ?_;rintro e y2 ⟨rfl,hbx⟩;have J2:Hid (Below w12.heap.size w12 y2):=J1.out.trans (hbx.mono J1.out.size);clear hbx J1 E7
      go_wp2_with fail
      refine⟨⟨⟨_,J2.out⟩,rfl⟩,?_⟩;have jl:=hd_ (Fd.out.below J2.out);have Ag:=hd_ (CL.out.below J2.out);have jq:=hd_ (CJ.out.below J2.out);have If:=hd_ (Nat.le_trans cV.out J2.out.size);obtain⟨k0,k1,f0,f1⟩:=Ka Ag.out;have jt:=hd_ (Ag.out.put (c*xE pk b));have Af:=hd_ (jq.out.set (Ne.symm FL.out) (.string (itx (c*xE pk b).num)) (.string (dec (c*xE pk b).den)));have CD:=hd_ (jl.out.set Ds (.string (itx (c*xE pk b).num)) (.string (dec (c*xE pk b).den)));have Ig:Hid (w.heap.size+2≤((y2.setCell ⟨ga,0,none⟩ (.string (itx (c*xE pk b).num))).setCell ⟨ga,1,none⟩ (.string (dec (c*xE pk b).den))).heap.size):=by
       show _≤_
       rw[World.size_setCell,World.size_setCell];exact If.out
      clear Fd CL CJ CN CH CG cV J2 jl Ag jq If;refine RP.walkR_move ?_;simp only[Kh,dz_,Kg,tz_]
      go_wp2_with fail
      generalize (y2.setCell ⟨ga,0,none⟩ (.string (itx (c*xE pk b).num))).setCell ⟨ga,1,none⟩ (.string (dec (c*xE pk b).den))=y3 at *
      clear k0 k1 f0 f1;obtain⟨k0,k1,f0,f1⟩:=Ka Af.out;have LY:=hd_ (jt.out.set FL.out (.string (itx (c*yE pk b).num)) (.string (dec (c*yE pk b).den)));have LX:=hd_ (Af.out.put (c*yE pk b));have FO:=hd_ (CD.out.set Et (.string (itx (c*yE pk b).num)) (.string (dec (c*yE pk b).den)));have aB:Hid (w.heap.size+2≤((y3.setCell ⟨gb,0,none⟩ (.string (itx (c*yE pk b).num))).setCell ⟨gb,1,none⟩ (.string (dec (c*yE pk b).den))).heap.size):=by
       show _≤_
       rw[World.size_setCell,World.size_setCell];exact Ig.out
      clear jt Af CD Ig;refine RP.walkR_move ?_;simp only[Kh,dz_,Kg,tz_]
      go_wp2_with fail
      generalize (y3.setCell ⟨gb,0,none⟩ (.string (itx (c*yE pk b).num))).setCell ⟨gb,1,none⟩ (.string (dec (c*yE pk b).den))=y4 at *
      clear k0 k1 f0 f1;simp only[RP.walkR];generalize hXc:c*xE pk b=vx at *
      generalize hYc:c*yE pk b=vy at *
      have GP:=hd_ (show c*xE pk b=vx∧Sm (D+355) vx from ⟨hXc,GP.out.2⟩)
      have GO:=hd_ (show c*yE pk b=vy∧Sm (D+355) vy from ⟨hYc,GO.out.2⟩)
      clear hXc hYc;obtain⟨k0,k1,-,-⟩:=Ka FO.out.e0;obtain⟨k2,k3,-,-⟩:=Ka FO.out.e1;obtain⟨k4,k5,-,-⟩:=Ka LY.out;obtain⟨k6,k7,-,-⟩:=Ka LX.out;have q0:=NW.cell k0;have q1:=NW.cell k1;have q2:=NW.cell k2;have q3:=NW.cell k3;have q4:=NW.cell k4;have q5:=NW.cell k5;have q6:=NW.cell k6;have q7:=NW.cell k7;have gk:Nonempty (NW y4):=⟨⟨y4,Below.refl _ _⟩⟩;have I:Hid (Below y4.heap.size y4 y4.drew):=(Below.refl _ _).drew;have fJ:=hd_ (fun X (hX:Below y4.heap.size y4 X)=>HL.out.below (FO.out.bel.trans (hX.mono FO.out.bel.size)))
      have eR:=hd_ (fun X hX=>Zgr X vx vy (D+355) (D+355) GP.out.2 GO.out.2 (by omega) (fJ.out X hX))
      have f':=hd_ (fun X hX=>Zgs X vx vy (D+355) (D+355) GP.out.2 GO.out.2 (by omega) (fJ.out X hX))
      have Gl:=hd_ (fun X hX=>Zrs X _ _ _ _ F3.out.1 (Zeq GP.out.2 GO.out.2) (by omega) (fJ.out X hX))
      have Gp:=hd_ (fun X hX=>Zrs X _ _ _ _ F3.out.2 (Zer GP.out.2 GO.out.2) (by omega) (fJ.out X hX))
      have Fz:loE b (ps.take k) (l.take k)+Zhr vx vy=loE b (ps.take (k+1)) (l.take (k+1)):=by first | (rw[Gu.out.1];done) | (rw[Gu.out.1,← GP.out.1,← GO.out.1];done)
      have Fy:hiE b (ps.take k) (l.take k)+Zhs vx vy=hiE b (ps.take (k+1)) (l.take (k+1)):=by first | (rw[Gu.out.2];done) | (rw[Gu.out.2,← GP.out.1,← GO.out.1];done)
      rw[Fz] at Gl;rw[Fy] at Gp;clear Fz Fy fJ;unfold fr fv at eR f' Gl Gp
      go_wp2_with fail
      clear k0 k1 k2 k3 k4 k5 k6 k7;refine RP.wp_region_readers 10 [(1,0),(1,1),(1,2),(1,5),(1,6),(1,7),(0,3),(0,4),(0,8),(0,9),(0,10),(0,11)] (fun w'=>∃ p:NW y4,w'=p.w) (by kernel_rfl) (by kernel_rfl) ?_ ?_
      ·exact⟨⟨_,I.out⟩,rfl⟩
      iterate 6 (refine RP.walkR_read ?_;simp only[Kh,dz_,Kg,tz_];go_big_quiet_step (fail);refine wpQuiet_nil ?_)
      clear q0 q1 q2 q3 q4 q5 q6 q7 gk;refine RP.walkR_move ?_;simp only[Kh,dz_,Kg,tz_]
      go_wp2_with fail
      refine cm_ (eR.out _ I.out) ?_;rintro e x1 ⟨rfl,hbx⟩;have J1:Hid (Below y4.heap.size y4 x1):=I.out.trans (hbx.mono I.out.size);clear hbx I eR
      go_wp2_with fail
      refine⟨⟨⟨_,J1.out⟩,rfl⟩,?_⟩;refine RP.walkR_move ?_;simp only[Kh,dz_,Kg,tz_]
      go_wp2_with fail
      refine cm_ (Gl.out _ J1.out) ?_;rintro e x2 ⟨rfl,hbx⟩;have J2:Hid (Below y4.heap.size y4 x2):=J1.out.trans (hbx.mono J1.out.size);clear hbx J1 Gl
      go_wp2_with fail
      refine⟨⟨⟨_,J2.out⟩,rfl⟩,?_⟩;refine RP.walkR_move ?_;simp only[Kh,dz_,Kg,tz_]
      go_wp2_with fail
      refine cm_ (f'.out _ J2.out) ?_;rintro e x3 ⟨rfl,hbx⟩;have J3:Hid (Below y4.heap.size y4 x3):=J2.out.trans (hbx.mono J2.out.size);clear hbx J2 f'
      go_wp2_with fail
      refine⟨⟨⟨_,J3.out⟩,rfl⟩,?_⟩;refine RP.walkR_move ?_;simp only[Kh,dz_,Kg,tz_]
      go_wp2_with fail
      refine cm_ (Gp.out _ J3.out) ?_;rintro e x4 ⟨rfl,hbx⟩;have J4:Hid (Below y4.heap.size y4 x4):=J3.out.trans (hbx.mono J3.out.size);clear hbx J3 Gp
      go_wp2_with fail
      refine⟨⟨⟨_,J4.out⟩,rfl⟩,?_⟩;have Fw:=hd_ (FO.out.below J4.out);have cS:=hd_ (Nat.le_trans aB.out J4.out.size);obtain⟨k0,k1,f0,f1⟩:=Ka Fw.out.e0;obtain⟨k2,k3,f2,f3⟩:=Ka Fw.out.e1;have dI:=hd_ (Fw.out.put (loE b (ps.take (k+1)) (l.take (k+1))) (hiE b (ps.take (k+1)) (l.take (k+1))));have cT:Hid (w.heap.size+2≤(Vu x4 w.heap.size (loE b (ps.take (k+1)) (l.take (k+1))) (hiE b (ps.take (k+1)) (l.take (k+1)))).heap.size):=by
       show _≤_
       unfold Vu;rw[World.size_setCell,World.size_setCell,World.size_setCell,World.size_setCell];exact cS.out
      unfold Vu at dI cT;clear Fw J4 cS;refine RP.walkR_move ?_;simp only[Kh,dz_,Kg,tz_]
      go_wp2_with fail
      refine RP.walkR_move ?_;simp only[Kh,dz_,Kg,tz_]
      go_wp2_with fail
      simp only[RP.walkR]
      go_wp2_with fail
      refine⟨⟨k+1,by omega,by go_num,dI,cT⟩,by simp[intOf];omega⟩
  ·obtain rfl:k=n:=by omega
   have gm:¬ (k:Int)<k:=by omega
   have ek:=Hv.out trivial;rw[← ek.1,← ek.2] at HE;have Fp:=hd_ ek;clear ek Hv;have Ec:∀ p:EnW w vlo vhi,p.w.cell? ⟨w.heap.size,0,none⟩=some (.string (itx vlo.num)):=fun p=>p.cells.1
   have cm:∀ p:EnW w vlo vhi,p.w.cell? ⟨w.heap.size,1,none⟩=some (.string (dec vlo.den)):=fun p=>p.cells.2.1
   have ck:∀ p:EnW w vlo vhi,p.w.cell? ⟨w.heap.size+1,0,none⟩=some (.string (itx vhi.num)):=fun p=>p.cells.2.2.1
   have cg:∀ p:EnW w vlo vhi,p.w.cell? ⟨w.heap.size+1,1,none⟩=some (.string (dec vhi.den)):=fun p=>p.cells.2.2.2
   have gk:Nonempty (EnW w vlo vhi):=⟨⟨_,HE.out⟩⟩;have a8:=hd_ (HE.out.below (Qg wr 1))
   go_wp2_with fail
   refine RP.wp_region_readers 3 [(1,0),(1,1),(0,2),(0,3)] (fun w'=>∃ p:EnW w vlo vhi,w'=p.w) (by kernel_rfl) (by kernel_rfl) ?_ ?_
   ·exact⟨⟨_,a8.out⟩,rfl⟩
   iterate 2 (refine RP.walkR_read ?_;simp only[Kh,dz_,Kg,tz_];go_big_quiet_step (fail);refine wpQuiet_nil ?_)
   clear gk Ec cm ck cg;obtain⟨k0,k1,f0,f1⟩:=Ka HE.out.e0;have Eh:=hd_ (a8.out.put0 vlo);refine RP.walkR_move ?_;simp only[Kh,dz_,Kg,tz_]
   go_wp2_with fail
   refine⟨⟨⟨_,Eh.out⟩,rfl⟩,?_⟩;have Fc:Hid (EnI w ((wr.setCell ⟨w.heap.size,0,none⟩ (.string (itx vlo.num))).setCell ⟨w.heap.size,1,none⟩ (.string (dec vlo.den))).drew vlo vhi):=Eh.out;clear k0 k1 f0 f1 Eh a8 HE;generalize ((wr.setCell ⟨w.heap.size,0,none⟩ (.string (itx vlo.num))).setCell ⟨w.heap.size,1,none⟩ (.string (dec vlo.den))).drew=wz at *
   obtain⟨k2,k3,f2,f3⟩:=Ka Fc.out.e1;have DI:=hd_ (Fc.out.put1 vhi);refine RP.walkR_move ?_;simp only[Kh,dz_,Kg,tz_]
   go_wp2_with fail
   simp only[RP.walkR];generalize (wz.setCell ⟨w.heap.size+1,0,none⟩ (.string (itx vhi.num))).setCell ⟨w.heap.size+1,1,none⟩ (.string (dec vhi.den))=w9 at *
   clear k2 k3 f2 f3 Fc;obtain⟨c0',c1',-,-⟩:=Ka DI.out.e0;obtain⟨c2',c3',-,-⟩:=Ka DI.out.e1
   go_wp2_with fail
   exact bodyPost_ret (v := .tuple #[.agg #[.string (itx vlo.num),.string (dec vlo.den)],.agg #[.string (itx vhi.num),.string (dec vhi.den)]]) (by simp[results,Tryz.results80,go_sem,c0',c1',c2',c3']) rfl ⟨rfl,DI.out.bel⟩
structure Zu3 (w:World) (V:List Value) (ls:List (List Int)):Prop where
 len:V.length=ls.length
 at_:∀ i,i<ls.length→∃ a' c',V[i]?=some (.slice a' (ls.getD i []).length c')∧Rd w a' (Qt (ls.getD i []))
theorem Zu3.below{w w':World}{V:List Value}{ls:List (List Int)}{B:Nat}(h:Zu3 w V ls)(hb:Below B w w')(hB:w.heap.size≤B):Zu3 w' V ls :=
 ⟨h.len,fun i hi=>by obtain⟨a',c',h1,h2⟩:=h.at_ i hi;exact⟨a',c',h1,h2.below hb hB⟩⟩
theorem Zu3.nil(w:World):Zu3 w [] []:=⟨rfl,fun i hi=>absurd hi (Nat.not_lt_zero i)⟩
theorem Zu3.append{w:World}{V V':List Value}{ls ls':List (List Int)}(h:Zu3 w V ls)(k:Zu3 w V' ls'):Zu3 w (V++V') (ls++ls'):=by
 refine⟨by simp[h.len,k.len],fun i hi=>?_⟩
 by_cases bX:i<ls.length
 ·obtain⟨a',c',h1,h2⟩:=h.at_ i bX;have e:(ls++ls').getD i []=ls.getD i []:=by rw[List.getD_eq_getElem?_getD,List.getD_eq_getElem?_getD,List.getElem?_append_left bX]
  rw[e];exact⟨a',c',by rw[List.getElem?_append_left (by rw[h.len];exact bX)];exact h1,h2⟩
 ·rw[List.length_append] at hi;obtain⟨a',c',h1,h2⟩:=k.at_ (i-ls.length) (by omega)
  have e:(ls++ls').getD i []=ls'.getD (i-ls.length) []:=by rw[List.getD_eq_getElem?_getD,List.getD_eq_getElem?_getD,List.getElem?_append_right (by omega)]
  rw[e];exact⟨a',c',by rw[List.getElem?_append_right (by rw[h.len];omega),h.len];exact h1,h2⟩
theorem Zu3.one{w:World}{V:List Value}{ls:List (List Int)}(h:Zu3 w V ls):∀ u∈V,u.oneCell'=true:=fun u hu=>by
 obtain⟨i,hi,rfl⟩:=List.mem_iff_getElem.1 hu;obtain⟨a',c',h1,_⟩:=h.at_ i (by rw[← h.len];exact hi)
 rw[List.getElem?_eq_getElem hi] at h1;rw[Option.some.inj h1];rfl
def Qc9 (w:World) (n:Nat) (l:List Int) (e:Ending):Prop:=(mx l=0∧∃ a c,e = .returned (.tuple #[.slice a n c,.int .i64 0])∧Rd w a (Qt l))∨(mx l≠0∧e = .returned (.tuple #[.slice none 0 0,.int .i64 4]))
theorem Qc9.form{w:World}{n:Nat}{l:List Int}{e:Ending}(h:Qc9 w n l e):∃ v1 v2,e = .returned (.tuple #[v1,v2]):=by
 rcases h with⟨_,a,c,h,_⟩|⟨_,h⟩
 ·exact⟨_,_,h⟩
 ·exact⟨_,_,h⟩
def Ok (c:Nat→Nat→Int) (u v:Nat):Prop:=0≤c v u∧(c v u=0→u<v)
structure Srt (c:Nat→Nat→Int) (n i:Nat) (F:Nat→Nat):Prop where
 lt:∀ k,k<n→F k<n
 inj:∀ k m,k<n→m<n→F k=F m→k=m
 hi:∀ k,i≤k→k<n→F k=k
 lo:∀ k,k<i→F k<i
 adj:∀ k,k+1<i→Ok c (F k) (F (k+1))
structure Ins (c:Nat→Nat→Int) (n i j:Nat) (F:Nat→Nat):Prop where
 lt:∀ k,k<n→F k<n
 inj:∀ k m,k<n→m<n→F k=F m→k=m
 x:F j=i
 hi:∀ k,i<k→k<n→F k=k
 lo:∀ k,k≤i→F k≤i
 a1:∀ k,k+1<j→Ok c (F k) (F (k+1))
 a2:∀ k,j<k→k+1≤i→Ok c (F k) (F (k+1))
 a3:∀ k,k+1=j→j<i→Ok c (F k) (F (j+1))
 a4:j<i→Ok c i (F (j+1))
 ji:j≤i
 n:i<n
theorem Srt.first(c:Nat→Nat→Int)(n:Nat):Srt c n 1 fun k=>k :=
 ⟨fun _ h=>h,fun _ _ _ _ h=>h,fun _ _ _=>rfl,fun _ h=>h,fun _ h=>by omega⟩
theorem Ins.stop{c:Nat→Nat→Int}{n i j:Nat}{F:Nat→Nat}(h:Ins c n i j F)(hs:j=0∨0≤c (F j) (F (j-1))):Srt c n (i+1) F:=by
 refine⟨h.lt,h.inj,fun k h1 h2=>h.hi k (by omega) h2,fun k hk=>Nat.lt_succ_of_le (h.lo k (by omega)),fun k hk=>?_⟩
 have G7:=h.ji;have hn:=h.n;rcases Nat.lt_trichotomy (k+1) j with h1|h1|h1
 ·exact h.a1 k h1
 ·rcases hs with h0 | h0
  ·omega
  ·have e:j-1=k:=by omega
   rw[e] at h0;rw[h1];refine⟨h0,fun _=>?_⟩
   have hx:=h.x;have h2:=h.lo k (by omega)
   have h3:F k≠F j:=fun e=>by have:=h.inj k j (by omega) (by omega) e;omega
   omega
 ·rcases Nat.lt_or_ge j k with h2 | h2
  ·exact h.a2 k h2 (by omega)
  ·have e:k=j:=by omega
   subst e;rw[h.x];exact h.a4 (by omega)
def swF (F:Nat→Nat) (j:Nat):Nat→Nat:=fun k=>if k=j then F (j+1) else if k=j+1 then F j else F k
theorem Ins.swap{c:Nat→Nat→Int}(hc:∀ u v,c v u = - c u v){n i j:Nat}{F:Nat→Nat}(h:Ins c n i (j+1) F)(hs:c (F (j+1)) (F j)<0):Ins c n i j (swF F j):=by
 have G7:=h.ji;have hn:=h.n;have hx:=h.x;have s1:swF F j j=i:=by unfold swF;rw[if_pos rfl];exact hx
 have s2:swF F j (j+1)=F j:=by unfold swF;rw[if_neg (by omega),if_pos rfl]
 have s3:∀ k,k≠j→k≠j+1→swF F j k=F k:=fun k h1 h2=>by unfold swF;rw[if_neg h1,if_neg h2]
 refine⟨fun k hk=>?_,fun k m hk hm e=>?_,s1,fun k h1 h2=>?_,fun k hk=>?_,fun k hk=>?_,fun k h1 h2=>?_,fun k h1 h2=>?_,fun h1=>?_,by omega,hn⟩
 ·unfold swF;split
  ·exact h.lt _ (by omega)
  ·split
   ·exact h.lt _ (by omega)
   ·exact h.lt _ hk
 ·unfold swF at e
  by_cases k1:k=j
  ·by_cases m1:m=j
   ·omega
   ·rw[if_pos k1,if_neg m1] at e
    by_cases m2:m=j+1
    ·rw[if_pos m2] at e;have:=h.inj _ _ (by omega) (by omega) e
     omega
    ·rw[if_neg m2] at e;have:=h.inj _ _ (by omega) hm e
     omega
  ·rw[if_neg k1] at e
   by_cases k2:k=j+1
   ·rw[if_pos k2] at e
    by_cases m1:m=j
    ·rw[if_pos m1] at e;have:=h.inj _ _ (by omega) (by omega) e
     omega
    ·rw[if_neg m1] at e
     by_cases m2:m=j+1
     ·omega
     ·rw[if_neg m2] at e;have:=h.inj _ _ (by omega) hm e
      omega
   ·rw[if_neg k2] at e
    by_cases m1:m=j
    ·rw[if_pos m1] at e;have:=h.inj _ _ hk (by omega) e
     omega
    ·rw[if_neg m1] at e
     by_cases m2:m=j+1
     ·rw[if_pos m2] at e;have:=h.inj _ _ hk (by omega) e
      omega
     ·rw[if_neg m2] at e;exact h.inj _ _ hk hm e
 ·rw[s3 k (by omega) (by omega)];exact h.hi k h1 h2
 ·unfold swF;split
  ·omega
  ·split
   ·exact h.lo _ (by omega)
   ·exact h.lo _ hk
 ·rw[s3 k (by omega) (by omega),s3 (k+1) (by omega) (by omega)]
  exact h.a1 k (by omega)
 ·rcases Nat.lt_or_ge (j+1) k with h3 | h3
  ·rw[s3 k (by omega) (by omega),s3 (k+1) (by omega) (by omega)]
   exact h.a2 k h3 h2
  ·have e:k=j+1:=by omega
   subst e;rw[s2,s3 (j+1+1) (by omega) (by omega)]
   exact h.a3 j rfl (by omega)
 ·subst h1;rw[s3 k (by omega) (by omega),s2]
  exact h.a1 k (by omega)
 ·rw[s2,← hx];have e:=hc (F (j+1)) (F j);exact⟨by omega,fun h0=>by omega⟩
structure Zyo (W:World) (g n:Nat) (F:Nat→Nat):Prop where
 lt:g<W.heap.size
 cell:∀ k,k<n→W.cell? ⟨g,k,none⟩=some (.int .i64 (F k:Nat))
 fr:∀ k,W.frozen? ⟨g,k,none⟩=false
theorem Zyo.below{W W':World}{g n D:Nat}{F:Nat→Nat}(h:Zyo W g n F)(hb:Below D W W')(hD:W.heap.size≤D):Zyo W' g n F:=by
 have H9:=h.lt;have e:=hb.block g (by omega)
 have hs:=hb.size;refine⟨?_,fun k hk=>?_,fun k=>?_⟩
 ·have h2:=Array.getElem?_eq_some_iff.1 (show W.heap[g]?=some W.heap[g] from Array.getElem?_eq_getElem H9)
  rw[Array.getElem?_eq_getElem H9] at e;exact(Array.getElem?_eq_some_iff.1 e).1
 ·rw[hb.cell (p:=⟨g,k,none⟩) (show g<D by omega)]
  exact h.cell k hk
 ·have:=h.fr k
  unfold World.frozen? at this ⊢;rw[show W'.heap[(⟨g,k,none⟩:Addr).block]?=W.heap[(⟨g,k,none⟩:Addr).block]? from e]
  exact this
theorem Zyo.swap{W:World}{g n:Nat}{F:Nat→Nat}(h:Zyo W g n F)(j:Nat)(hj:j+1<n):
  Zyo ((W.setCell ⟨g,j+1,none⟩ (.int .i64 (F j:Nat))).setCell ⟨g,j,none⟩ (.int .i64 (F (j+1):Nat))) g n (swF F j):=by
 have h0:=h.cell j (by omega)
 have h1:=h.cell (j+1) hj;have ne:∀ a b:Nat,a≠b→(⟨g,a,none⟩:Addr)≠⟨g,b,none⟩:=fun a b FT e=>by cases e;exact FT rfl
 refine⟨by simpa using h.lt,fun k hk=>?_,fun k=>?_⟩
 ·unfold swF
  by_cases k1:k=j
  ·subst k1;rw[if_pos rfl];exact World.cell?_setCell_same _ _ _ (u := .int .i64 (F k:Nat)) (by rw[World.cell?_setCell_other _ _ _ _ (ne _ _ (by omega))];exact h0)
  ·rw[if_neg k1,World.cell?_setCell_other _ _ _ _ (ne _ _ (fun e=>k1 e.symm))]
   by_cases k2:k=j+1
   ·subst k2;rw[if_pos rfl];exact World.cell?_setCell_same _ _ _ h1
   ·rw[if_neg k2,World.cell?_setCell_other _ _ _ _ (ne _ _ (fun e=>k2 e.symm))]
    exact h.cell k hk
 ·have:=h.fr k
  simpa using this
structure Zu2 (W:World) (ps:List Int) (g2 g3:Nat) (a0 al:Option Addr) (c0 cl:Nat) (LL:List (List Rat)):Prop where
 h2:W.heap[g2]?=some (.cells #[.slice a0 ps.length c0] 36 (0,0))
 h3:W.heap[g3]?=some (.cells #[.slice al LL.length cl] 68 (0,0))
 rp:Rd W a0 (Qt ps)
 rl:RdL W al (LL.map (List.map qs))
theorem Zu2.below{W W':World}{ps:List Int}{g2 g3:Nat}{a0 al:Option Addr}{c0 cl:Nat}{LL:List (List Rat)}(h:Zu2 W ps g2 g3 a0 al c0 cl LL){D:Nat}(hb:Below D W W')(hD:W.heap.size≤D):Zu2 W' ps g2 g3 a0 al c0 cl LL :=
 ⟨Kd h.h2 hb hD,Kd h.h3 hb hD,h.rp.below hb hD,h.rl.below hb hD⟩
theorem Zyo.rd{W:World}{g n:Nat}{F:Nat→Nat}(h:Zyo W g n F):Rd W (some ⟨g,0,none⟩) (Qt ((List.range n).map fun (k:Nat)=>((F k:Nat):Int))):=by
 refine .inr ⟨g,0,rfl,h.lt,fun i v hv=>?_⟩
 rw[Nat.zero_add];have hi:i<n:=by
  have:=(List.getElem?_eq_some_iff.1 hv).1
  simpa [Qf] using this
 rw[Ym _ i (by simpa using hi)] at hv
 cases hv
 rw[h.cell i hi];simp
theorem Zhu{l:List UInt8}(h:Za6 l)(t:Nat)(ht:t≤18):Qu (l.take t)<1000000000000000000:=by
 have h1:=Zy (h.take t);have h2:10^(l.take t).length≤10^18:=Nat.pow_le_pow_right (by decide) (by simp;omega)
 exact Nat.lt_of_lt_of_le h1 h2
def Zrq (W:World) (g:Nat) (t:TypeId) (D:List UInt8):Prop:=W.rowIs g t D.length (fun i => .int .u8 ((D.getD i 0).toNat:Nat))
theorem Zrq.cell{W:World}{g:Nat}{t:TypeId}{D:List UInt8}(h:Zrq W g t D){i:Nat}(hi:i<D.length):W.cell? ⟨g,i,none⟩=some (.int .u8 ((D.getD i 0).toNat:Nat)):=World.rowIs.cell h hi
theorem Zrq.frozen{W:World}{g:Nat}{t:TypeId}{D:List UInt8}(h:Zrq W g t D)(i:Nat):W.frozen? ⟨g,i,none⟩=false:=World.rowIs.frozen h i
theorem Zrq.set{W:World}{g:Nat}{t:TypeId}{D:List UInt8}(h:Zrq W g t D)(i x:Nat)(hx:x<256):Zrq (W.setCell ⟨g,i,none⟩ (.int .u8 (x:Nat))) g t (D.set i (UInt8.ofNat x)):=by
 unfold Zrq;rw[List.length_set];refine(World.rowIs.set h i _).congr fun j hj=>?_
 by_cases e:j=i
 ·subst e;rw[if_pos rfl];simp only[List.getD_eq_getElem?_getD,List.getElem?_set];simp only[if_true,if_pos hj,Option.getD_some];simp[Nat.mod_eq_of_lt hx]
 ·rw[if_neg e];simp only[List.getD_eq_getElem?_getD,List.getElem?_set];rw[if_neg (fun h=>e h.symm)]
theorem Zrq.text{W:World}{g:Nat}{t src dst e:TypeId}{D:List UInt8}(h:Zrq W g t D)(k n c:Nat)(hn:k+n=D.length)
  (hs:Tryz.prog.underlying src=some (.slice e)) (he:Tryz.prog.underlying e=some (.int .u8)) (hd:Tryz.prog.underlying dst=some .string) :
  (convert src dst (.slice (some ⟨g,k,none⟩) n c)).run Tryz.prog W = .ok (.string ⟨(D.drop k).toArray⟩) W:=by
 have hl:(D.drop k).length=n:=by simp;omega
 rw[← hl];refine run_convert_bytes_back W src dst e ⟨g,k,none⟩ c (D.drop k) hs he hd fun j hj=>?_
 rw[Lib.add_plain];rw[Zrq.cell h (by omega)]
 rw[List.getD_eq_getElem?_getD,List.getElem?_eq_getElem (by omega)]
 simp
def jn (L:List ByteArray):ByteArray:=⟨(Lib.join (L.map (·.data.toList)) [32]).toArray⟩
theorem Qcu:Zbz Tryz.prog 194 193 (.int .u64 0) 1 8:=⟨Tryz.underlying194,info_parts Znr,rfl,by decide⟩
end Go.Proofs.YtnjedhgcfeoemaaGreatDoor
