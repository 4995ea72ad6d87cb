/- Lemmas for the laws of this seat, part 6. -/
import Derived.Maps.AppendAt
import Derived.Lib.MinMax
import Derived.Test.YtbielfplgbammaaGreatDoorCards
import Derived.Test.YtbielfplgbammaaGreatDoorTie
import Derived.SevenTiedAt
import Derived.Test.YtbielfplgbammaaGreatDoorTe5
set_option maxRecDepth 100000
set_option maxHeartbeats 16000000
namespace Go.Proofs.YtbielfplgbammaaGreatDoor
open Go.RowKit
structure Zd1 (ps:List Int) (l:List Rat) (k:Nat) (I:List Nat):Prop where
 len:I.length=(nzL (ps.take k) (l.take k)).length
 at_:∀ i,i<I.length->I.getD i 0<k/\ps.getD (I.getD i 0) 0=((nzL (ps.take k) (l.take k)).getD i (0,0)).1/\l.getD (I.getD i 0) 0=((nzL (ps.take k) (l.take k)).getD i (0,0)).2
theorem Zd1.start(ps:List Int)(l:List Rat):Zd1 ps l 0 []:=⟨by simp[nzL],fun i hi=>absurd hi (Nat.not_lt_zero i)⟩
theorem Zbo{α:Type}(l:List α)(k:Nat)(d : α)(h:k<l.length):l.getD k d=l[k]:=by
 rw[List.getD_eq_getElem?_getD,List.getElem?_eq_getElem h];rfl
theorem Zd1.skip{ps:List Int}{l:List Rat}{k:Nat}{I:List Nat}(h:Zd1 ps l k I)(h1:k<ps.length)(h2:k<l.length)(hz:(l.getD k 0).num=0):Zd1 ps l (k+1) I:=by
 rw[Zbo l k 0 h2] at hz;have e:=Zqs ps l k h1 h2;rw[if_pos hz,List.append_nil] at e;refine⟨by rw[e];exact h.len,fun i hi=>?_⟩;rw[e];obtain⟨g1,g2⟩:=h.at_ i hi;exact⟨by omega,g2⟩
theorem Zd1.push{ps:List Int}{l:List Rat}{k:Nat}{I:List Nat}(h:Zd1 ps l k I)(h1:k<ps.length)(h2:k<l.length)(hz:(l.getD k 0).num≠0):Zd1 ps l (k+1) (I++[k]):=by
 have mN:=hz;rw[Zbo l k 0 h2] at mN;have e:=Zqs ps l k h1 h2;rw[if_neg mN] at e;refine⟨by rw[e,List.length_append,List.length_append,h.len];rfl,fun i hi=>?_⟩;rw[List.length_append,List.length_singleton] at hi;rw[e];rcases Nat.lt_or_ge i I.length with H7|Bm
 ·obtain⟨g1,g2,g3⟩:=h.at_ i H7;have e1:(I++[k]).getD i 0=I.getD i 0:=by rw[List.getD_eq_getElem?_getD,List.getElem?_append_left H7,<- List.getD_eq_getElem?_getD]
  have e2:∀ x,(nzL (ps.take k) (l.take k)++[x]).getD i (0,0)=(nzL (ps.take k) (l.take k)).getD i (0,0):=fun x=>by rw[List.getD_eq_getElem?_getD,List.getElem?_append_left (by rw[<- h.len];exact H7),<- List.getD_eq_getElem?_getD]
  rw[e1,e2];exact⟨by omega,g2,g3⟩
 ·obtain rfl:i=I.length:=by omega
  have e1:(I++[k]).getD I.length 0=k:=by rw[List.getD_eq_getElem?_getD,List.getElem?_append_right nr_,Nat.sub_self];rfl
  have e2:∀ x,(nzL (ps.take k) (l.take k)++[x]).getD I.length (0,0)=x:=fun x=>by rw[List.getD_eq_getElem?_getD,h.len,List.getElem?_append_right nr_,Nat.sub_self];rfl
  rw[e1,e2,Zbo l k 0 h2,Zbo ps k 0 h1];exact⟨by omega,rfl,rfl⟩
theorem Zd1.all{ps:List Int}{l:List Rat}{I:List Nat}(h:Zd1 ps l ps.length I)(hl:l.length=ps.length):I.length=(nzL ps l).length/\∀ i,i<I.length->I.getD i 0<ps.length/\ps.getD (I.getD i 0) 0=((nzL ps l).getD i (0,0)).1/\l.getD (I.getD i 0) 0=((nzL ps l).getD i (0,0)).2:=by
 have h1:=h.len;have h2:=h.at_;rw[List.take_length,List.take_of_length_le (by omega)] at h1 h2;exact⟨h1,h2⟩
theorem Qao(n:Nat)(ps:List Int)(l:List Rat)(i:Nat)(h:i<(nzL ps l).length):(Zdl n ps l).length=(nzL ps l).length/\∀ h':i<(Zdl n ps l).length,(Zdl n ps l)[i]=(((nzL ps l).getD i (0,0)).1,(n:Int),dec (lgN ((nzL ps l).getD i (0,0)).1 n)):=by
 rw[Zbo _ i _ h];refine⟨by rw[Zpo,List.length_map],fun h'=>?_⟩;simp only[Zpo,List.getElem_map]
theorem Qct(I:List Nat)(i:Nat)(h:i<I.length):(Vk (nI I))[i]?=some (.int .i64 (I.getD i 0:Nat)):=by
 rw[Zbo I i 0 h];simp[Vk,nI,h]
theorem Qhj(j:Nat)(hj:j<=6):Qx ((2*10^55)^j):=by
 have h1:(2*10^55)^j<=(2*10^55)^6:=Nat.pow_le_pow_right (by decide) hj;exact Zgc (m:=40) (Nat.lt_of_le_of_lt h1 (by decide +kernel)) (by decide)
theorem Qdv{p:Int}(hp:p∈Vj){n:Nat}(hn:n<=64){sg:Int}{q:Rat}:atB sg n p q<=10^25:=by
 have h:=Zkv hp hn;unfold atB;have h2:(2:Nat)^80+1<=10^25:=by decide
 split<;>omega
theorem Qhk{p:Int}(hp:p∈Vj){n:Nat}(hn:n<=64)(sg:Int)(q:Rat):Qx (atB sg n p q):=Zcc (Nat.lt_of_le_of_lt (Qdv hp hn) (by decide +kernel))
theorem Zq0:Qx 1:=by unfold Qx;rw[Vd];decide
theorem Qeo{a b:Nat}(h:a<=b):(10:Nat)^a<=10^b:=Nat.pow_le_pow_right (by decide) h
theorem Zv7{q:Rat}(h:Sm 30 q):Qx q.num.natAbs/\Qx q.den:=by
 have e:=Qeo (show 30<=400 by decide);exact⟨Zcc (Nat.lt_of_lt_of_le h.1 e),Zcc (Nat.lt_of_lt_of_le h.2 e)⟩
theorem Zso(w:World):Calls Tryz.prog 68 #[.int .i64 1] w fun e w'=>∃ a c,e = .returned (.agg #[.bool false,.slice a (wN 1).length c])/\IsX w' a c 1/\Bw_ w w':=by
 have h:=Zoj w 1 (by decide) (by decide);unfold Zc5 igV at h;exact h
theorem Ztu(w:World)(x s1 s2:Nat)(r1 r2:OA_)(h1:IsX w r1 s1 x)(h2:IsX w r2 s2 1)(l1:Qx x):Calls Tryz.prog 67 #[.agg #[.bool false,.slice r1 (wN x).length s1],.agg #[.bool false,.slice r2 (wN 1).length s2]] w fun e w'=>∃ a c,e = .returned (.agg #[.bool false,.slice a (wN (x+1)).length c])/\IsX w' a c (x+1)/\Bw_ w w':=by
 have h:=Zlm w (x:Int) ((1:Nat):Int) r1 r2 s1 s2 h1 h2 l1 Zq0;unfold Zc5 at h;rw[<- Int.natCast_add] at h
 simpa only[Zhq,Int.natAbs_natCast] using h
theorem Zny(w:World)(z:Int)(d t:Nat)(a1 a2 b1 b2:OA_)(c1 c2 e1 e2:Nat)(h1:IsX w a1 c1 z.natAbs)(g1:IsX w b1 e1 d)(h2:IsX w a2 c2 t)(g2:IsX w b2 e2 1)(l1:Qx z.natAbs)(l2:Qx t)(m1:Qx d):Calls Tryz.prog 70 #[.agg #[.bool (decide (z<0)),.slice a1 (wN z.natAbs).length c1,.slice b1 (wN d).length e1],.agg #[.bool false,.slice a2 (wN t).length c2,.slice b2 1 e2]] w fun e w'=>∃ a c b e',e = .returned (.agg #[.bool (decide (z*(t:Int)<0)),.slice a (wN (z*(t:Int)).natAbs).length c,.slice b (wN (d*1)).length e'])/\IsX w' a c (z*(t:Int)).natAbs/\IsX w' b e' (d*1)/\Bw_ w w':=by
 have h:=Zry w z (t:Int) d 1 a1 a2 b1 b2 c1 c2 e1 e2 h1 h2 g1 g2 l1 l2 m1 Zq0;unfold Zes frX at h;rw[decide_eq_false (show ¬ (t:Int)<0 by omega),Int.natAbs_natCast,Vd] at h;exact h
theorem Zhr{w w':World}{B N c:Nat}{a:OA_}{V:List Value}(h:w.ownsRow B 121 3 (.slice a N c) N V)(hb:Bw_ w w')(hN:0<N):∃ g,a=some ⟨g,0,none⟩/\N<=c/\∀ j,j<N*3->w'.cell? ⟨g,j,none⟩=V[j]?:=by
 obtain⟨g,cap,hv,h1,h2,h3,h4,h5⟩:=Qy h hN;simp only[Value.slice.injEq] at hv;obtain⟨rfl,-,rfl⟩:=hv;exact⟨g,rfl,h3,fun j hj=>by rw[hb.cell (p:=⟨g,j,none⟩) h2];exact h4 j hj⟩
theorem Zwg{w w':World}{B c:Nat}{a:OA_}{I:List Nat}(h:w.ownsRow B 3 1 (.slice a I.length c) I.length (Vk (nI I)))(hb:Bw_ w w')(hN:0<I.length):∃ g,a=some ⟨g,0,none⟩/\I.length<=c/\∀ j,j<I.length->w'.cell? ⟨g,j,none⟩=some (.int .i64 (I.getD j 0:Nat)):=by
 obtain⟨g,cap,hv,h1,h2,h3,h4,h5⟩:=Qy h hN;simp only[Value.slice.injEq] at hv;obtain⟨rfl,-,rfl⟩:=hv;exact⟨g,rfl,h3,fun j hj=>by rw[hb.cell (p:=⟨g,j,none⟩) h2,h4 j (by omega)];exact Qct I j hj⟩
theorem Zur(w:World)(a0 a a3:OA_)(c0 c c3 n:Nat)(sg:Int)(ps:List Int)(l:List Rat)(hp:Rd w a0 (Vk ps))(hr:Rd w a (Kk l))(hs:∀ p∈ps,p∈Vj)(ho:∀ i,0<i->i<ps.length->ps.getD (i-1) 0<ps.getD i 0)(h0:0<ps.length)(h6:ps.length<=6)(hl:l.length=ps.length)(hq:∀ q∈l,Sm 30 q)
  (db:sg=1\/sg = -1) (hn:n<=64) (gj:0<(nzL ps l).length) (hB:Rd w a3 (Yb (Zdl n ps l))) :
  Kc Tryz.prog 18 #[.slice a0 ps.length c0,.slice a ps.length c,Ztx sg n a3 (Zdl n ps l).length c3] w (.bool (Zyp sg (Zdj sg n (nzL ps l)).1)):=by
 unfold Kc Ztx;have CV:=hd_ (fun W (hW:Bw_ w W)=>Zl8 W a0 a c0 c ps l (hp.below hW nr_) (hr.below hW nr_) hs ho h0 h6 hl hq);have CW:=hd_ (fun W (hW:Bw_ w W)=>Zmy W a c l (hr.below hW nr_) (fun q h=>(hq q h).le (by decide)) (by omega));rw[hl] at CV CW;have Hp:=hd_ hp;have HB:=hd_ hB;have J':∀ x∈nzL ps l,x.1∈Vj/\Sm 30 x.2:=fun x hx=>⟨hs _ (Zkn hx).1,hq _ (Zkn hx).2.1⟩
 have BI:=fun i h=>Qao n ps l i h
 have Iq:=hd_ (BI 0 gj).1;have aD:=hd_ (fun i (h:i<(nzL ps l).length)=>(BI i h).2);have DZ:=hd_ (fun k I (h:Zd1 ps l k I) (h1:k<ps.length) hz=>h.skip h1 (by omega) hz);have D0:=hd_ (fun k I (h:Zd1 ps l k I) (h1:k<ps.length) hz=>h.push h1 (by omega) hz);have eZ:=hd_ (fun I (h:Zd1 ps l ps.length I)=>h.all hl);have bR:=hd_ (Zd1.start ps l);have gq:=hd_ hl;have nT:Hid (∀ i,i<ps.length->(Vk ps)[i]?=some (.int .i64 (ps.getD i 0))):=fun i h=>by rw[Ym ps i h,Zbo ps i 0 h]
 clear hp hr hs ho hq hB BI
 -- the terms
 obtain⟨TT,hTT⟩:∃ TT,nzL ps l=TT:=⟨_,rfl⟩;have PH:=hd_ hTT;rw[hTT] at gj J' aD eZ Iq ⊢;have OW:=hd_ J';clear hTT J';obtain⟨N,hN⟩:∃ N,ps.length=N:=⟨_,rfl⟩;have HN:=hd_ hN;rw[hN] at h0 h6 CV CW DZ D0 eZ nT ⊢;clear hN hl;have hM:(Zdl n ps l).length=TT.length:=Iq.o;rw[hM];clear hM;obtain⟨M,hM⟩:∃ M,TT.length=M:=⟨_,rfl⟩;have HM:=hd_ hM;rw[hM] at gj Iq aD eZ ⊢;clear hM;have NX:(sg==0)=false:=by rw[beq_eq_false_iff_ne];omega
 have NB:=hd_ (Kj w #[.int .i64 sg,.int .i64 n,.slice a3 M c3] 46 _ rfl);have B0:=hd_ ((Below.refl w.heap.size w).alloc nr_ (.cells #[.int .i64 sg,.int .i64 n,.slice a3 M c3] 46));go_enter Tryz.func18,Tryz.ntmps18;go_wp2_with fail;generalize w.alloc (.cells #[.int .i64 sg,.int .i64 n,.slice a3 M c3] 46)=W0 at *;refine cm_ (CV.o _ B0.o) ?_;rintro e w1 ⟨rfl,hb⟩;replace NB:=hk_ NB hb;replace B0:=bt_ B0 hb;clear hb CV;go_wp2_with fail;refine cm_ (CW.o _ B0.o) ?_;rintro e w2 ⟨r,rc,V,rfl,hO,hF,hb⟩;replace NB:=hk_ NB hb;replace B0:=bt_ B0 hb;have HO:=hd_ hO;have HF:=hd_ hF;clear hb CW hO hF;go_wp2_with fail
 go_loopw [9,29] (fun ov iv wr=>∃ (k:Nat) (I:List Nat) (oa:OA_) (oc:Nat),k<=N/\ov = .slice oa I.length oc/\iv = .int .i64 k/\Hid (I.length<=k)/\Hid (wr.ownsRow w2.heap.size 3 1 (.slice oa I.length oc) I.length (Vk (nI I)))/\Hid (Zd1 ps l k I)/\Hid (Bw_ w2 wr)) (fun _ iv _=>N-(intOf iv).toNat)
 case atStart=>exact⟨0,[],none,0,Nat.zero_le _,rfl,rfl,Nat.zero_le _,World.ownsRow_nil ..,bR.o,Below.refl _ _⟩
 case round =>
  obtain⟨k,I,oa,oc,hk,rfl,rfl,HIk,HR,HI,D⟩:=hrel
  by_cases H7:k<N
  ·obtain⟨gv,rfl,hrc,GX⟩:=Zhr HO.o D.o h0;obtain⟨xa,xc,xb,xd,v0,v1,v2,-,-⟩:=HF.o k (by rw[gq.o,HN.o];exact H7);have Ah:=GX (k*3) (by omega);have Ag:=GX (k*3+1) (by omega);have iB:=GX (k*3+2) (by omega);rw[v0] at Ah;rw[v1] at Ag;rw[v2] at iB;have HZ:=hd_ (fun W=>Zgi W (l.getD k 0).num xa xb xc (l.getD k 0).den xd);unfold frX at HZ;have lK:=hd_ (DZ.o k I HI.o H7);have lV:=hd_ (D0.o k I HI.o H7);have gi:(k:Int)<N:=by omega
   clear v0 v1 v2 GX HI;generalize e9:(l.getD k 0).num=z at *;clear e9;generalize (l.getD k 0).den=d at *;generalize decide (z<0)=s at *;generalize (wN z.natAbs).length=m1 at *;generalize (wN d).length=m2 at *;have gH:=(Below.refl wr.heap.size wr).alloc nr_ (.cells #[.bool s,.slice xa m1 xc,.slice xb m2 xd] 121);have iE:=hd_ (Kj wr #[.bool s,.slice xa m1 xc,.slice xb m2 xd] 121 _ rfl);obtain⟨k0,k1,k2,-⟩:=Kf iE.o;replace HR:=hd_ (Kv HR.o gH nr_);replace D:=bt_ D gH;clear gH iE;go_wp2_with fail;generalize wr.alloc (.cells #[.bool s,.slice xa m1 xc,.slice xb m2 xd] 121)=W1 at *;clear Ah Ag iB k0 k1 k2;refine cm_ (HZ.o W1) ?_;rintro e w3 ⟨rfl,hb⟩;replace HR:=hd_ (Kv HR.o hb nr_);replace D:=bt_ D hb;clear hb HZ
   by_cases hz:z=0
   ·have H2:=hd_ (lK.o hz);have EA:Hid (I.length<=k+1):=Nat.le_succ_of_le HIk.o;rw[decide_eq_true hz];clear lK lV hz HIk;go_wp2_with fail;refine⟨⟨k+1,I,oa,oc,by omega,rfl,by go_num,EA,HR,H2,D⟩,by simp[intOf];omega⟩
   ·have H2:=hd_ (lV.o hz);have EA:Hid ((I++[k]).length<=k+1):=by show _<=_;rw[List.length_append];have:=HIk.o;simp;omega
    have Pi:=HIk.o;have np:Hid ((I++[k]).length=I.length+1):=by show _=_;rw[List.length_append];rfl
    rw[decide_eq_false hz];have fy:=hd_ D.o.size;have m9:k<=1000:=by omega
    clear lK lV hz HIk;generalize hmI:I.length=mI at *
    go_wp2_with (at_builtin;refine Kw rfl (.tmp 37) (.tmp 39) 30 rfl Qgv _ 1 [.int .i64 k] rfl rfl HR.o fy.o rfl ?c1 (by omega) (by omega) ?_)
    case c1=>(intro u hu;obtain rfl:=List.mem_singleton.1 hu;rfl)
    intro v' w4 gk gL _;obtain⟨oa2,oc2,rfl⟩:=Qj gk;have bT:Hid (w4.ownsRow w2.heap.size 3 1 (.slice oa2 (I++[k]).length oc2) (I++[k]).length (Vk (nI (I++[k])))):=by
     show World.ownsRow _ _ _ _ _ _ _
     rw[np.o,Zvs,Zdu];exact gk
    have D2:=hd_ ((D.o.alloc fy.o (.cells #[.int .i64 k] 3)).grown gL (by have:=fy.o;simp;omega) (fun j hj=>(HR.o.lt j hj).1));clear gk gL HR D fy;go_wp2_with fail;refine⟨⟨k+1,I++[k],oa2,oc2,by omega,by rw[np.o],by go_num,EA,bT,H2,D2⟩,by simp[intOf];omega⟩
  ·obtain rfl:k=N:=by omega
   obtain⟨hIM,hIx⟩:=eZ.o I HI.o;have n7:=hd_ hIx;obtain⟨go_,rfl,hoc,hco⟩:=Zwg HR.o (Below.refl _ _) (by rw[hIM];exact gj);obtain⟨gv,rfl,hrc,GX⟩:=Zhr HO.o D.o h0;rw[hIM] at hoc hco n7 ⊢;have bU:=hd_ hco;have Nf:=hd_ GX;replace HF:=hd_ (HF.o.map fun _ _ _ h=>h.below D.o nr_);replace NB:=hk_ NB D.o;replace B0:=bt_ B0 D.o;have oX:=hd_ hIM;have pY:M<=k:=by have:=HIk.o;rw[hIM] at this;exact this
   clear HR HI hIM hIx hco GX eZ DZ D0 bR HO H7 HIk D;obtain⟨b0,-,-,-⟩:=Kf NB.o
   go_upto_region 13 with fail
   go_cut [79] from 42 to 79 (fun c wx=>c = .bool false/\wr=wx)
   case first =>
    obtain⟨b0,-,b2,-⟩:=Kf NB.o;have Pd:((M:Int)==0)=false:=by rw[beq_eq_false_iff_ne];omega
    have gO:¬ M=0:=by omega
    have pZ:((M:Int) != M)=false:=by simp
    rcases db with rfl|rfl
    ·go_wp2_with fail
     go_meet
     exact⟨rfl,rfl⟩
    ·go_wp2_with fail
     go_meet
     exact⟨rfl,rfl⟩
   case rest =>
   obtain⟨rfl,rfl⟩:=hcut;clear b0;have ay:=hd_ (Zy4 wr);unfold Zes frX at ay;go_wp2_with fail;refine cm_ ay.o ?_;rintro e w4 ⟨za,zc,zb,zd,rfl,fg,fG,hb⟩;replace NB:=hk_ NB hb;replace B0:=bt_ B0 hb;replace HF:=hd_ (HF.o.map fun _ _ _ h=>h.below hb nr_);replace bU:=hd_ (fun j hj=>(hb.cell (block_lt_of_cell (bU.o j hj))).trans (bU.o j hj));have aH:Hid (∀ j v,j<k*3->V[j]?=some v->w4.cell? ⟨gv,j,none⟩=some v):=fun j v hj hv=>by
    have h:=Nf.o j hj;rw[hv] at h;exact(hb.cell (block_lt_of_cell h)).trans h
   rw[show decide ((0:Int)<0)=false from rfl,show (0:Int).natAbs=0 from rfl];have Z1:=hd_ fg;have Z2:=hd_ fG;have gH:=(Below.refl w4.heap.size w4).alloc nr_ (.cells #[.bool false,.slice za (wN 0).length zc,.slice zb (wN 1).length zd] 121);have MO:=hd_ (Kj w4 #[.bool false,.slice za (wN 0).length zc,.slice zb (wN 1).length zd] 121 _ rfl);have MN:=hk_ NB gH;obtain⟨b0,b1,b2,-⟩:=Kf MN.o;clear hb ay Nf fg fG;go_wp2_with fail;have nL:=hd_ gH;have Y1:Hid (IsX (w4.alloc (.cells #[.bool false,.slice za (wN 0).length zc,.slice zb (wN 1).length zd] 121)) za zc (0:Int).natAbs):=Z1.o.below gH nr_;have Y2:Hid (IsX (w4.alloc (.cells #[.bool false,.slice za (wN 0).length zc,.slice zb (wN 1).length zd] 121)) zb zd 1):=Z2.o.below gH nr_;clear gH MN b0 b1 b2 Z1 Z2;obtain⟨G,hG⟩:∃ G:Nat,G=2*10^55:=⟨_,rfl⟩;have IT:Hid (∀ j,j<=6->Qx (G^j)):=fun j hj=>by rw[hG];exact Qhj j hj
   have IC:=hd_ (fun (j:Nat) (x:Int×Rat) (h:SmX G sg n j (TT.take j) (Zdj sg n (TT.take j))) (h2:Sm 30 x.2) (h1:x.1∈Vj)=>Zqc (A:=10^30) (C:=10^25) (Q:=10^55) h (Nat.le_of_lt h2.1) (Nat.le_trans (Nat.le_of_lt h2.2) (by decide)) (Qdv h1 hn) (by decide) (by decide) (Nat.le_of_eq hG.symm));clear hG
   go_loopw [84] (fun iv wr2=>∃ (j:Nat) (z:Int) (d:Nat) (sa sb:OA_) (sc sd:Nat),j<=M/\iv = .int .i64 j/\Hid (Zdj sg n (TT.take j)=(z,d))/\Hid (SmX G sg n j (TT.take j) (Zdj sg n (TT.take j)))/\Hid (wr2.heap[w4.heap.size]?=some (.cells #[.bool (decide (z<0)),.slice sa (wN z.natAbs).length sc,.slice sb (wN d).length sd] 121 (0,0)))/\Hid (IsX wr2 sa sc z.natAbs)/\Hid (IsX wr2 sb sd d)/\Hid (Bw_ w4 wr2)) (fun iv _=>M-(intOf iv).toNat)
   case atStart=>exact⟨0,0,1,za,zb,zc,zd,Nat.zero_le _,rfl,rfl,Zqb G sg n,MO.o,Y1.o,Y2.o,nL.o⟩
   case round =>
    obtain⟨j,z,d,sa,sb,sc,sd,hj,rfl,HSum,HSm,HS,X1,X2,D⟩:=hrel;clear Y1 Y2 MO nL
    by_cases H7:j<M
    ·have AZ:j<TT.length:=by rw[HM.o];exact H7
     obtain⟨x,hx⟩:∃ x,TT.getD j (0,0)=x:=⟨_,rfl⟩;have mO:x∈TT:=by rw[<- hx,Zbo TT j _ AZ];exact List.getElem_mem AZ
     obtain⟨EQ,ft⟩:=OW.o x mO;obtain⟨Dp,Ef,hi3⟩:=n7.o j H7;have ik:=aD.o j H7 (by rw[Iq.o];exact H7);rw[hx] at Ef hi3 ik;have ef:Hid (TT.take (j+1)=TT.take j++[x]):=by show _=_;rw[List.take_succ_eq_append_getElem AZ,<- Zbo TT j (0,0) AZ,hx]
     obtain⟨g1,g2,g3,g4⟩:=IC.o j x HSm.o ft EQ;rw[<- ef.o] at g1;rw[HSum.o] at g3 g4;have LO:=hd_ g1;have Lq:=hd_ ((IT.o (j+1) (by omega)).le g2);have MP:=hd_ ((IT.o (j+1) (by omega)).le g3);have MQ:=hd_ ((IT.o (j+1) (by omega)).le g4);have Lz:=hd_ ((IT.o j (by omega)).le (by have:=HSm.o.b1;rw[HSum.o] at this;exact this));have Ld:=hd_ ((IT.o j (by omega)).le (by have:=HSm.o.b2;rw[HSum.o] at this;exact this));have IB:Hid (Zdj sg n (TT.take (j+1))=Ztt (z,d) (x.2.num*(atB sg n x.1 x.2:Int),x.2.den*1)):=by show _=_;rw[ef.o,Zl1,HSum.o]
     obtain⟨bb,bo,rfl,y0,y1,y2⟩:=Qex HB.o (bu_ B0 D.o) nr_ j (by rw[Iq.o];exact H7);rw[ik] at y0 y1 y2;have co:=(D.o.cell (p:=⟨go_,j,none⟩) (block_lt_of_cell (bU.o j H7))).trans (bU.o j H7);obtain⟨iI,hiI⟩:∃ iI,I.getD j 0=iI:=⟨_,rfl⟩;rw[hiI] at Dp Ef hi3 co;obtain⟨bp,op,rfl,ec,hpc⟩:=Hp.o.open (by rw[Qp,HN.o];omega);have cp:=hpc iI _ (nT.o iI Dp);rw[<- (bu_ B0 D.o).cell (p:=⟨bp,op+iI,none⟩) ec,Ef] at cp;obtain⟨xa,xc,xb,xd,v0,v1,v2,e1,e2⟩:=HF.o iI (by rw[gq.o,HN.o];exact Dp);rw[hi3] at v0 v1 v2 e1 e2;have bt:=aH.o _ _ (by omega) v0;have BK:=aH.o _ _ (by omega) v1;have CG:=aH.o _ _ (by omega) v2;have E1:=hd_ (e1.below D.o nr_);have E2:=hd_ (e2.below D.o nr_);rw[<- D.o.cell (p:=⟨gv,iI*3,none⟩) (block_lt_of_cell bt)] at bt;rw[<- D.o.cell (p:=⟨gv,iI*3+1,none⟩) (block_lt_of_cell BK)] at BK;rw[<- D.o.cell (p:=⟨gv,iI*3+2,none⟩) (block_lt_of_cell CG)] at CG;have Fv:=hk_ NB D.o;clear g1 g2 g3 g4 hx mO Ef hi3 ik hpc ec v0 v1 v2 e1 e2 HSm HSum AZ hiI;obtain⟨p,q⟩:=x
     dsimp only at *
     have mp:=hd_ (fun W=>Zpn W p n EQ hn);unfold Qd9 at mp;have Ge:=Zkv EQ hn;have IF:=hd_ (fun W=>Zea W ((lgN p n:Nat):Int) (by rw[Int.natAbs_natCast];exact Zf7 (Nat.lt_trans Ge (by decide +kernel))));simp only[Zhq,Int.natAbs_natCast,Kh] at IF;have La:=hd_ (Qhk EQ hn sg q);have MR:Hid (Qx q.num.natAbs):=(Zv7 ft).1;have lG:Hid (Qx q.den):=(Zv7 ft).2;have Iv:Hid (atB sg n p q=lgN p n+if p≠2/\(decide (q.num<0)==decide (sg=1))=true then 1 else 0):=rfl;have nr:Hid (Qx (lgN p n)):=Zcc (Nat.lt_trans Ge (by decide +kernel));clear Ge EQ ft;generalize lgN p n=x0 at *;generalize dec x0=s0 at *;generalize atB sg n p q=at_ at *;have gi:(j:Int)<M:=by omega
     have gH:=(Below.refl wr.heap.size wr).alloc nr_ (.cells #[.int .i64 p,.int .i64 n,.string s0] 124);have Dy:=hd_ (Kj wr #[.int .i64 p,.int .i64 n,.string s0] 124 _ rfl);have Hm:=fun (g:Addr) v (h:wr.cell? g=some v)=>(gH.cell (block_lt_of_cell h)).trans h
     have co:=Hm _ _ co;have cp:=Hm _ _ cp;have bt:=Hm _ _ bt;have BK:=Hm _ _ BK;have CG:=Hm _ _ CG;replace Fv:=hk_ Fv gH;replace HS:=hk_ HS gH;replace X1:=hd_ (X1.o.below gH nr_);replace X2:=hd_ (X2.o.below gH nr_);replace E1:=hd_ (E1.o.below gH nr_);replace E2:=hd_ (E2.o.below gH nr_);have DD:=bt_ D gH;clear gH Hm D;generalize hW3:wr.alloc (.cells #[.int .i64 p,.int .i64 n,.string s0] 124)=w5 at *;generalize hg4:wr.heap.size=g4 at *;have J8:=hW3;obtain⟨m0,m1,m2,-⟩:=Kf Dy.o;obtain⟨n0,n1,n2,-⟩:=Kf Fv.o;have q0:=cell_regrown m0;have q1:=cell_regrown m1;have q2:=cell_regrown m2;have q3:=cell_regrown n0;have q4:=cell_regrown n1;have q5:=cell_regrown co;have q6:=cell_regrown cp;have hL:∀ d os,Calls Tryz.prog 65 #[.agg #[.int .i64 p,.int .i64 n,.string s0]] (Go.Sort.grow (redrawn w5 d) os) fun e w''=>e = .returned (.bool true)/\∃ p:Regrown,w''=Go.Sort.grow (redrawn w5 p.d) p.os:=fun d os=>Calls.regrown_of (mp.o _)
     go_wp2_with fail;clear y0 y1 y2;refine wp_region_quiet_below (by kernel_rfl) (by kernel_rfl) ?_
     repeat (first | go_big_quiet_step (exact hL _ _) | quiet_step (exact hL _ _))
     refine wq_ ?_;intro w6 jt;obtain⟨⟨dq,osq⟩,rfl⟩:=jt;have DB:=hd_ (below_regrown w5 dq osq);generalize Go.Sort.grow (redrawn w5 dq) osq=w6 at *;clear q0 q1 q2 q3 q4 q5 q6 hL m0 m1 m2 n0 n1 cp mp J8 hW3;have Hm:=fun (g:Addr) v (h:w5.cell? g=some v)=>(DB.o.cell (block_lt_of_cell h)).trans h
     have co:=Hm _ _ co;have bt:=Hm _ _ bt;have BK:=Hm _ _ BK;have CG:=Hm _ _ CG;clear Hm;replace Dy:=hk_ Dy DB.o;replace Fv:=hk_ Fv DB.o;replace HS:=hk_ HS DB.o;replace X1:=hd_ (X1.o.below DB.o nr_);replace X2:=hd_ (X2.o.below DB.o nr_);replace E1:=hd_ (E1.o.below DB.o nr_);replace E2:=hd_ (E2.o.below DB.o nr_);replace DD:=bt_ DD DB.o;clear DB;obtain⟨sQ,hsQ⟩:∃ sQ,decide (q.num<0)=sQ:=⟨_,rfl⟩;rw[hsQ] at bt Iv;have gH:=(Below.refl w6.heap.size w6).alloc nr_ (.cells #[.bool sQ,.slice xa (wN q.num.natAbs).length xc,.slice xb (wN q.den).length xd] 121);have BN:=hd_ (Kj w6 #[.bool sQ,.slice xa (wN q.num.natAbs).length xc,.slice xb (wN q.den).length xd] 121 _ rfl);replace Dy:=hk_ Dy gH;replace Fv:=hk_ Fv gH;replace HS:=hk_ HS gH;replace X1:=hd_ (X1.o.below gH nr_);replace X2:=hd_ (X2.o.below gH nr_);replace E1:=hd_ (E1.o.below gH nr_);replace E2:=hd_ (E2.o.below gH nr_);replace DD:=bt_ DD gH;clear gH;obtain⟨m0,m1,m2,-⟩:=Kf Dy.o;go_wp2_with fail;clear m0 m1 m2 co bt BK CG;generalize w6.alloc (.cells #[.bool sQ,.slice xa (wN q.num.natAbs).length xc,.slice xb (wN q.den).length xd] 121)=w7 at *;generalize w6.heap.size=g5 at *;refine cm_ (IF.o _) ?_;rintro e w8 ⟨a8,c8,rfl,hi,hb⟩;have gH:=hb.trans (((Below.refl w8.heap.size w8).alloc nr_ (.cells #[.bool false,.slice a8 (wN x0).length c8] 119)).mono hb.size);have bu:=hd_ (Kj w8 #[.bool false,.slice a8 (wN x0).length c8] 119 _ rfl);have R0:=hd_ (hi.below ((Below.refl w8.heap.size w8).alloc nr_ (.cells #[.bool false,.slice a8 (wN x0).length c8] 119)) nr_);replace Dy:=hk_ Dy gH;replace BN:=hk_ BN gH;replace Fv:=hk_ Fv gH;replace HS:=hk_ HS gH;replace X1:=hd_ (X1.o.below gH nr_);replace X2:=hd_ (X2.o.below gH nr_);replace E1:=hd_ (E1.o.below gH nr_);replace E2:=hd_ (E2.o.below gH nr_);have im:=DD.o.trans (hb.mono DD.o.size);have Na:Hid (w4.heap.size<=w8.heap.size):=im.size;replace DD:=bt_ DD gH;clear gH hi hb IF im
     go_upto_region 23 with fail
     generalize w8.alloc (.cells #[.bool false,.slice a8 (wN x0).length c8] 119)=w9 at *;generalize hg6:w8.heap.size=g6 at *;obtain⟨bB,Ac⟩:∃ bB,decide (p≠2/\(sQ==decide (sg=1))=true)=bB:=⟨_,rfl⟩
     go_cut [84,135] from 84 to 146 (fun i c wx=>i = .int .i64 j/\c = .bool bB/\w9=wx)
     case first =>
      obtain⟨m0,-,-,-⟩:=Kf Dy.o;obtain⟨n0,-,-,-⟩:=Kf Fv.o;obtain⟨l0,l1,l2,-⟩:=Kf BN.o
      by_cases h2:p=2
      ·have Gk:(p != 2)=false:=by rw[h2];rfl
       have hB:bB=false:=by rw[<- Ac,h2];simp
       subst hB;go_wp2_with fail
       go_meet
       exact⟨rfl,rfl,rfl⟩
      ·have Gk:(p != 2)=true:=bne_iff_ne.2 h2;rcases db with rfl|rfl<;>cases sQ<;>(have hB:=Ac;simp[h2] at hB;subst hB;go_wp2_with fail;go_meet;exact⟨rfl,rfl,rfl⟩)
     case rest =>
     obtain⟨rfl,rfl,rfl⟩:=hcut;subst hsQ;have an:Hid (at_=x0+if bB=true then 1 else 0):=by
      show _=_
      rw[Iv.o,<- Ac];simp only[decide_eq_true_eq]
     clear Iv Ac
     go_upto_if 135 with fail
     go_cut [84] from 84 to 146 (fun i wx=>i = .int .i64 j/\∃ (ra:OA_) (rc:Nat),Hid (wx.heap[g6]?=some (.cells #[.bool false,.slice ra (wN at_).length rc] 119 (0,0)))/\Hid (IsX wx ra rc at_)/\Hid (Below g6 w9 wx)/\Hid (∀ a c n,IsX w9 a c n->IsX wx a c n)/\Hid (∀ k o,k≠g6->w9.heap[k]?=some o->wx.heap[k]?=some o))
     case first =>
      cases bB with
      | false =>
       obtain rfl:at_=x0:=by rw[an.o];rfl
       go_wp2_with fail
       go_meet
       exact⟨rfl,_,_,bu.o,R0.o,Below.refl _ _,fun _ _ _ h=>h,fun _ _ _ h=>h⟩
      | true =>
       obtain rfl:at_=x0+1:=by rw[an.o];rfl
       obtain⟨k0,k1,-,-⟩:=Ka bu.o;have q0:=NW.cell k0;have q1:=NW.cell k1;have gn:Nonempty (NW w9):=⟨⟨w9,Below.refl _ _⟩⟩;have I:Hid (Bw_ w9 w9.drew):=(Below.refl _ _).drew;clear k0 k1;have IL:=hd_ (fun W=>Zso W);have jb:=hd_ (fun W r2 s2 (hW:Bw_ w9 W) (k2:IsX W r2 s2 1)=>Ztu W x0 c8 s2 a8 r2 (R0.o.below hW nr_) k2 nr.o);go_wp2_with fail;refine wn_ 3 [(1,0),(0,1),(0,2),(0,3)] I ?_;refine wr_ rfl ?_;go_big_quiet_step (fail);refine wq_ ?_;refine wm_ rfl ?_;go_wp2_with fail;refine cm_ (IL.o _) ?_;rintro e_ y0 ⟨ra0,rc0,rfl,hi_,hb_⟩;have J0:Hid (Bw_ w9 y0):=I.o.trans (hb_.mono I.o.size);have T0:=hd_ hi_;clear hb_ hi_ IL;go_wp2_with fail;refine⟨⟨⟨_,J0.o⟩,rfl⟩,?_⟩;refine wm_ rfl ?_;go_wp2_with fail;refine cm_ (jb.o _ _ _ J0.o T0.o) ?_;rintro e_ y1 ⟨ek,rc1,rfl,hi_,hb_⟩;have J1:Hid (Bw_ w9 y1):=J0.o.trans (hb_.mono J0.o.size);have T1:=hd_ hi_;clear hb_ hi_ jb T0;go_wp2_with fail;refine⟨⟨⟨_,J1.o⟩,rfl⟩,?_⟩;have lE:=hk_ bu J1.o;have GC:=Zz lE.o;obtain⟨Et,Es,f_⟩:=Ka lE.o;refine wm_ rfl ?_;go_wp2_with fail;simp only[RP.walkR];go_wp2_with fail
       go_meet
       have JG:=lt_of_block bu.o;exact⟨rfl,_,_,Zah lE.o,T1.o.set2 GC _ _,((J1.o.mono (Nat.le_of_lt JG)).setCell (p:=⟨g6,0,none⟩) nr_ _).setCell (p:=⟨g6,1,none⟩) nr_ _,fun a c n h=>(h.below J1.o nr_).set2 GC _ _,fun k o hk h=>Zga (Zga (Zg h J1.o nr_) hk _) hk _⟩
     case rest =>
     obtain⟨rfl,ra,rc,M16,R1,D9,HX,HH⟩:=hcut;have n1:g4≠g6:=fun e=>by have h1:=Dy.o;rw[e,bu.o] at h1;simp at h1
     have n2:g5≠g6:=fun e=>by have h1:=BN.o;rw[e,bu.o] at h1;simp at h1
     have n3:w4.heap.size≠g6:=fun e=>by have h1:=HS.o;rw[e,bu.o] at h1;simp at h1
     have HS:=hd_ (HH.o _ _ n3 HS.o);have BN:=hd_ (HH.o _ _ n2 BN.o);have X1:=hd_ (HX.o _ _ _ X1.o);have X2:=hd_ (HX.o _ _ _ X2.o);have E1:=hd_ (HX.o _ _ _ E1.o);have E2:=hd_ (HX.o _ _ _ E2.o);have DD:=hd_ (DD.o.trans (D9.o.mono Na.o));clear n1 n2 n3 bu HX HH D9 Fv Dy R0 nr an Na;have nO:=hd_ (fun W r2 s2 (hW:Bw_ wc W) (k2:IsX W r2 s2 1)=>Zny W q.num q.den at_ xa ra xb r2 xc rc xd s2 (E1.o.below hW nr_) (E2.o.below hW nr_) (R1.o.below hW nr_) k2 MR.o La.o lG.o);have iF:Qx (q.den*1):=by rw[Nat.mul_one];exact lG.o
     have Jb:=hd_ (fun W r1 s1 r2 s2 (hW:Bw_ wc W) (k1:IsX W r1 s1 (q.num*(at_:Int)).natAbs) (k2:IsX W r2 s2 (q.den*1))=>Qav W z (q.num*(at_:Int)) d (q.den*1) sa r1 sb r2 sc s1 sd s2 (X1.o.below hW nr_) k1 (X2.o.below hW nr_) k2 Lz.o Lq.o Ld.o iF MP.o MQ.o);unfold Zes frX at Jb;generalize Ztt (z,d) (q.num*(at_:Int),q.den*1)=zd at *;obtain⟨z',d'⟩:=zd
     dsimp only at Jb
     generalize q.num*(at_:Int)=qa at *;generalize q.den*1=qd at *;generalize hzs:decide (z<0)=sz at *;generalize decide (q.num<0)=sq at *;generalize decide (qa<0)=sqa at *;clear Lz Lq Ld iF MP MQ E1 E2 R1 X1 X2 La MR lG;obtain⟨k0,k1,k2,-⟩:=Kf HS.o;obtain⟨k3,k4,k5,-⟩:=Kf BN.o;obtain⟨k6,k7,-,-⟩:=Ka M16.o;have q0:=NW.cell k0;have q1:=NW.cell k1;have q2:=NW.cell k2;have q3:=NW.cell k3;have q4:=NW.cell k4;have q5:=NW.cell k5;have q6:=NW.cell k6;have q7:=NW.cell k7;have gn:Nonempty (NW wc):=⟨⟨wc,Below.refl _ _⟩⟩;have I:Hid (Bw_ wc wc.drew):=(Below.refl _ _).drew;clear k0 k1 k2 k3 k4 k5 k6 k7;go_wp2_with fail;refine wn_ 7 [(1,0),(1,1),(1,2),(0,3),(2,4),(0,5),(0,6),(0,7)] I ?_;iterate 3 (refine wr_ rfl ?_;go_big_quiet_step (fail);refine wq_ ?_)
     refine wm_ rfl ?_;go_wp2_with fail;have JB:Hid (Bw_ wc (wc.drew.alloc (.cells #[.int .u32 1] 131))):=I.o.alloc I.o.size _;have T1:Hid (IsX (wc.drew.alloc (.cells #[.int .u32 1] 131)) (some ⟨wc.drew.heap.size,0,none⟩) 1 1):=IsX.one (Kj wc.drew #[.int .u32 1] 131 _ rfl);refine⟨⟨⟨_,JB.o⟩,rfl⟩,?_⟩;refine wa_ rfl ?_;go_big_quiet_step (fail);refine wq_ ?_;refine wm_ rfl ?_;go_wp2_with fail;refine cm_ (nO.o _ _ _ JB.o T1.o) ?_;rintro e_ y0 ⟨ra0,rc0,rb0,rd0,rfl,hi_,hj_,hb_⟩;have J0:Hid (Bw_ wc y0):=JB.o.trans (hb_.mono JB.o.size);have R0:=hd_ hi_;have R1:=hd_ hj_;clear hb_ hi_ hj_ nO T1 JB I;go_wp2_with fail;refine⟨⟨⟨_,J0.o⟩,rfl⟩,?_⟩;refine wm_ rfl ?_;go_wp2_with fail;refine cm_ (Jb.o _ _ _ _ _ J0.o R0.o R1.o) ?_;rintro e_ y1 ⟨ek,rc1,CY,rd1,rfl,hi_,hj_,hb_⟩;have J1:Hid (Bw_ wc y1):=J0.o.trans (hb_.mono J0.o.size);have Y1:=hd_ hi_;have Y2:=hd_ hj_;clear hb_ hi_ hj_ Jb R0 R1 J0;go_wp2_with fail;refine⟨⟨⟨_,J1.o⟩,rfl⟩,?_⟩;have HS:=hk_ HS J1.o;have DD:=bt_ DD J1.o;have GC:=Zbw HS.o;have LR:=hd_ (Zme (z' := .slice CY (wN d').length rd1) (Zl0 (x' := .bool (decide (z'<0))) (y' := .slice ek (wN z'.natAbs).length rc1) HS.o));have ph:=hd_ (((DD.o.setCell (p:=⟨w4.heap.size,0,none⟩) nr_ (.bool (decide (z'<0)))).setCell (p:=⟨w4.heap.size,1,none⟩) nr_ (.slice ek (wN z'.natAbs).length rc1)).setCell (p:=⟨w4.heap.size,2,none⟩) nr_ (.slice CY (wN d').length rd1));have Y3:=hd_ (Y1.o.set3 GC (.bool (decide (z'<0))) (.slice ek (wN z'.natAbs).length rc1) (.slice CY (wN d').length rd1));have Y4:=hd_ (Y2.o.set3 GC (.bool (decide (z'<0))) (.slice ek (wN z'.natAbs).length rc1) (.slice CY (wN d').length rd1));obtain⟨k0_,k1_,k2_,f_⟩:=Kf HS.o;have Et:=f_ 0;have Es:=f_ 1;have iz:=f_ 2;clear GC DD Y1 Y2 q0 q1 q2 q3 q4 q5 q6 q7;refine wm_ rfl ?_;go_wp2_with fail;simp only[RP.walkR];go_wp2_with fail
     go_roundw
     case rel=>exact⟨j+1,z',d',_,_,_,_,by omega,by go_num,IB,LO,LR.o,Y3.o,Y4.o,ph.o⟩
     case measure=>simp[intOf];omega
    ·obtain rfl:j=M:=by omega
     have gi:¬ (j:Int)<j:=by omega
     have e1:=HSum.o;rw[List.take_of_length_le (by rw[HM.o];exact Nat.le_refl _)] at e1;obtain⟨k0,k1,k2,-⟩:=Kf HS.o;have Fv:=hk_ NB D.o;obtain⟨n0,n1,n2,-⟩:=Kf Fv.o;have B5:=bt_ B0 D.o;have hL:=Zgi wr z sa sb sc d sd;unfold Kc frX at hL;have hR:∀ b,(decide (z=0)||(decide (z<0)==decide (sg<0)))=b->Zyp sg (Zdj sg n TT).1=b:=fun b h=>by rw[e1];exact h
     go_wp2_with fail;refine cm_ hL ?_;rintro e w6 ⟨rfl,hb⟩;have Ol:=hk_ Fv hb;have As:=hk_ HS hb;have B6:=bt_ B5 hb;obtain⟨k3,k4,k5,-⟩:=Kf As.o;obtain⟨n3,n4,n5,-⟩:=Kf Ol.o;clear k0 k1 k2 n0 n1 n2 hb hL
     by_cases hz:z=0
     ·rw[decide_eq_true hz] at hR ⊢;go_wp2_with fail;go_ret;exact⟨by rw[hR true rfl];rfl,B6.o⟩
     ·rw[decide_eq_false hz] at hR ⊢;go_wp2_with fail;go_ret;exact⟨by rw[hR _ rfl];rfl,B6.o⟩
theorem Zr7(w:World)(a0 a a3:OA_)(c0 c c3:Nat)(ps:List Int)(l:List Rat)(hp:Rd w a0 (Vk ps))(hr:Rd w a (Kk l))(hs:∀ p∈ps,p∈Vj)(ho:∀ i,0<i->i<ps.length->ps.getD (i-1) 0<ps.getD i 0)(h0:0<ps.length)(h6:ps.length<=6)(hl:l.length=ps.length)(hq:∀ q∈l,Sm 30 q)(hz:∀ q∈l,q.num=0):
  Kc Tryz.prog 18 #[.slice a0 ps.length c0,.slice a ps.length c,Ztx 0 0 a3 0 c3] w (.bool true):=by
 unfold Kc Ztx;have CV:=hd_ (fun W (hW:Bw_ w W)=>Zl8 W a0 a c0 c ps l (hp.below hW nr_) (hr.below hW nr_) hs ho h0 h6 hl hq);have CW:=hd_ (fun W (hW:Bw_ w W)=>Zmy W a c l (hr.below hW nr_) (fun q h=>(hq q h).le (by decide)) (by omega));rw[hl] at CV CW;have gq:=hd_ hl;have nM:Hid (∀ k,k<ps.length->(l.getD k 0).num=0):=fun k h=>by
  rw[Zbo l k 0 (by omega)];exact hz _ (List.getElem_mem _)
 clear hp hr hs ho hq hz;obtain⟨N,hN⟩:∃ N,ps.length=N:=⟨_,rfl⟩;have HN:=hd_ hN;rw[hN] at h0 h6 CV CW nM ⊢;clear hN hl;have NB:=hd_ (Kj w #[.int .i64 0,.int .i64 0,.slice a3 0 c3] 46 _ rfl);have B0:=hd_ ((Below.refl w.heap.size w).alloc nr_ (.cells #[.int .i64 0,.int .i64 0,.slice a3 0 c3] 46));go_enter Tryz.func18,Tryz.ntmps18;go_wp2_with fail;generalize w.alloc (.cells #[.int .i64 0,.int .i64 0,.slice a3 0 c3] 46)=W0 at *;refine cm_ (CV.o _ B0.o) ?_;rintro e w1 ⟨rfl,hb⟩;replace NB:=hk_ NB hb;replace B0:=bt_ B0 hb;clear hb CV;go_wp2_with fail;refine cm_ (CW.o _ B0.o) ?_;rintro e w2 ⟨r,rc,V,rfl,hO,hF,hb⟩;replace NB:=hk_ NB hb;replace B0:=bt_ B0 hb;have HO:=hd_ hO;have HF:=hd_ hF;clear hb CW hO hF;go_wp2_with fail
 go_loopw [9,29] (fun ov iv wr=>∃ k:Nat,k<=N/\ov = .slice none 0 0/\iv = .int .i64 k/\Hid (Bw_ w2 wr)) (fun _ iv _=>N-(intOf iv).toNat)
 case atStart=>exact⟨0,Nat.zero_le _,rfl,rfl,Below.refl _ _⟩
 case round =>
  obtain⟨k,hk,rfl,rfl,D⟩:=hrel
  by_cases H7:k<N
  ·obtain⟨gv,rfl,hrc,GX⟩:=Zhr HO.o D.o h0;obtain⟨xa,xc,xb,xd,v0,v1,v2,-,-⟩:=HF.o k (by rw[gq.o,HN.o];exact H7);have Ah:=GX (k*3) (by omega);have Ag:=GX (k*3+1) (by omega);have iB:=GX (k*3+2) (by omega);rw[v0] at Ah;rw[v1] at Ag;rw[v2] at iB;have HZ:=hd_ (fun W=>Zgi W (l.getD k 0).num xa xb xc (l.getD k 0).den xd);unfold frX at HZ;have hz:=nM.o k H7;have gi:(k:Int)<N:=by omega
   clear v0 v1 v2 GX;rw[hz] at HZ Ah Ag;generalize (l.getD k 0).den=d at *;generalize decide ((0:Int)<0)=s at *;generalize (wN (0:Int).natAbs).length=m1 at *;generalize (wN d).length=m2 at *;have gH:=(Below.refl wr.heap.size wr).alloc nr_ (.cells #[.bool s,.slice xa m1 xc,.slice xb m2 xd] 121);have iE:=hd_ (Kj wr #[.bool s,.slice xa m1 xc,.slice xb m2 xd] 121 _ rfl);obtain⟨k0,k1,k2,-⟩:=Kf iE.o;replace D:=bt_ D gH;clear gH iE;go_wp2_with fail;generalize wr.alloc (.cells #[.bool s,.slice xa m1 xc,.slice xb m2 xd] 121)=W1 at *;clear Ah Ag iB k0 k1 k2;refine cm_ (HZ.o W1) ?_;rintro e w3 ⟨rfl,hb⟩;replace D:=bt_ D hb;clear hb HZ;rw[decide_eq_true trivial];go_wp2_with fail;refine⟨⟨k+1,by omega,rfl,by go_num,D⟩,by simp[intOf];omega⟩
  ·obtain rfl:k=N:=by omega
   replace NB:=hk_ NB D.o;replace B0:=bt_ B0 D.o;obtain⟨n0,n1,n2,-⟩:=Kf NB.o;go_wp2_with fail;go_ret;exact⟨rfl,B0.o⟩
theorem Zys(k:Nat):((2:Int)^k)=((2^k:Nat):Int):=by rw[Int.natCast_pow];rfl
theorem Zz3{K m S:Nat}{T1 T0:Int}(Bp:S<=T1.natAbs)(hcut:(T1-m*T0).natAbs<=4*(K*m))(hT:T0.natAbs<=4*K)(FZ:4*(K*m)+m*(4*K)<S):False:=by
 have gS:=Zsp hcut hT;omega
theorem Qe7:4*(LN.KC*2^960)+2^960*(4*LN.KC)<LN.SC:=by decide +kernel
theorem Qdf{k:Nat}(hk:k<10){tl:List (Int×Int)}(h1:∀ x∈tl,x.1∈Ko k)(h0:∀ x∈tl,x.2≠0)(hd:(tl.map Prod.fst).Nodup)(GK:∀ x∈tl,x.2.natAbs<=LN.KC)(hl:tl.length<=4)(gj:tl≠[]):
  0<LN.eLo (lf 64) tl\/LN.eHi (lf 64) tl<0:=by
 have Bp:=Zog hk h1 hd h0 gj GK;have hcut:=Zp6 (n:=64) (d:=960) (K:=LN.KC) (by decide) tl (fun x hx=>Zax ((Zao k hk).1 _ (h1 x hx))) GK;obtain⟨n1,n2,n3,n4⟩:=Zws (lf 64) LN.KC tl GK;have hb:=Qe7;rw[show (64:Nat)+960=1024 from rfl] at hcut;have e2:((2:Int)^960)=((2^960:Nat):Int):=Zys 960;rw[e2] at hcut;generalize LN.KC=K at *;generalize LN.SC=S at *;generalize LN.sumT (lf 1024) tl=T1 at *;generalize (2:Nat)^960=m at *;refine Decidable.byContradiction fun hc=>?_
 have c1:LN.eLo (lf 64) tl<=0:=Int.not_lt.1 fun h=>hc (.inl h)
 have c2:0<=LN.eHi (lf 64) tl:=Int.not_lt.1 fun h=>hc (.inr h)
 have hW:tl.length*K<=4*K:=Nat.mul_le_mul_right _ hl;have ip:tl.length*(K*m)<=4*(K*m):=Nat.mul_le_mul_right _ hl;have hT:(LN.sumT (lf 64) tl).natAbs<=4*K:=by
  generalize LN.sumT (lf 64) tl=T0 at *;generalize LN.eLo (lf 64) tl=lo at *;generalize LN.eHi (lf 64) tl=hi at *;clear hcut Bp hb e2 ip;omega
 exact Zz3 Bp (Nat.le_trans hcut ip) hT hb
theorem Zyc{ps:List Int}(h:ps.length<=4)(l:List Rat):(tlQ ps l).length<=4:=Nat.le_trans (by have:=(Zbu (Ql l) ps l).length_le;rw[List.length_map] at this;exact this) h
theorem Qag{k:Nat}(hk:k<10){l:List Rat}(hs:Sml 960 12 l)(gj:tlQ (Ko k) l≠[]):Zat 64 (Ko k) l≠0:=by
 have hq:=(Zao k hk);have h:=Qdf hk (tl:=tlQ (Ko k) l) (fun x hx=>(Zac hx).1) (fun x hx=>Zp3 hx) (Zgu hq.2) (fun x hx=>Nat.le_trans (hs.kb (by decide) x hx) (by decide +kernel)) (Zyc (Zi6 k hk).2.1 l) gj;obtain⟨e1,e2⟩:=Zk3 64 (Ko k) l;unfold Zat;rcases h with h|h
 ·rw[if_pos (e1.2 (Int.le_of_lt h))];decide
 ·split
  ·decide
  ·rw[if_pos (e2.2 (Int.le_of_lt h))];decide
theorem Zum{sg:Int}{n:Nat}(hn:n<=64){T:List (Int×Rat)}(hT:∀ x∈T,x.1∈Vj/\Sm 30 x.2){G:Nat}(hG:2*10^55<=G):∀ j,j<=T.length->SmX G sg n j (T.take j) (Zdj sg n (T.take j))
 | 0,_=>Zqb G sg n
 | j+1,h=>by
  have ih:=Zum (sg:=sg) hn hT hG j (by omega);have hx:=hT _ (List.getElem_mem (show j<T.length by omega));rw[List.take_succ_eq_append_getElem (show j<T.length by omega)];exact(Zqc (A:=10^30) (C:=10^25) (Q:=10^55) ih (Nat.le_of_lt hx.2.1) (Nat.le_trans (Nat.le_of_lt hx.2.2) (by decide)) (Qdv hx.1 hn) (by decide) (by decide) hG).1
theorem Qca{sg:Int}{n:Nat}(hn:n<=64){ps:List Int}{l:List Rat}(hp:∀ p∈ps,p∈Vj)(hl:∀ q∈l,Sm 30 q):∃ G k,SmX G sg n k (nzL ps l) (Zdj sg n (nzL ps l)):=by
 obtain⟨G,hG⟩:∃ G:Nat,2*10^55<=G:=⟨_,Nat.le_refl _⟩;have h:=Zum (sg:=sg) hn (T:=nzL ps l) (fun x hx=>⟨hp _ (Zkn hx).1,hl _ (Zkn hx).2.1⟩) hG _ nr_;rw[List.take_length] at h;exact⟨G,_,h⟩
theorem Zq9(n:Nat):∀ (ps:List Int) (l:List Rat),loE n ps (l.map fun x => -x) = - hiE n ps l/\hiE n ps (l.map fun x => -x) = - loE n ps l
 | [],_=>by simp[loE,hiE]
 | _::_,[]=>by simp[loE,hiE]
 | p::ps,c::l=>by
  obtain⟨i1,i2⟩:=Zq9 n ps l;have fB:=Za9 p n;simp only[List.map_cons,loE,hiE];rw[i1,i2];rcases Decidable.em (c<0) with hc|hc
  ·obtain⟨m1,m2⟩:=Zds fB hc;obtain⟨m3,m4⟩:=Za1 fB (show (0:Rat) <= -c by grind);rw[m1,m2,m3,m4];constructor<;>grind
  ·have hc:=Rat.not_lt.1 hc;obtain⟨m1,m2⟩:=Za1 fB hc;rcases Decidable.em (c=0) with h0|h0
   ·obtain⟨m3,m4⟩:=Za1 fB (show (0:Rat) <= -c by grind);rw[m1,m2,m3,m4,h0];constructor<;>grind
   ·obtain⟨m3,m4⟩:=Zds fB (show -c<0 by grind);rw[m1,m2,m3,m4];constructor<;>grind
theorem Zrl(n:Nat):∀ (ps:List Int) (l:List Rat),Zdl n ps (l.map fun x => -x)=Zdl n ps l
 | [],_=>by simp[Zdl]
 | _::_,[]=>by simp[Zdl]
 | p::ps,c::l=>by
  have ih:=Zrl n ps l;unfold Zdl at ih ⊢;rw[List.map_cons,List.zip_cons_cons,List.zip_cons_cons,List.filterMap_cons,List.filterMap_cons,ih];have e:(-c).num=0↔c.num=0:=by rw[Rat.num_eq_zero,Rat.num_eq_zero];constructor<;>intro h<;>grind
  by_cases h:c.num=0
  ·rw[if_pos h,if_pos (e.2 h)]
  ·rw[if_neg h,if_neg (fun h'=>h (e.1 h'))]
theorem Qad{la lb:List Rat}(h:la.length=lb.length):Ze9 lb la=(Ze9 la lb).map fun x => -x:=by
 refine List.ext_getElem (by simp[Zcg,h]) fun i h1 h2=>?_
 have i1:i<la.length:=by simp[Zcg,h] at h2;omega
 rw[Zk7 lb la i (by omega) i1 h1,List.getElem_map,Zk7 la lb i i1 (by omega)]
 grind
theorem Zsf:∀ k,k<10->∀ i,i<4->0<i->i<(Ko k).length->(Ko k).getD (i-1) 0<(Ko k).getD i 0:=by decide +kernel
structure TcF (ps:List Int) (d d':List Rat) (sg:Int) (n:Nat):Prop where
 le:n<=64
 at_:Za8 (fun b=>Zat b ps d != 0) n
 dec:Zat n ps d=sg
 sz:LN.sz ps d=sg
 pm:sg=1\/sg = -1
 res:Zyp sg (Zdj sg n (nzL ps d)).1=true
 bnd:Zdl n ps d'=Zdl n ps d
 no:Zyp (-sg) (Zdj (-sg) n (nzL ps d)).1=false
 back:Zyp (-sg) (Zdj (-sg) n (nzL ps d')).1=true
 decb:Zat n ps d' = -sg
 any':d'.any nzQ=true
 ne:0<(nzL ps d).length
 ne':0<(nzL ps d').length
 en:Zat 1000 ps d≠0
 up:∀ b,b<1000->(Zat b ps d != 0)=true->(Zat (b+1) ps d != 0)=true
theorem Zkm{ps:List Int}{l:List Rat}(hl:l.length=ps.length)(h:l.any nzQ=true):0<(nzL ps l).length:=by
 obtain⟨q,hq,h0⟩:=List.any_eq_true.1 h;obtain⟨i,hi,rfl⟩:=List.mem_iff_getElem.1 hq;refine List.length_pos_of_mem (a:=(ps[i],l[i])) ?_;unfold nzL;refine List.mem_filter.2 ⟨?_,?_⟩
 ·rw[List.mem_iff_getElem];exact⟨i,by rw[List.length_zip];omega,List.getElem_zip⟩
 ·have h1:=(Zg9 _).1 h0;simp[h1]
theorem Qdy(l:List Rat):(l.map fun x => -x).any nzQ=l.any nzQ:=by
 rw[List.any_map];congr 1
 funext q
 show nzQ (-q)=nzQ q
 have h1:=Zg9 q;have h2:=Zg9 (-q);cases h:nzQ q<;>cases h':nzQ (-q)<;>simp_all<;>grind
theorem tcF{k:Nat}(hk:k<10){d d':List Rat}(ic:d'=d.map fun x => -x)(hl:d.length=(Ko k).length)(hs:Sml 960 12 d)(hs30:∀ q∈d,Sm 30 q)(hs30':∀ q∈d',Sm 30 q)(hnz:d.any nzQ=true):∃ (sg:Int) (n:Nat),TcF (Ko k) d d' sg n:=by
 have Eb:=Zao k hk;obtain⟨q,hq,Cu⟩:=List.any_eq_true.1 hnz;have gj:tlQ (Ko k) d≠[]:=Qen hl ⟨q,hq,(Zg9 q).1 Cu⟩;have GL:=Qag hk hs gj;have gW:∀ p∈Ko k,p∈Zia:=fun p hp=>Zax (Eb.1 p hp)
 have Cp:∀ b,b<1000->(Zat b (Ko k) d != 0)=true->(Zat (b+1) (Ko k) d != 0)=true:=fun b hb h=>by
  rw[bne_iff_ne] at h ⊢;exact Zpg gW (by omega) h
 have eM:(Zat 1000 (Ko k) d != 0)=true:=by
  have h:=Zpz Cp 936 64 (by decide) (by rw[bne_iff_ne];exact GL);exact h
 obtain⟨n,hN⟩:=Zm0 (T:=fun b=>Zat b (Ko k) d != 0) eM;have hn:n<=64:=by
  refine Nat.not_lt.1 fun h=>?_
  have h2:=Zpz Cp (n-1-64) 64 (by have:=hN.le;omega) (by rw[bne_iff_ne];exact GL);rw[show 64+(n-1-64)=n-1 by omega] at h2;rcases hN.low with h3|h3
  ·omega
  ·rw[h2] at h3;cases h3
 have dC:Zat n (Ko k) d≠0:=by have:=hN.at_;rw[bne_iff_ne] at this;exact this
 have db:Zat n (Ko k) d=LN.sz (Ko k) d:=Zw3 (by omega) gW Eb.2 gj dC;have Gw:Zdl n (Ko k) d'=Zdl n (Ko k) d:=by rw[ic];exact Zrl ..
 have EY:d'.any nzQ=true:=by rw[ic,Qdy];exact hnz
 have di:d'.length=(Ko k).length:=by rw[ic,List.length_map];exact hl
 obtain⟨e1,e2⟩:=Zq9 n (Ko k) d;rw[<- ic] at e1 e2;have hS:∀ (c:List Rat) (sg:Int),(∀ q∈c,Sm 30 q)->∃ G k',SmX G sg n k' (nzL (Ko k) c) (Zdj sg n (nzL (Ko k) c)):=fun c sg h=>Qca hn Eb.1 h
 obtain⟨G1,k1,S1⟩:=hS d 1 hs30;obtain⟨G2,k2,S2⟩:=hS d (-1) hs30;obtain⟨G3,k3,S3⟩:=hS d' 1 hs30';obtain⟨G4,k4,S4⟩:=hS d' (-1) hs30';have r1:=Zqh S1;have r2:=Zqi S2;have r3:=Zqh S3;have r4:=Zqi S4;have lD:0<=loE n (Ko k) d->hiE n (Ko k) d<=0->False:=fun a b=>by
  have x1:=Zqx (n:=n) (by omega) gW Eb.2 gj a;have x2:=Zq3 (n:=n) (by omega) gW Eb.2 gj b;rw[x1] at x2;cases x2
 rw[e1] at r3;rw[e2] at r4
 by_cases Fb:0<=loE n (Ko k) d
 ·have eI:Zat n (Ko k) d=1:=by unfold Zat;rw[if_pos Fb]
  have dQ:¬ hiE n (Ko k) d<=0:=lD Fb;have Dq:Zat n (Ko k) d' = -1:=by
   unfold Zat;rw[e1,e2,if_neg (by grind),if_pos (by grind)]
  refine⟨1,n,hn,hN,eI,by rw[<- db,eI],.inl rfl,?_,Gw,?_,?_,Dq,EY,Zkm hl hnz,Zkm di EY,by rw[bne_iff_ne] at eM;exact eM,Cp⟩
  ·rw[r1,decide_eq_true Fb]
  ·rw[r2,decide_eq_false dQ]
  ·rw[r4,decide_eq_true (by grind)]
 ·have dQ:hiE n (Ko k) d<=0:=by
   refine Decidable.byContradiction fun h=>dC ?_
   unfold Zat;rw[if_neg Fb,if_neg h]
  have eI:Zat n (Ko k) d = -1:=by unfold Zat;rw[if_neg Fb,if_pos dQ]
  have Dq:Zat n (Ko k) d'=1:=by
   unfold Zat;rw[e1,if_pos (by grind)]
  refine⟨-1,n,hn,hN,eI,by rw[<- db,eI],.inr rfl,?_,Gw,?_,?_,Dq,EY,Zkm hl hnz,Zkm di EY,by rw[bne_iff_ne] at eM;exact eM,Cp⟩
  ·rw[r2,decide_eq_true dQ]
  ·rw[Int.neg_neg,r1,decide_eq_false Fb]
  ·rw[Int.neg_neg,r3,decide_eq_true (by grind)]
theorem Zzp(w:World)(L:Qe w):Kc Tryz.prog 48 #[] w (.bool true):=by
 have h:=Zzq w L;unfold Kc at *
 go_enter Tryz.func48,Tryz.ntmps48;go_wp2_with fail;refine cm_ h ?_;rintro e w1 ⟨rfl,hb⟩;go_wp2_with fail;go_ret;exact⟨rfl,hb⟩
theorem Zzo(w:World)(L:Qe w):Kc Tryz.prog 9 #[] w (.bool true):=by
 have h:=Zs0 w L;have h2:=hd_ (fun W (hW:Bw_ w W)=>Zzp W (L.below hW));unfold Kc at *
 go_enter Tryz.func9,Tryz.ntmps9;go_wp2_with fail;refine cm_ h ?_;rintro e w1 ⟨rfl,hb⟩;have Gw:=hd_ hb;clear hb;go_wp2_with fail;refine cm_ (h2.o _ Gw.o) ?_;rintro e w2 ⟨rfl,HU⟩;go_wp2_with fail;go_ret;exact⟨rfl,Gw.o.trans (HU.mono Gw.o.size)⟩
theorem Zof:∀ k,k<10->∀ p∈Ko k,p=p.toNat/\(p.toNat=2\/p.toNat∈Zbv):=by decide +kernel
theorem Zaj{P:Program}{W:World}{ops:Array Oper}{rest:List Oper}{o:Oper}{a:Act}{Q:Exit->Act->World->Prop}(Ce:o.guard=none)(s x:Operand)(t:TypeId)
  (ho:o.op = .call { callee := .builtin .append,args := #[s,x],argTypes := #[t,t] })
  {e:TypeId} {z:Value} {size bytes:Nat} (E:Zal P t e z size bytes)
  (v:Value) (m:Nat) (news:List Value) (hs:a.eval s=v) (hx:a.eval x = .slice (some ⟨W.heap.size,0,none⟩) m m)
  {base n:Nat} {xs:List Value} (gk:W.ownsRow base e size v n xs) (hbase:base<=W.heap.size)
  (hl:news.length=m*size) (h1:∀ u∈news,u.oneCell'=true) (h63:n+m<=4611686018427387904) (hbytes:(n+m)*bytes<=140737488355328)
  (h:∀ v' w',w'.ownsRow base e size v' (n+m) (xs++news)->(W.alloc (.cells news.toArray e)).grownBy w' v.ownBlock->(v'.ownBlock=v.ownBlock\/v'.ownBlock=some (W.alloc (.cells news.toArray e)).heap.size)->wpList P ops Q rest (a.put o.dst v') w') :
  wpList P ops Q (o::rest) a (W.alloc (.cells news.toArray e)):=by
 obtain⟨i,hi,hz,hsize,hby⟩:=E.info;refine wpList_append_own_at _ Ce s x t ho base e i z size bytes E.ht hi hz hsize hby E.hzs E.pos v n xs hs (gk.alloc _) ⟨W.heap.size,0,none⟩ m m news hx hl ?_ h1 (by unfold maxLen;omega) hbytes (by simp;omega) fun v' w' a b _ d=>h v' w' a b d
 intro j u hj;have FE:(⟨W.heap.size,0,none⟩:Addr).add j=⟨W.heap.size,j,none⟩:=by unfold Addr.add;split<;>simp_all
 rw[FE,cell_of_row _ W.heap.size j _ e (0,0) (heap_alloc_new W _)]
 simpa using hj
def Zi4 (nu:Nat->Int) (m:Nat):List Int:=(List.range m).map fun i=>(nu i).tmod 41
theorem Zdr(nu:Nat->Int)(m:Nat):(Zi4 nu m).length=m:=by simp[Zi4]
theorem Zu5(nu:Nat->Int)(m:Nat):Zi4 nu (m+1)=Zi4 nu m++[(nu m).tmod 41]:=by simp[Zi4,List.range_succ]
theorem Zu6(nu:Nat->Int)(m:Nat):∀ x∈Zi4 nu m,-40<=x/\x<=40:=by
 intro x hx;obtain⟨i,_,rfl⟩:=List.mem_map.1 hx;have t1:=Int.tmod_lt_of_pos (nu i) (show (0:Int)<41 by decide);have t2:=Int.lt_tmod_of_pos (nu i) (show (0:Int)<41 by decide);omega
def Yt (l:List Int):List Rat:=l.map fun x:Int=>(x:Rat)
theorem Yc(l:List Int):(Yt l).length=l.length:=by simp[Yt]
def Zrr (w:World) (nu:Nat->Int) (m:Nat) (e:Ending) (w':World):Prop :=
 ∃ a c a' c',e = .returned (.tuple #[.slice a m c,.slice a' m c'])/\Rd w' a (Vk (Zi4 nu m))/\Rd w' a' (Kk (Yt (Zi4 nu m)))/\Bw_ w w'
theorem Zft(w:World)(a0:OA_)(c0 m:Nat)(hm:m<=4)(nu:Nat->Int)(de:Nat->Nat)(hn:∀ k,-128<=nu k/\nu k<=127)(L:Qe w):
  Calls Tryz.prog 11 #[.slice a0 m c0,.agg (Zmn nu de)] w (Zrr w nu m):=by
 have HF:Hid (∀ W (z:Int),-40<=z->z<=40->Bw_ w W->Kc Tryz.prog 49 #[.int .i64 z,.int .i64 1] W (fr (z:Rat))):=fun W z h1 h2 hW=>by
  have:=Zig W z 1 (by omega) (by omega) (by decide) (by decide) (L.below hW)
  rw[Rat.mkRat_one] at this;exact this
 unfold fr fv at HF;have B0:Hid (Bw_ w (((w.alloc (.cells #[.int .i8 (nu 0),.int .u8 (de 0),.int .i8 (nu 1),.int .u8 (de 1),.int .i8 (nu 2),.int .u8 (de 2),.int .i8 (nu 3),.int .u8 (de 3)] 26)).alloc (.cells #[] 3)).alloc (.cells #[] 101))):=(((Below.refl w.heap.size w).alloc nr_ _).alloc (by simp) _).alloc (by simp;omega) _;have K0:Hid ((((w.alloc (.cells #[.int .i8 (nu 0),.int .u8 (de 0),.int .i8 (nu 1),.int .u8 (de 1),.int .i8 (nu 2),.int .u8 (de 2),.int .i8 (nu 3),.int .u8 (de 3)] 26)).alloc (.cells #[] 3)).alloc (.cells #[] 101)).heap[w.heap.size]?=some (.cells #[.int .i8 (nu 0),.int .u8 (de 0),.int .i8 (nu 1),.int .u8 (de 1),.int .i8 (nu 2),.int .u8 (de 2),.int .i8 (nu 3),.int .u8 (de 3)] 26 (0,0))):=Ki (Ki (Kj w #[.int .i8 (nu 0),.int .u8 (de 0),.int .i8 (nu 1),.int .u8 (de 1),.int .i8 (nu 2),.int .u8 (de 2),.int .i8 (nu 3),.int .u8 (de 3)] 26 _ rfl) _) _;have O1:Hid ((((w.alloc (.cells #[.int .i8 (nu 0),.int .u8 (de 0),.int .i8 (nu 1),.int .u8 (de 1),.int .i8 (nu 2),.int .u8 (de 2),.int .i8 (nu 3),.int .u8 (de 3)] 26)).alloc (.cells #[] 3)).alloc (.cells #[] 101)).ownsRow (w.heap.size+1) 3 1 (.slice (some ⟨w.heap.size+1,0,none⟩) 0 0) 0 (Vk (Zi4 nu 0))):=by
  have h:=World.ownsRow_made (w.alloc (.cells #[.int .i8 (nu 0),.int .u8 (de 0),.int .i8 (nu 1),.int .u8 (de 1),.int .i8 (nu 2),.int .u8 (de 2),.int .i8 (nu 3),.int .u8 (de 3)] 26)) (base:=w.heap.size+1) (e:=3) (size:=1) #[] 0 (by simp) (by decide) rfl;rw[World.size_alloc] at h;exact h.alloc _
 have O2:Hid ((((w.alloc (.cells #[.int .i8 (nu 0),.int .u8 (de 0),.int .i8 (nu 1),.int .u8 (de 1),.int .i8 (nu 2),.int .u8 (de 2),.int .i8 (nu 3),.int .u8 (de 3)] 26)).alloc (.cells #[] 3)).alloc (.cells #[] 101)).ownsRow (w.heap.size+1) 101 2 (.slice (some ⟨w.heap.size+2,0,none⟩) 0 0) 0 (Kk (Yt (Zi4 nu 0)))):=by
  have h:=World.ownsRow_made ((w.alloc (.cells #[.int .i8 (nu 0),.int .u8 (de 0),.int .i8 (nu 1),.int .u8 (de 1),.int .i8 (nu 2),.int .u8 (de 2),.int .i8 (nu 3),.int .u8 (de 3)] 26)).alloc (.cells #[] 3)) (base:=w.heap.size+1) (e:=101) (size:=2) #[] 0 (by simp) (by decide) rfl;rw[World.size_alloc,World.size_alloc] at h;exact h
 have N0:Hid ((Value.slice (some ⟨w.heap.size+1,0,none⟩) 0 0).ownBlock≠(Value.slice (some ⟨w.heap.size+2,0,none⟩) 0 0).ownBlock):=by
  show _≠_
  simp[Value.ownBlock]
 have Hn:=hd_ hn;clear L hn;unfold Zmn;go_enter Tryz.func11,Tryz.ntmps11;go_wp2_with fail;generalize ((w.alloc (.cells #[.int .i8 (nu 0),.int .u8 (de 0),.int .i8 (nu 1),.int .u8 (de 1),.int .i8 (nu 2),.int .u8 (de 2),.int .i8 (nu 3),.int .u8 (de 3)] 26)).alloc (.cells #[] 3)).alloc (.cells #[] 101)=W0 at *
 go_loopw [6,7,8] (fun o1 o2 i wr=>∃ (k:Nat) (b1 b2:OA_) (d1 d2:Nat),k<=m/\i = .int .i64 k/\o1 = .slice b1 k d1/\o2 = .slice b2 k d2/\Hid (wr.heap[w.heap.size]?=some (.cells #[.int .i8 (nu 0),.int .u8 (de 0),.int .i8 (nu 1),.int .u8 (de 1),.int .i8 (nu 2),.int .u8 (de 2),.int .i8 (nu 3),.int .u8 (de 3)] 26 (0,0)))/\Hid (wr.ownsRow (w.heap.size+1) 3 1 (.slice b1 k d1) k (Vk (Zi4 nu k)))/\Hid (wr.ownsRow (w.heap.size+1) 101 2 (.slice b2 k d2) k (Kk (Yt (Zi4 nu k))))/\Hid ((Value.slice b1 k d1).ownBlock≠(Value.slice b2 k d2).ownBlock)/\Hid (Bw_ w wr)) (fun _ _ i _=>m-(intOf i).toNat)
 case atStart=>exact⟨0,_,_,_,_,Nat.zero_le _,rfl,rfl,rfl,K0,O1,O2,N0,B0⟩
 case round =>
  clear B0 K0 O1 O2 N0;obtain⟨k,b1,b2,d1,d2,hk,rfl,rfl,rfl,K,O1,O2,NE,B⟩:=hrel
  by_cases H7:k<m
  ·have gi:(k:Int)<m:=by omega
   have F9:Int.tmod (k:Int) 4=k:=by rw[Int.tmod_eq_emod_of_nonneg (by omega)];omega
   obtain⟨x0,x1⟩:=Zoh (nu:=nu) (de:=de) K.o k (by omega);have JP:(0:Int)<=k/\(k:Int)<4:=⟨by omega,by omega⟩;have Hs:=hd_ (Zu5 nu k);have t1:=Int.tmod_lt_of_pos (nu k) (show (0:Int)<41 by decide);have t2:=Int.lt_tmod_of_pos (nu k) (show (0:Int)<41 by decide);have pI:=Hn.o k;have hw:wrap64 ((nu k).tmod 41)=(nu k).tmod 41:=IntWalk.wrap64_in _ ⟨by omega,by omega⟩;generalize nu k=y at *;generalize de k=y2 at *
   go_wp2_with (at_builtin;refine Zaj rfl (.tmp 25) (.tmp 27) 33 rfl Qgu _ 1 [.int .i64 (y.tmod 41)] rfl rfl O1.o (by have:=B.o.size;have:=(Array.getElem?_eq_some_iff.1 K.o).1;omega) rfl (by simp[Value.oneCell']) (by omega) (by omega) ?_)
   intro v1 w1 GA GE hat1;have Ge:w.heap.size<wr.heap.size:=(Array.getElem?_eq_some_iff.1 K.o).1;have B1:Hid (Bw_ w w1):=(B.o.alloc B.o.size _).grown GE (by rw[World.size_alloc];omega) (fun j hj=>by have:=(O1.o.lt j hj).1;omega);have K1:Hid (w1.heap[w.heap.size]?=some (.cells #[.int .i8 (nu 0),.int .u8 (de 0),.int .i8 (nu 1),.int .u8 (de 1),.int .i8 (nu 2),.int .u8 (de 2),.int .i8 (nu 3),.int .u8 (de 3)] 26 (0,0))):=by
    show _=_
    rw[GE.block _ (by rw[World.size_alloc];omega) (fun e=>by have:=(O1.o.lt _ e.symm).1;omega)];exact Ki K.o _
   have P2:Hid (w1.ownsRow (w.heap.size+1) 101 2 (.slice b2 k d2) k (Kk (Yt (Zi4 nu k)))):=(O2.o.alloc _).kept GE (.inr (fun e=>NE.o e.symm));have lF:Hid (v1.ownBlock≠(Value.slice b2 k d2).ownBlock):=by
    rcases hat1 with h|h
    ·rw[h];exact NE.o
    ·rw[h];intro e;have:=(O2.o.lt _ e.symm).2
     omega
   have S1:Hid (w.heap.size+1<=w1.heap.size):=by
    have:=GE.size
    rw[World.size_alloc] at this
    show _<=_
    omega
   obtain⟨b3,d3,rfl⟩:=Qj GA;have P1:Hid (w1.ownsRow (w.heap.size+1) 3 1 (.slice b3 (k+1) d3) (k+1) (Vk (Zi4 nu k)++[.int .i64 (y.tmod 41)])):=GA;clear GA GE hat1 K O1 O2 NE B x0 x1 Ge;have Hf:=hd_ (HF.o w1 (y.tmod 41) (by omega) (by omega) B1.o);go_wp2_with fail;refine cm_ Hf.o ?_;rintro e w2 ⟨rfl,hb⟩;have B2:=bt_ B1 hb;have K2:=hk_ K1 hb;have Q1:=hd_ (Kv P1.o hb nr_);have Q2:=hd_ (Kv P2.o hb nr_);have S2:=hd_ (Nat.le_trans S1.o hb.size);clear hb Hf B1 K1 P1 P2 S1
   go_wp2_with (at_builtin;refine Zaj rfl (.tmp 29) (.tmp 32) 35 rfl elQ _ 1 [.string (itx ((y.tmod 41:Int):Rat).num),.string (dec ((y.tmod 41:Int):Rat).den)] rfl rfl Q2.o S2.o rfl (by simp[Value.oneCell']) (by omega) (by omega) ?_)
   intro v2 w3 hown2 hg2 hat2;have Ge:w.heap.size<w2.heap.size:=(Array.getElem?_eq_some_iff.1 K2.o).1;have B3:Hid (Bw_ w w3):=(B2.o.alloc B2.o.size _).grown hg2 (by rw[World.size_alloc];omega) (fun j hj=>by have:=(Q2.o.lt j hj).1;omega);have K3:Hid (w3.heap[w.heap.size]?=some (.cells #[.int .i8 (nu 0),.int .u8 (de 0),.int .i8 (nu 1),.int .u8 (de 1),.int .i8 (nu 2),.int .u8 (de 2),.int .i8 (nu 3),.int .u8 (de 3)] 26 (0,0))):=by
    show _=_
    rw[hg2.block _ (by rw[World.size_alloc];omega) (fun e=>by have:=(Q2.o.lt _ e.symm).1;omega)];exact Ki K2.o _
   have R1:Hid (w3.ownsRow (w.heap.size+1) 3 1 (.slice b3 (k+1) d3) (k+1) (Vk (Zi4 nu k)++[.int .i64 (y.tmod 41)])):=(Q1.o.alloc _).kept hg2 (.inr (fun e=>lF.o e));have Oj:Hid ((Value.slice b3 (k+1) d3).ownBlock≠v2.ownBlock):=by
    rcases hat2 with h|h
    ·rw[h];exact lF.o
    ·rw[h];intro e;have:=(Q1.o.lt _ e).2
     omega
   obtain⟨b4,d4,rfl⟩:=Qj hown2;have O3:Hid (w3.ownsRow (w.heap.size+1) 3 1 (.slice b3 (k+1) d3) (k+1) (Vk (Zi4 nu (k+1)))):=by
    rw[Hs.o,Zdu];exact R1.o
   have O4:Hid (w3.ownsRow (w.heap.size+1) 101 2 (.slice b4 (k+1) d4) (k+1) (Kk (Yt (Zi4 nu (k+1))))):=by
    rw[Hs.o];unfold Yt Kk;rw[List.map_append,List.map_append,Zlc];exact hown2
   clear hown2 hg2 hat2 B2 K2 Q1 Q2 S2 R1 lF Ge;go_wp2_with fail
   go_roundw
   case rel=>exact⟨k+1,b3,b4,d3,d4,by omega,by go_num,rfl,rfl,K3,O3,O4,Oj,B3⟩
   case measure=>simp[intOf];omega
  ·have gi:¬ (k:Int)<m:=by omega
   have m9:k=m:=by omega
   subst m9;have R1:=hd_ (Zqo O1.o);have R2:Hid (Rd wr b2 (Kk (Yt (Zi4 nu k)))):=by
    refine Zd0.rd (B:=w.heap.size+1) (c:=d2) (Zqp ?_);rw[Yc,Zdr];exact O2.o
   go_wp2_with fail
   go_ret2
   exact⟨b1,d1,b2,d2,rfl,R1.o,R2.o,B.o⟩
theorem Zmk{p n:Nat}(hp:p<=97):p^n<2^(7*n+1):=by
 have h1:p^n<=128^n:=Nat.pow_le_pow_left (by omega) n;rw[show (128:Nat)=2^7 from rfl,<- Nat.pow_mul] at h1;exact Nat.lt_of_le_of_lt h1 (Nat.pow_lt_pow_right (by decide) (by omega))
theorem Qgb(w:World)(p n:Nat)(dO:2<=p)(Gk:p<=97)(hn:n<=1000)(L:Qe w):Kc Tryz.prog 12 #[.string (dec p),.int .i64 n] w (.tuple #[.string (dec (p^n)),.int .i64 0]):=by
 unfold Kc;have hs:=Vm w p;rw[Kh,Int.natAbs_natCast,decide_eq_false (by omega)] at hs;have Hs:=hd_ hs;have Hp:Hid (∀ W,Bw_ w W->Kc Tryz.prog 51 #[.string (dec p),.int .i64 n] W (.tuple #[.string (dec (p^n)),.int .i64 0])):=fun W hW=>Zsg W p n dO Gk (by omega) (L.below hW)
 have hN:Num (p^n):=Ze (Zmk Gk) (by omega);have Hj:Hid (∀ W,Kc Tryz.prog 52 #[.bool false,.string (dec (p^n))] W (.string (dec (p^n)))):=fun W=>by
  have:=Qs W false (p^n) hN
  rw[show jz false (p^n)=((p^n:Nat):Int) from rfl,Kh] at this;exact this
 have hz:((dec p).size:Int)=1\/((dec p).size:Int)=2:=by
  have h1:(dec p).size<=2:=by rw[Vu _ _ (by omega)];omega
  have h2:=Zi p;rw[<- Kt] at h2;omega
 clear hs L hN;generalize dec (p^n)=s at *;generalize dec p=t at *;have h0:¬ (n:Int)<0:=by omega
 have h1:¬ (4000:Int)<n:=by omega
 have h2:¬ (2000:Int)<n:=by omega
 rcases hz with Ge|Ge
 all_goals
  go_enter Tryz.func12,Tryz.ntmps12;go_wp2_with fail;refine cm_ Hs.o ?_;rintro e w1 ⟨rfl,hb⟩;have B1:=hd_ hb;clear hb Hs;go_wp2_with fail;refine cm_ (Hp.o _ B1.o) ?_;rintro e w2 ⟨rfl,hb⟩;have B2:=bt_ B1 hb;clear hb Hp B1;go_wp2_with fail;refine cm_ (Hj.o _) ?_;rintro e w3 ⟨rfl,hb⟩;have B3:=bt_ B2 hb;clear hb Hj B2;go_wp2_with fail
  go_ret2
  exact⟨rfl,B3.o⟩
theorem Qaj(a b:Nat):Zfd (a:Int) (b:Int)=Vi a b:=by
 unfold Zfd Vi
 by_cases h1:a<b
 ·rw[if_pos h1,if_pos (by omega)]
 ·rw[if_neg h1,if_neg (by omega)]
  by_cases h2:a=b
  ·rw[if_pos h2,if_pos (by omega)]
  ·rw[if_neg h2,if_neg (by omega)]
theorem Qgw(W:World)(a b K:Nat)(hK:K<90000)(ha:a<2^K)(hb:b<2^K):Kc Tryz.prog 17 #[.string (dec a),.string (dec b)] W (.int .i64 (Vi a b)):=by
 have:=Zc1 W (a:Int) (b:Int) (Ze ha (by omega)) (Ze hb (by omega))
 rw[Kh,Kh,Qaj] at this;exact this
def Zw2 (x y:List Int):List Int:=List.zipWith (fun a b=>a-b) x y
theorem Zdw(x y:List Int)(h:x.length=y.length):(Zw2 x y).length=x.length:=by simp[Zw2,h]
theorem Zre(x y:List Int)(i:Nat)(h1:i<x.length)(h2:i<y.length)(h:i<(Zw2 x y).length):(Zw2 x y)[i]=x[i]-y[i]:=by simp[Zw2]
theorem Zw1(x y:List Int)(h:x.length=y.length):Ze9 (Yt x) (Yt y)=Yt (Zw2 x y):=by
 refine List.ext_getElem (by simp[Zcg,Yc,Zdw,h]) fun i h1 h2=>?_
 rw[Yc,Zdw _ _ h] at h2;rw[Zk7 (Yt x) (Yt y) i (by rw[Yc];exact h2) (by rw[Yc];omega) h1];simp only[Yt,List.getElem_map];rw[Zre x y i h2 (by omega),Rat.intCast_sub]
theorem Qep{ps:List Int}(hp:∀ p∈ps,0<p)(ks:List Int):LN.sz ps (Yt ks)=Vi (LN.upP ps ks) (LN.upP ps (ks.map fun k => -k)):=by
 have h:=LN.sz_prod hp (D:=1) (l:=Yt ks) (by decide) (fun q hq=>by
  obtain⟨k,_,rfl⟩:=List.mem_map.1 hq;rw[Rat.den_intCast];exact Nat.dvd_refl 1)
 have e:(Yt ks).map (LN.ex 1)=ks:=by
  rw[Yt,List.map_map];refine(List.map_congr_left (g:=id) fun k _=>?_).trans (List.map_id ks);exact Qbp k
 rw[h,e]
theorem Zp9{N:Nat}{x:List Int}(h:∀ k∈x,k.natAbs<=N):Sml (12*N) 12 (Yt x):=by
 intro q hq;obtain⟨k,hk,rfl⟩:=List.mem_map.1 hq;obtain⟨r1,r2⟩:=Zwo (M:=12) (q:=(k:Rat)) (12*k) (by decide) (by rw[Rat.intCast_mul];show (k:Rat)*12=12*(k:Rat);grind);refine⟨r1,?_⟩;rw[r2,Int.natAbs_mul];have:=h k hk
 show 12*k.natAbs<=12*N
 omega
theorem Zul{x:List Int}(h:∀ k∈x,k.natAbs<=80):∀ q∈Yt x,Sm 2 q:=by
 intro q hq;obtain⟨k,hk,rfl⟩:=List.mem_map.1 hq;have:=h k hk
 refine⟨?_,?_⟩
 ·rw[Rat.num_intCast];show k.natAbs<10^2;omega
 ·rw[Rat.den_intCast];decide
theorem Zow{w w':World}{a:OA_}{l:List Int}(h:Rd w a (Vk l))(hb:Bw_ w w')(h0:0<l.length):∃ b o,a=some ⟨b,o,none⟩/\∀ k (hk:k<l.length),w'.cell? ⟨b,o+k,none⟩=some (.int .i64 l[k]):=by
 obtain⟨b,o,rfl,hl,hc⟩:=h.open (by rw[Qp];omega);exact⟨b,o,rfl,fun k hk=>by rw[hb.cell (p:=⟨b,o+k,none⟩) hl];exact hc k _ (Ym l k hk)⟩
theorem Qcw(z:Int):max z (-z)=((z.natAbs:Nat):Int):=by omega
theorem Qe6(w:World)(pn:Nat)(nA:Nat->Int)(dA:Nat->Nat)(nB:Nat->Int)(dB:Nat->Nat)(hpn:pn<256)(hnA:∀ k,-128<=nA k/\nA k<=127)(hnB:∀ k,-128<=nB k/\nB k<=127)(L:Qe w):
  Kc Tryz.prog 3 #[.agg (Zyu pn nA dA nB dB)] w (.bool true):=by
 unfold Kc;have FV:pn%10<10:=Nat.mod_lt _ (by decide);have hp:=Zi6 (pn%10) FV;have Eb:=Zao (pn%10) FV;have mW:=Zof (pn%10) FV;have Cp:=Zsf (pn%10) FV;have Ms:=fun {d d':List Rat}=>@tcF (pn%10) FV d d'
 have Cl:=hd_ (fun W=>Zse W pn hpn);generalize Ko (pn%10)=ps at *;obtain⟨GG,hp4,dO,Gk⟩:=hp;obtain⟨fC,fk⟩:=Eb;have Gs:=Zr4 fC;have Dh:ps.length<=100:=by omega
 have hi:Zlo ps:=fun x hx=>by have:=Gk x hx;omega
 have HK:Hid (∀ W,Bw_ w W->Kc Tryz.prog 9 #[] W (.bool true)):=fun W hW=>Zzo W (L.below hW)
 have HA:Hid (∀ W a0 c0,Bw_ w W->Calls Tryz.prog 11 #[.slice a0 ps.length c0,.agg #[.int .i8 (nA 0),.int .u8 (dA 0),.int .i8 (nA 1),.int .u8 (dA 1),.int .i8 (nA 2),.int .u8 (dA 2),.int .i8 (nA 3),.int .u8 (dA 3)]] W (Zrr W nA ps.length)):=fun W a0 c0 hW=>Zft W a0 c0 ps.length hp4 nA dA hnA (L.below hW)
 have HB:Hid (∀ W a0 c0,Bw_ w W->Calls Tryz.prog 11 #[.slice a0 ps.length c0,.agg #[.int .i8 (nB 0),.int .u8 (dB 0),.int .i8 (nB 1),.int .u8 (dB 1),.int .i8 (nB 2),.int .u8 (dB 2),.int .i8 (nB 3),.int .u8 (dB 3)]] W (Zrr W nB ps.length)):=fun W a0 c0 hW=>Zft W a0 c0 ps.length hp4 nB dB hnB (L.below hW)
 unfold Zrr at HA HB;have ek:=Zdr nA ps.length;have CY:=Zdr nB ps.length;have cV:=Zu6 nA ps.length;have AD:=Zu6 nB ps.length;generalize Zi4 nA ps.length=xa at *;generalize Zi4 nB ps.length=xb at *;have AE:(Yt xa).length=ps.length:=by rw[Yc,ek]
 have Jf:(Yt xb).length=ps.length:=by rw[Yc,CY]
 have sa:∀ q∈Yt xa,Sm 2 q:=Zul fun k hk=>by have:=cV k hk;omega
 have sb:∀ q∈Yt xb,Sm 2 q:=Zul fun k hk=>by have:=AD k hk;omega
 have ma:Sml 480 12 (Yt xa):=Zp9 (N:=40) fun k hk=>by have:=cV k hk;omega
 have mb:Sml 480 12 (Yt xb):=Zp9 (N:=40) fun k hk=>by have:=AD k hk;omega
 have mH:Sml 960 12 (Ze9 (Yt xa) (Yt xb)):=Sml.comb (by decide) ma mb 1 (-1);have Ge:=Qep Gs (Zw2 xa xb);rw[<- Zw1 xa xb (by omega)] at Ge;have mJ:(Zw2 xa xb).length=ps.length:=by rw[Zdw _ _ (by omega),ek]
 have JL:∀ k (h1:k<xa.length) (h2:k<xb.length) (h3:k<(Zw2 xa xb).length),(Zw2 xa xb)[k]=xa[k]-xb[k]:=fun k h1 h2 h3=>Zre xa xb k h1 h2 h3
 generalize Yt xa=la at *;generalize Yt xb=lb at *;generalize Zw2 xa xb=ks at *;have Ga:∀ k∈ks,k<=((80:Nat):Int) /\ -k<=((80:Nat):Int):=fun z hz=>by
  obtain⟨i,h3,rfl⟩:=List.mem_iff_getElem.1 hz;rw[JL i (by omega) (by omega) h3];have h4:=cV _ (List.getElem_mem (show i<xa.length by omega));have h5:=AD _ (List.getElem_mem (show i<xb.length by omega));omega
 have sd:∀ q∈Ze9 la lb,Sm 30 q:=fun q hq=>(Zdx sa sb Zqa Zn2 q hq).le (by decide)
 have mF:∀ q∈Ze9 lb la,Sm 30 q:=fun q hq=>(Zdx sb sa Zqa Zn2 q hq).le (by decide)
 have aU:(Ze9 la lb).length=ps.length:=(Zcg la lb (by omega)).trans AE;have Gh:Ze9 lb la=(Ze9 la lb).map fun x => -x:=Qad (by omega)
 have f7:Hid (∀ (W:World) (a0 a1 a2:OA_) (c0 c1 c2:Nat),Bw_ w W->Rd W a0 (Vk ps)->Rd W a1 (Kk la)->Rd W a2 (Kk lb)->Calls Tryz.prog 16 #[.slice a0 ps.length c0,.slice a1 ps.length c1,.slice a2 ps.length c2] W fun e w'=>∃ a c,e = .returned (.tuple #[.slice a ps.length c,.int .i64 0])/\Rd w' a (Kk (Ze9 la lb))/\Bw_ W w'):=fun W a0 a1 a2 c0 c1 c2 hW r0 r1 r2 =>
  Zet.sub (w:=W) (s:=⟨#[]⟩) (t:=⟨#[]⟩) ⟨hi,GG,AE,Jf,sa,sb,by decide,by decide,L.below hW⟩ (Below.refl _ _) c0 c1 c2 r0 r1 r2
 have bW:∀ i,0<i->i<ps.length->ps.getD (i-1) 0<ps.getD i 0:=fun i h1 h2=>Cp i (by omega) h1 h2
 have h6:ps.length<=6:=by omega
 have AP:∀ p∈ps,∃ q:Nat,p=q/\(q=2\/q∈Zbv):=fun p hp=>⟨p.toNat,mW p hp⟩
 have gS:∃ (sg:Int) (m:Nat) (BL:List (Int×Int×ByteArray)),LN.sz ps (Ze9 la lb)=sg /\
   Hid (∀ (W:World) (a0 a1 a2:OA_) (c0 c1 c2:Nat),Bw_ w W->Rd W a0 (Vk ps)->Rd W a1 (Kk la)->Rd W a2 (Kk lb)->Qd5 15 #[.slice a0 ps.length c0,.slice a1 ps.length c1,.slice a2 ps.length c2] W sg m BL) /\
   Hid (∀ (W:World) (a0 a1 a3:OA_) (c0 c1 c3:Nat),Rd W a0 (Vk ps)->Rd W a1 (Kk (Ze9 la lb))->Rd W a3 (Yb BL)->Kc Tryz.prog 18 #[.slice a0 ps.length c0,.slice a1 ps.length c1,Ztx sg m a3 BL.length c3] W (.bool true)):=by
  cases hnz:(Ze9 la lb).any nzQ
  ·have gW:∀ q∈Ze9 la lb,q=0:=fun q hq=>by
    have h:=List.any_eq_false.1 hnz q hq
    by_cases e:q=0
    ·exact e
    ·exact absurd ((Zg9 q).2 e) h
   have fg:∀ q∈Ze9 la lb,q.num=0:=fun q hq=>by rw[gW q hq];rfl
   refine⟨0,0,[],LN.sz_zero Gs gW,fun W a0 a1 a2 c0 c1 c2 hW r0 r1 r2=>?_,fun W a0 a1 a3 c0 c1 c3 r0 r1 _=>?_⟩
   ·exact Zqq W a0 a1 a2 c0 c1 c2 ps.length (Ze9 la lb) _ _ [] (fun V hV=>f7.o V a0 a1 a2 c0 c1 c2 (bv_ hW hV) (r0.below hV nr_) (r1.below hV nr_) (r2.below hV nr_))
     (fun V a c hV r=>by
      unfold Qd5;refine cm_ (Zpc V a0 a c0 c ps (Ze9 la lb) (r0.below hV nr_) r hi aU Dh sd GG hnz (L.below (bv_ hW hV))) ?_;rintro e w' ⟨rfl,hb⟩;exact⟨none,0,rfl,.inl rfl,hb⟩)
   ·exact Zr7 W a0 a1 a3 c0 c1 c3 ps (Ze9 la lb) r0 r1 fC bW dO h6 aU sd fg
  ·obtain⟨sg,m,TC⟩:=Ms Gh aU mH sd mF hnz;refine⟨sg,m,Zdl m ps (Ze9 la lb),TC.sz,fun W a0 a1 a2 c0 c1 c2 hW r0 r1 r2=>?_,fun W a0 a1 a3 c0 c1 c3 r0 r1 r3=>?_⟩
   ·exact Zqq W a0 a1 a2 c0 c1 c2 ps.length (Ze9 la lb) _ _ _ (fun V hV=>f7.o V a0 a1 a2 c0 c1 c2 (bv_ hW hV) (r0.below hV nr_) (r1.below hV nr_) (r2.below hV nr_))
     (fun V a c hV r=>by
      unfold Qd5;refine cm_ (Znb V a0 a c0 c 30 ps (Ze9 la lb) (r0.below hV nr_) r hi aU Dh AP sd (by decide) GG hnz TC.en (L.below (bv_ hW hV))) ?_;rintro e w' ⟨m',a,c,rfl,hm,hr,hb⟩;obtain rfl:m'=m:=hm.uniq TC.up TC.at_;rw[TC.dec];exact⟨a,c,rfl,hr,hb⟩)
   ·have h:=Zur W a0 a1 a3 c0 c1 c3 m sg ps (Ze9 la lb) r0 r1 fC bW dO h6 aU sd TC.pm TC.le TC.ne r3;rw[TC.res] at h;exact h
 obtain⟨sg,m,BL,db,dW,bS⟩:=gS;rw[db] at Ge;obtain⟨K,hK⟩:∃ K:Nat,K=2200:=⟨_,rfl⟩;have My:K<40000:=by omega
 have iq:∀ (x y:List Int),(∀ p∈x,p∈ps)->x.length<=4->(∀ z∈y,z<=((80:Nat):Int))->LN.upP x y<2^K:=fun x y h1 h2 h3=>by
  have h:=LN.upP_le 80 x y (fun p hp=>by have:=Gk p (h1 p hp);omega) h3;refine Nat.lt_of_lt_of_le h ?_;refine Nat.le_trans (Nat.pow_le_pow_right (by decide) (show 2*80*x.length+1<=641 by omega)) ?_;rw[hK];exact Nat.le_of_lt (by decide +kernel)
 have IH:Hid (∀ W (p z:Int),p∈ps->z.natAbs<=80->Bw_ w W->Kc Tryz.prog 12 #[.string (itx p),.int .i64 ((z.natAbs:Nat):Int)] W (.tuple #[.string (dec (p.toNat^z.natAbs)),.int .i64 0])):=fun W p z h1 h2 hW=>by
  have h3:=Gk p h1;obtain⟨q,rfl⟩:=Int.eq_ofNat_of_zero_le (show 0<=p by omega);rw[Kh,Int.toNat_natCast];exact Qgb W q z.natAbs (by omega) (by omega) (by omega) (L.below hW)
 have AO:∀ (p z:Int),p∈ps->z.natAbs<=80->p.toNat^z.natAbs<2^K:=fun p z h1 h2=>by
  have h3:=Gk p h1;refine Nat.lt_of_lt_of_le (Zmk (n:=z.natAbs) (show p.toNat<=97 by omega)) (Nat.pow_le_pow_right (by decide) (by omega))
 have LZ:Hid (∀ W (x y:Nat),x<2^K->y<2^K->Bw_ w W->Kc Tryz.prog 14 #[.string (dec x),.string (dec y)] W (.string (dec (x*y)))):=fun W x y h1 h2 hW=>Qg4 W x y K My h1 h2 (L.below hW)
 have Ax:Hid (∀ W (p:Int),p∈ps->Bw_ w W->Kc Tryz.prog 13 #[.int .i64 p] W (.string (itx p))):=fun W p h1 hW=>Zaz W p (by have:=Gk p h1;omega) (by have:=Gk p h1;omega) (L.below hW)
 have bU:Hid (∀ W,Kc Tryz.prog 17 #[.string (dec (LN.upP ps ks)),.string (dec (LN.upP ps (ks.map fun k => -k)))] W (.int .i64 sg)):=fun W=>by
  rw[Ge];exact Qgw W _ _ K (by omega) (iq ps ks (fun _ h=>h) hp4 fun z hz=>(Ga z hz).1) (iq ps _ (fun _ h=>h) hp4 fun z hz=>by
   obtain⟨y,hy,rfl⟩:=List.mem_map.1 hz;exact(Ga y hy).2)
 have gA:∀ k (h1:k<ps.length) (h2:k<ks.length),LN.upP (ps.take (k+1)) (ks.take (k+1))=LN.upP (ps.take k) (ks.take k)*ps[k].toNat^ks[k].toNat/\LN.upP (ps.take (k+1)) ((ks.take (k+1)).map fun z => -z)=LN.upP (ps.take k) ((ks.take k).map fun z => -z)*ps[k].toNat^(-ks[k]).toNat:=fun k h1 h2=>by
  rw[List.take_succ_eq_append_getElem h1,List.take_succ_eq_append_getElem h2,List.map_append];exact⟨LN.upP_snoc _ _ _ _ (by simp;omega),LN.upP_snoc _ _ _ _ (by simp;omega)⟩
 have hZ:∀ k,LN.upP (ps.take k) (ks.take k)<2^K/\LN.upP (ps.take k) ((ks.take k).map fun z => -z)<2^K:=fun k =>
  ⟨iq _ _ (fun _ h=>List.mem_of_mem_take h) (by simp;omega) fun z hz=>(Ga z (List.mem_of_mem_take hz)).1,iq _ _ (fun _ h=>List.mem_of_mem_take h) (by simp;omega) fun z hz=>by
   obtain⟨y,hy,rfl⟩:=List.mem_map.1 hz;exact(Ga y (List.mem_of_mem_take hy)).2⟩
 have fR:=hd_ gA;have H6:=hd_ hZ;have nt:=hd_ JL;have iW:=hd_ AO;have iU:=hd_ cV;have iT:=hd_ AD;have Ci:=hd_ ek;have Ch:=hd_ CY;have DU:=hd_ mJ;clear gA hZ JL AO cV AD iq Ge db ek CY mJ Ga Ms Cp bW h6 AP Gh aU sd mF mH ma mb sa sb AE Jf Gs fC fk GG Gk Dh hi mW L FV hpn hnA hnB hK My;unfold Qd5 Ztx at dW;unfold Ztx at bS;generalize Ze9 la lb=ld at *;generalize Yb BL=cb at *;generalize BL.length=bn at *;obtain⟨n,hn⟩:∃ n,ps.length=n:=⟨_,rfl⟩;have Hn:=hd_ hn;rw[hn] at dO hp4 Cl HA HB dW bS f7 Ci Ch DU;clear hn;unfold Zyu;have B:=hd_ ((Below.refl w.heap.size w).alloc nr_ (.cells #[.int .u8 pn,.int .i8 (nA 0),.int .u8 (dA 0),.int .i8 (nA 1),.int .u8 (dA 1),.int .i8 (nA 2),.int .u8 (dA 2),.int .i8 (nA 3),.int .u8 (dA 3),.int .i8 (nB 0),.int .u8 (dB 0),.int .i8 (nB 1),.int .u8 (dB 1),.int .i8 (nB 2),.int .u8 (dB 2),.int .i8 (nB 3),.int .u8 (dB 3)] 28));have P0:Hid ((w.alloc (.cells #[.int .u8 pn,.int .i8 (nA 0),.int .u8 (dA 0),.int .i8 (nA 1),.int .u8 (dA 1),.int .i8 (nA 2),.int .u8 (dA 2),.int .i8 (nA 3),.int .u8 (dA 3),.int .i8 (nB 0),.int .u8 (dB 0),.int .i8 (nB 1),.int .u8 (dB 1),.int .i8 (nB 2),.int .u8 (dB 2),.int .i8 (nB 3),.int .u8 (dB 3)] 28)).heap[w.heap.size]?=some (.cells #[.int .u8 pn,.int .i8 (nA 0),.int .u8 (dA 0),.int .i8 (nA 1),.int .u8 (dA 1),.int .i8 (nA 2),.int .u8 (dA 2),.int .i8 (nA 3),.int .u8 (dA 3),.int .i8 (nB 0),.int .u8 (dB 0),.int .i8 (nB 1),.int .u8 (dB 1),.int .i8 (nB 2),.int .u8 (dB 2),.int .i8 (nB 3),.int .u8 (dB 3)] 28 (0,0))):=heap_alloc_new w _;go_enter Tryz.func3,Tryz.ntmps3;go_wp2_with fail;generalize w.alloc (.cells #[.int .u8 pn,.int .i8 (nA 0),.int .u8 (dA 0),.int .i8 (nA 1),.int .u8 (dA 1),.int .i8 (nA 2),.int .u8 (dA 2),.int .i8 (nA 3),.int .u8 (dA 3),.int .i8 (nB 0),.int .u8 (dB 0),.int .i8 (nB 1),.int .u8 (dB 1),.int .i8 (nB 2),.int .u8 (dB 2),.int .i8 (nB 3),.int .u8 (dB 3)] 28)=w0 at *;refine cm_ (HK.o _ B.o) ?_;rintro e_ w1 ⟨rfl,hb_⟩;replace B:=bt_ B hb_;replace P0:=hk_ P0 hb_;clear hb_ HK;have p0:w1.cell? ⟨w.heap.size,0,none⟩=some (.int .u8 pn):=by rw[cell_of_row _ _ _ _ _ _ P0.o];rfl
 go_wp2_with fail;clear p0;refine cm_ (Cl.o _) ?_;rintro e_ w2 ⟨gp,rfl,rp_,hb_⟩;replace B:=bt_ B hb_;replace P0:=hk_ P0 hb_;have Rp:=hd_ rp_;clear hb_ rp_ Cl;have p1:w2.cell? ⟨w.heap.size,1,none⟩=some (.int .i8 (nA 0)):=by rw[cell_of_row _ _ _ _ _ _ P0.o];rfl
 have p2:w2.cell? ⟨w.heap.size,2,none⟩=some (.int .u8 (dA 0)):=by rw[cell_of_row _ _ _ _ _ _ P0.o];rfl
 have p3:w2.cell? ⟨w.heap.size,3,none⟩=some (.int .i8 (nA 1)):=by rw[cell_of_row _ _ _ _ _ _ P0.o];rfl
 have p4:w2.cell? ⟨w.heap.size,4,none⟩=some (.int .u8 (dA 1)):=by rw[cell_of_row _ _ _ _ _ _ P0.o];rfl
 have p5:w2.cell? ⟨w.heap.size,5,none⟩=some (.int .i8 (nA 2)):=by rw[cell_of_row _ _ _ _ _ _ P0.o];rfl
 have p6:w2.cell? ⟨w.heap.size,6,none⟩=some (.int .u8 (dA 2)):=by rw[cell_of_row _ _ _ _ _ _ P0.o];rfl
 have p7:w2.cell? ⟨w.heap.size,7,none⟩=some (.int .i8 (nA 3)):=by rw[cell_of_row _ _ _ _ _ _ P0.o];rfl
 have p8:w2.cell? ⟨w.heap.size,8,none⟩=some (.int .u8 (dA 3)):=by rw[cell_of_row _ _ _ _ _ _ P0.o];rfl
 go_wp2_with fail;clear p1 p2 p3 p4 p5 p6 p7 p8;refine cm_ (HA.o _ _ _ B.o) ?_;rintro e_ w3 ⟨aa,ca,aq,cq,rfl,ra_,rq_,hb_⟩;replace B:=bt_ B hb_;replace Rp:=hd_ (Rp.o.below hb_ nr_);replace P0:=hk_ P0 hb_;have Xa:=hd_ ra_;have Ra:=hd_ rq_;clear hb_ ra_ rq_ HA;have p9:w3.cell? ⟨w.heap.size,9,none⟩=some (.int .i8 (nB 0)):=by rw[cell_of_row _ _ _ _ _ _ P0.o];rfl
 have Nt:w3.cell? ⟨w.heap.size,10,none⟩=some (.int .u8 (dB 0)):=by rw[cell_of_row _ _ _ _ _ _ P0.o];rfl
 have Ns:w3.cell? ⟨w.heap.size,11,none⟩=some (.int .i8 (nB 1)):=by rw[cell_of_row _ _ _ _ _ _ P0.o];rfl
 have Nr:w3.cell? ⟨w.heap.size,12,none⟩=some (.int .u8 (dB 1)):=by rw[cell_of_row _ _ _ _ _ _ P0.o];rfl
 have Nq:w3.cell? ⟨w.heap.size,13,none⟩=some (.int .i8 (nB 2)):=by rw[cell_of_row _ _ _ _ _ _ P0.o];rfl
 have Np:w3.cell? ⟨w.heap.size,14,none⟩=some (.int .u8 (dB 2)):=by rw[cell_of_row _ _ _ _ _ _ P0.o];rfl
 have No:w3.cell? ⟨w.heap.size,15,none⟩=some (.int .i8 (nB 3)):=by rw[cell_of_row _ _ _ _ _ _ P0.o];rfl
 have Nn:w3.cell? ⟨w.heap.size,16,none⟩=some (.int .u8 (dB 3)):=by rw[cell_of_row _ _ _ _ _ _ P0.o];rfl
 go_wp2_with fail;clear p9 Nt Ns Nr Nq Np No Nn;refine cm_ (HB.o _ _ _ B.o) ?_;rintro e_ w4 ⟨ab,cb_,bq,cbq,rfl,rb_,rq_,hb_⟩;replace B:=bt_ B hb_;replace Rp:=hd_ (Rp.o.below hb_ nr_);replace Xa:=hd_ (Xa.o.below hb_ nr_);replace Ra:=hd_ (Ra.o.below hb_ nr_);have Xb:=hd_ rb_;have Rb:=hd_ rq_;clear hb_ rb_ rq_ HB P0;go_wp2_with fail;have fw:(⟨#[49]⟩:ByteArray)=dec 1:=by
  have:(dec 1).data = #[49]:=by decide +kernel
  exact(ByteArray.ext this).symm
 go_loopw [8,9,10] (fun lv rv iv wr=>∃ k:Nat,k<=n/\lv = .string (dec (LN.upP (ps.take k) (ks.take k)))/\rv = .string (dec (LN.upP (ps.take k) ((ks.take k).map fun z => -z)))/\iv = .int .i64 k/\Hid (Bw_ w4 wr)) (fun _ _ iv _=>n-(intOf iv).toNat)
 case atStart=>exact⟨0,Nat.zero_le _,by rw[fw];simp[LN.upP],by rw[fw];simp[LN.upP],rfl,Below.refl _ _⟩
 case round =>
  obtain⟨k,hk,rfl,rfl,rfl,D⟩:=hrel
  by_cases H7:k<n
  ·have gi:(k:Int)<n:=by omega
   have FW:k<ps.length:=by rw[Hn.o];exact H7
   have GK:k<xa.length:=by rw[Ci.o];exact H7
   have Bj:k<xb.length:=by rw[Ch.o];exact H7
   have JP:k<ks.length:=by rw[DU.o];exact H7
   obtain⟨bp,op,e0,fc⟩:=Zow Rp.o D.o (by omega);obtain⟨ba,oa,rfl,gC⟩:=Zow Xa.o D.o (by omega);obtain⟨bb,ob,rfl,gR⟩:=Zow Xb.o D.o (by omega);simp only[Option.some.injEq,Addr.mk.injEq,and_true] at e0;obtain⟨rfl,rfl⟩:=e0;have d0:=fc k FW;rw[Nat.zero_add] at d0;have d1:=gC k GK;have d2:=gR k Bj;have hz:=nt.o k GK Bj JP;have hx:=iU.o _ (List.getElem_mem GK);have hy:=iT.o _ (List.getElem_mem Bj);have Jz:ps[k]∈ps:=List.getElem_mem FW;obtain⟨st1,st2⟩:=fR.o k FW JP;have CP:=hd_ st1;have CO:=hd_ st2;obtain⟨bd1,bd2⟩:=H6.o k;have LG:=hd_ bd1;have LF:=hd_ bd2;clear fc gC gR st1 st2 bd1 bd2;generalize ps[k]=p at *;generalize ks[k]=z at *;generalize xa[k]=x at *;generalize xb[k]=y at *;have Ji:z.natAbs<=80:=by omega
   generalize LN.upP (ps.take k) (ks.take k)=lf_ at *;generalize LN.upP (ps.take k) ((ks.take k).map fun z => -z)=rt_ at *;have q0:=NW.cell d1;have q1:=NW.cell d2;have gn:Nonempty (NW wr):=⟨⟨wr,Below.refl _ _⟩⟩;have I:Hid (Bw_ wr wr.drew):=(Below.refl _ _).drew;go_wp2_with fail;refine wn_ 9 [(1,0),(1,1),(1,2),(1,3),(1,4),(1,5),(1,6),(1,7),(1,8),(0,9)] I ?_;iterate 9 (refine wr_ rfl ?_;go_big_quiet_step (fail);refine wq_ ?_)
   refine wm_ rfl ?_;go_wp2_with fail;simp only[RP.walkR];replace D:=bt_ D I.o;have d0:=(I.o.cell (block_lt_of_cell d0)).trans d0;generalize wr.drew=wd at *;clear q0 q1 gn I d1 d2 hx hy;rw[<- hz];clear hz;go_wp2_with fail;clear d0;refine cm_ (Ax.o _ p Jz (bu_ B D.o)) ?_;rintro e_ w5 ⟨rfl,hb_⟩;replace D:=bt_ D hb_;clear hb_;have JC:=Qcw z;go_wp2_with fail;refine cm_ (IH.o _ p z Jz Ji (bu_ B D.o)) ?_;rintro e_ w6 ⟨rfl,hb_⟩;replace D:=bt_ D hb_;clear hb_;have F':=iW.o p z Jz Ji
   by_cases hz0:0<z
   ·have fD:z.toNat=z.natAbs:=by omega
    have Ca:(-z).toNat=0:=by omega
    have e1:=CP.o;have e2:=CO.o;rw[fD] at e1;rw[Ca,Nat.pow_zero,Nat.mul_one] at e2;have Lt:=hd_ e1;have ag:=hd_ e2;clear e1 e2 CP CO fD Ca;go_wp2_with fail;refine cm_ (LZ.o _ lf_ (p.toNat^z.natAbs) LG.o F' (bu_ B D.o)) ?_;rintro e_ w7 ⟨rfl,hb_⟩;replace D:=bt_ D hb_;clear hb_;go_wp2_with fail
    go_roundw
    case rel=>exact⟨k+1,by omega,by rw[Lt.o],by rw[ag.o],by go_num,D⟩
    case measure=>simp[intOf];omega
   ·have fD:z.toNat=0:=by omega
    have Ca:(-z).toNat=z.natAbs:=by omega
    have e1:=CP.o;have e2:=CO.o;rw[fD,Nat.pow_zero,Nat.mul_one] at e1;rw[Ca] at e2;have Lt:=hd_ e1;have ag:=hd_ e2;clear e1 e2 CP CO fD Ca;go_wp2_with fail;refine cm_ (LZ.o _ rt_ (p.toNat^z.natAbs) LF.o F' (bu_ B D.o)) ?_;rintro e_ w7 ⟨rfl,hb_⟩;replace D:=bt_ D hb_;clear hb_;go_wp2_with fail
    go_roundw
    case rel=>exact⟨k+1,by omega,by rw[Lt.o],by rw[ag.o],by go_num,D⟩
    case measure=>simp[intOf];omega
  ·obtain rfl:k=n:=by omega
   have gi:¬ (k:Int)<k:=by omega
   have hc:=bU.o;have e1:ps.take k=ps:=by rw[<- Hn.o,List.take_length]
   have e2:ks.take k=ks:=by rw[<- DU.o,List.take_length]
   rw[e1,e2];replace Rp:=hd_ (Rp.o.below D.o nr_);replace Ra:=hd_ (Ra.o.below D.o nr_);replace Rb:=hd_ (Rb.o.below D.o nr_);replace B:=bt_ B D.o;generalize dec (LN.upP ps ks)=sL at *;generalize dec (LN.upP ps (ks.map fun k => -k))=sR at *;have ej:=hd_ hc;clear hc e1 e2 D bU LZ Ax IH fR H6 nt iW iU iT Xa Xb;go_wp2_with fail;refine cm_ (dW.o _ _ _ _ _ _ _ B.o Rp.o Ra.o Rb.o) ?_;rintro e_ w5 ⟨ao,co,rfl,ro_,hb_⟩;replace B:=bt_ B hb_;replace Rp:=hd_ (Rp.o.below hb_ nr_);replace Ra:=hd_ (Ra.o.below hb_ nr_);replace Rb:=hd_ (Rb.o.below hb_ nr_);have gX:=(Below.refl w5.heap.size w5).alloc nr_ (.cells #[.int .i64 sg,.int .i64 m,.slice ao bn co] 46);have F1:Hid ((w5.alloc (.cells #[.int .i64 sg,.int .i64 m,.slice ao bn co] 46)).heap[w5.heap.size]?=some (.cells #[.int .i64 sg,.int .i64 m,.slice ao bn co] 46 (0,0))):=heap_alloc_new w5 _;have Ro:=hd_ (ro_.below gX nr_);replace B:=bt_ B gX;replace Rp:=hd_ (Rp.o.below gX nr_);replace Ra:=hd_ (Ra.o.below gX nr_);replace Rb:=hd_ (Rb.o.below gX nr_);clear gX hb_ ro_ dW;go_wp2_with fail;generalize w5.alloc (.cells #[.int .i64 sg,.int .i64 m,.slice ao bn co] 46)=w6 at *;generalize w5.heap.size=g1 at *;refine cm_ (f7.o _ _ _ _ _ _ _ B.o Rp.o Ra.o Rb.o) ?_;rintro e_ w7 ⟨ad,cd,rfl,rd_,hb_⟩;replace B:=bt_ B hb_;replace Rp:=hd_ (Rp.o.below hb_ nr_);replace Ro:=hd_ (Ro.o.below hb_ nr_);replace F1:=hk_ F1 hb_;have Rd:=hd_ rd_;clear hb_ rd_ f7 Ra Rb;obtain⟨x0,x1,x2,-⟩:=Kf F1.o;have q0:=NW.cell x0;have q1:=NW.cell x1;have q2:=NW.cell x2;have gn:Nonempty (NW w7):=⟨⟨w7,Below.refl _ _⟩⟩;have I:Hid (Bw_ w7 w7.drew):=(Below.refl _ _).drew;clear x0 x1 x2;go_wp2_with fail;refine wn_ 20 [(2,0),(2,1),(2,2),(2,3),(2,4),(2,5),(2,6),(2,7),(1,8),(2,9),(2,10),(0,11),(2,12),(2,13),(2,14),(2,15),(2,16),(1,17),(0,18),(2,19),(0,20)] I ?_;iterate 8 (refine wa_ rfl ?_;go_big_quiet_step (fail);refine wq_ ?_)
   refine wr_ rfl ?_;go_big_quiet_step (fail);refine wq_ ?_;iterate 2 (refine wa_ rfl ?_;go_big_quiet_step (fail);refine wq_ ?_)
   refine wm_ rfl ?_;go_wp2_with fail;refine cm_ (ej.o _) ?_;rintro e_ y0 ⟨rfl,hb_⟩;have J0:Hid (Bw_ w7 y0):=I.o.trans (hb_.mono I.o.size);clear hb_ ej I;go_wp2_with fail;refine⟨⟨⟨_,J0.o⟩,rfl⟩,?_⟩;iterate 5 (refine wa_ rfl ?_;go_big_quiet_step (fail);refine wq_ ?_)
   refine wr_ rfl ?_;go_big_quiet_step (fail);refine wq_ ?_;refine wm_ rfl ?_;go_wp2_with fail;refine cm_ (bS.o _ _ _ _ _ _ _ (Rp.o.below J0.o nr_) (Rd.o.below J0.o nr_) (Ro.o.below J0.o nr_)) ?_;rintro e_ y1 ⟨rfl,hb_⟩;have J1:Hid (Bw_ w7 y1):=J0.o.trans (hb_.mono J0.o.size);clear hb_ bS J0;go_wp2_with fail;refine⟨⟨⟨_,J1.o⟩,rfl⟩,?_⟩;refine wa_ rfl ?_;go_big_quiet_step (fail);refine wq_ ?_;refine wm_ rfl ?_;go_wp2_with fail;simp only[RP.walkR];replace B:=bt_ B J1.o;go_wp2_with fail;go_ret;exact⟨rfl,B.o⟩
end Go.Proofs.YtbielfplgbammaaGreatDoor

namespace Go.Proofs.YtbielfplgbammaaGreatDoor
open Go.ChangeShapes Go.WideShapes Go.ChangeAt Go.RowKit
theorem Zo(os:Os)(started:os.Started)(H:Type)(enc:TypeId×Value->H):
  ReturnsInHanded {} Tryz.checked os 3 .any (fun w args=>(Rows.topIntervalsAreFractionsSpec.pre enc Tryz.prog Tryz.f3 [] false w args/\laidMetH Tryz.prog Zwa w)/\sizedMet enc Tryz.prog Tryz.f3 (OpenSpec.ofChange Rows.topIntervalsAreFractionsSpec) false w args)
   (Rows.topIntervalsAreFractionsSpec.post enc Tryz.prog Tryz.f3 false true false false):=by
 refine returnsInHanded_of_change_and (C:=Tryz.checked) (X:=fun w _=>laidMetH Tryz.prog Zwa w) (fun _ _ _ hh h=>h.of_heap hh) own started (by kernel_rfl) Tryz.func3
  (ChangeSpec.witness_shaped (enc:=enc) (C:=Tryz.checked) (os:=os) (X:=fun w _=>laidMetH Tryz.prog Zwa w) false (World.doorLaid Tryz.prog 400 os) #[.agg #[.int .u8 0,.int .i8 0,.int .u8 0,.int .i8 0,.int .u8 0,.int .i8 0,.int .u8 0,.int .i8 0,.int .u8 0,.int .i8 0,.int .u8 0,.int .i8 0,.int .u8 0,.int .i8 0,.int .u8 0,.int .i8 0,.int .u8 0]] 8 rfl (World.shaped_of_RefB (by kernel_rfl) (by kernel_rfl)) (by kernel_rfl) (by kernel_rfl) (by kernel_rfl) (Zz8 os _)) ?_
 intro W base args ds gs before hval0 hW _ _ hL _;have gN:∀ (j:Nat) t v,Tryz.f3.params[j]?=some t->args[j]?=some v->Value.okWide Tryz.prog W .any base t v:=hval0;have jH:=hW;obtain⟨p,q,hA0,hV,rfl,hfz,Bf⟩:=hW;have hA:DataW.TrodAll enc Tryz.prog W 0 (fun _=>true) true Tryz.f3.params.toList args.toList ds p:=hA0;rw[Tryz.params3] at hA gN;obtain⟨v0,vs0,d0,ds0,p0,q0,hargs,rfl,rfl,h0,r0⟩:=trodAll_cons hA;obtain⟨rfl,rfl,rfl⟩:=trodAll_nil r0;obtain rfl:args = #[v0]:=by cases args;simp_all
 obtain⟨rfl,rfl⟩:=trodVars_none hV;have k0:=h0;have Nu:∀ x∈p0,x.block<W.heap.size:=by obtain⟨m,hm⟩:=k0;exact DataW.trod_lt m _ _ _ hm
 obtain⟨pn,nA,dA,nB,dB,rfl,hpn,hnA,hdA,hnB,hdB⟩:=Zvm (gN 0 28 v0 rfl rfl) h0;clear hA0 hval0;refine(Qe6 W pn nA dA nB dB hpn hnA hnB (Qc1 hL)).mono fun e W' ⟨he,bel⟩=>?_
 subst he;exact⟨_,rfl,_,_,_,[],_,[],jH,trodAll_mk1 (shut_bool Tryz.underlying4 _),(trodAll_cons_mk (Below.trod Qc2 (by kernel_rfl) (of_decide_eq_true (by kernel_rfl)) k0 bel Nu) trodAll_mk0),rfl,bel.frame _,fun h=>by cases h⟩
theorem Zam:Rows.TopIntervalsAreFractionsSaid :=
 OpenClaim.holds_of_wide 3 Tryz.f3 rfl rfl rfl rfl rfl rfl rfl ⟨rfl,rfl,rfl,rfl,rfl⟩ rfl rfl rfl rfl rfl (by as_aux_lemma=>kernel_rfl) Tryz.func3 (by
   unfold joinedFacts;simp only[Bool.and_eq_true]
   repeat' (refine And.intro ?_ ?_)
   all_goals (as_aux_lemma=>kernel_rfl))
  (by as_aux_lemma=>exact of_decide_eq_true (by kernel_rfl)) (by unfold Func.isWrapper;first | (rw[if_pos (by decide +kernel)];kernel_rfl) | (rw[if_neg (by decide +kernel)];exact⟨rfl,rfl⟩))
  (fun os started H enc _=>Zo os started H enc)
end Go.Proofs.YtbielfplgbammaaGreatDoor
