/- Lemmas for the laws of this seat, part 4. -/
import Derived.Shelf.Lays7
import Derived.Shelf.Spec.BitsCarry
import Derived.Laws.BitsLemmas
import Derived.Deep.CutRange
import Derived.WalkMore
import Derived.Scope
import Derived.Test.YtbielfplgbammaaGreatDoorTe3
set_option maxRecDepth 100000
set_option maxHeartbeats 16000000
namespace Go.Proofs.YtbielfplgbammaaGreatDoor
open Go.RowKit
def rsL (p:List Nat) (wo r m k:Nat):List Nat:=(shX p wo r m).take k++(p.drop wo).drop k
theorem Zym(p:List Nat)(wo r m:Nat):rsL p wo r m 0=p.drop wo:=by simp[rsL]
theorem Qck(p:List Nat)(wo r m:Nat)(h:p.length-wo=m):rsL p wo r m m=shX p wo r m:=by
 unfold rsL;rw[List.take_of_length_le (by rw[Vs];exact Nat.le_refl _),List.drop_of_length_le (by rw[List.length_drop];omega),List.append_nil]
theorem Zi3(p:List Nat)(wo r m k:Nat)(h:p.length-wo=m)(hk:k<=m):(rsL p wo r m k).length=m:=by
 unfold rsL;rw[List.length_append,List.length_take,Vs,List.length_drop,List.length_drop];omega
theorem Qcj(p:List Nat)(wo r m k:Nat)(hk:k<m):(rsL p wo r m k).getD k 0=p.getD (k+wo) 0:=by
 unfold rsL;have hl:((shX p wo r m).take k).length=k:=by rw[List.length_take,Vs];omega
 rw[List.getD_eq_getElem?_getD,List.getElem?_append_right (by omega),hl,Nat.sub_self,List.drop_drop,List.getElem?_drop,Nat.add_zero,<- List.getD_eq_getElem?_getD,Nat.add_comm]
theorem Qci(p:List Nat)(wo r m k:Nat)(h:p.length-wo=m)(hk:k<m):(rsL p wo r m k).set k ((shX p wo r m).getD k 0)=rsL p wo r m (k+1):=by
 have hl:((shX p wo r m).take k).length=k:=by rw[List.length_take,Vs];omega
 have hd:(p.drop wo).drop k=(p.drop wo)[k]'(by rw[List.length_drop];omega)::(p.drop wo).drop (k+1):=List.drop_eq_getElem_cons _;unfold rsL;rw[List.set_append_right _ _ (by omega),hl,Nat.sub_self,List.take_add_one,List.getElem?_eq_getElem (by rw[Vs];exact hk),hd,List.set_cons_zero,List.append_assoc];congr 1;rw[List.getD_eq_getElem?_getD,List.getElem?_eq_getElem (by rw[Vs];exact hk)];rfl
theorem Zvl(x y r:Nat)(_hr:r<=32)(hx:x<4294967296):
  bits .or .u32 ((x:Int)/2^r) (IntKind.u32.wrap ((y:Int)*2^(32-r)))=((x/2^r ||| (y*2^(32-r)%4294967296):Nat):Int):=by
 have e1:(x:Int)/2^r=((x/2^r:Nat):Int):=by
  rw[Int.natCast_ediv,Int.natCast_pow];rfl
 have e2:IntKind.u32.wrap ((y:Int)*2^(32-r))=((y*2^(32-r)%4294967296:Nat):Int):=by
  rw[IntKind.wrap_u32,Int.natCast_emod,Int.natCast_mul,Int.natCast_pow];rfl
 rw[e1,e2];exact Zmr (by have:=Nat.div_le_self x (2^r);omega) (Nat.mod_lt _ (by decide))
theorem Zob{w:World}{a:OA_}{p:List Nat}{wo b o:Nat}(h:Qc w a p)(ha:a=some ⟨b,o,none⟩):Qc w (some ⟨b,o+wo,none⟩) (p.drop wo):=by
 rcases h with h|⟨b',o',h1,h2,h3⟩
 ·subst h;exact .inl (by simp)
 ·rw[ha] at h1;simp only[Option.some.injEq,Addr.mk.injEq,and_true] at h1;obtain⟨rfl,rfl⟩:=h1;refine .inr ⟨b,o+wo,rfl,h2,fun i hi=>?_⟩;rw[List.length_drop] at hi;have:=h3 (wo+i) (by omega)
  rw[List.getD_eq_getElem?_getD,List.getElem?_drop,<- List.getD_eq_getElem?_getD,Nat.add_assoc];exact this
theorem Zyg{x b wo r:Nat}(e:b=32*wo+r)(h:(wN x).length<=wo):x/2^b=0:=by
 refine Nat.div_eq_of_lt (Nat.lt_of_lt_of_le (Qbx x) ?_);rw[show (4294967296:Nat)=2^32 from rfl,<- Nat.pow_mul];exact Nat.pow_le_pow_right (by decide) (by omega)
theorem Zyh(w:World)(a1:OA_)(c1 x b wo r:Nat)(e:b=32*wo+r)(hr:r<32)(Gj:0<b)(hZ:b<=1000000000)(h1:Qc w a1 (wN x))(hc:(wN x).length<=c1)(l1:Qx x):
  Ye 223 #[.slice a1 (wN x).length c1,.int .i64 (-(b:Int))] w (x/2^b):=by
 unfold Ye;unfold Qx at l1;have hq:Int.tdiv (b:Int) 32=(wo:Nat):=by rw[Int.tdiv_eq_ediv_of_nonneg (by omega)];omega
 have AN:(b:Int)/32=(wo:Nat):=by omega
 have ht:Int.tmod (b:Int) 32=(r:Nat):=by rw[Int.tmod_eq_emod_of_nonneg (by omega)];omega
 have mS:(b:Int)%32=(r:Nat):=by omega
 have fW:IntKind.u64.wrap (r:Int)=r:=Qk _ (by omega);have HU:(-(b:Int))<0:=by omega
 have JA:IntKind.i64.wrap (-(-(b:Int)))=b:=by rw[Int.neg_neg];exact iw_ _ (by omega)
 have oe:IntKind.i64.wrap (b:Int)=b:=iw_ _ (by omega)
 by_cases hwo:(wN x).length<=wo
 ·have Hz:=hd_ (Zyg (x:=x) e hwo);have CB:((wN x).length:Int)<=wo:=by omega
  clear e;generalize (wN x).length=n at *;go_enter Tryz.func223,Tryz.ntmps223;go_wp2_with fail;go_ret;rw[Hz.o];exact⟨none,0,by rw[Va];rfl,IsX.zero _,Below.refl _ _⟩
 ·have H1:=hd_ h1;have P1:=hd_ (Zcm x);have V1:=hd_ (Zdi x);have He:=hd_ e;clear h1 e;generalize wN x=p at *;obtain⟨n,hn⟩:∃ n,p.length=n:=⟨_,rfl⟩;have Hn:=hd_ hn;rw[hn] at l1 hc hwo ⊢;clear hn;obtain⟨m,hm⟩:∃ m,n-wo=m:=⟨_,rfl⟩;have ET:0<m:=by omega
  have CB:¬ (n:Int)<=wo:=by omega
  have jD:¬ c1=wo:=by omega
  have Ej:(n:Int)-wo=m:=by omega
  have JK:(wo:Int)<=n:=by omega
  have JJ:(wo:Int)<=c1:=by omega
  have oh:(n:Int)<=c1:=by omega
  have jY:Hid (p.length-wo=m):=by show _=_;rw[Hn.o];exact hm
  obtain⟨b1,o1,rfl,BD,gC⟩:=H1.o.open (by rw[Hn.o];omega);have Hc:=hd_ gC;have ml:=hd_ (fun (c:Nat)=>Zti w (some ⟨b1,o1+wo,none⟩) c (p.drop wo) (Zob H1.o rfl) (by rw[List.length_drop,Hn.o];omega) (by rw[List.length_drop,Hn.o];omega));have dx:(p.drop wo).length=m:=by rw[List.length_drop,Hn.o];exact hm
  rw[dx] at ml;clear gC H1 dx;go_enter Tryz.func223,Tryz.ntmps223;go_wp2_with fail;refine cm_ (ml.o _) ?_;rintro e w1 ⟨g,d,rfl,ho,hb⟩;have Fz:=hd_ hb;have fO:Hid (Zd4 w1 w.heap.size (some ⟨g,0,none⟩) d (rsL p wo r m 0)):=by rw[Zym];exact ho
  have HD:Hid (m<=d):=by show _<=_;have:=ho.cap;rw[List.length_drop,Hn.o] at this;omega
  clear ho hb ml;go_wp2_with fail
  go_loopw [34] (fun i wr=>∃ k:Nat,k<=m/\i = .int .i64 k/\Hid (Zd4 wr w.heap.size (some ⟨g,0,none⟩) d (rsL p wo r m k))/\Hid (Bw_ w wr)) (fun i _=>m-(intOf i).toNat)
  case atStart=>exact⟨0,Nat.zero_le _,rfl,fO,Fz⟩
  case round =>
   obtain⟨k,hk,rfl,HO,HB⟩:=hrel;clear fO Fz
   by_cases H7:k<m
   ·have gi:(k:Int)<m:=by omega
    obtain⟨g',hg,GE,hg2,hg3,hg4,hg5⟩:=HO.o.open (by rw[Zi3 _ _ _ _ _ jY.o hk];omega);obtain rfl:g=g':=by simpa using hg
    clear hg;have ce:=hg4 k (by rw[Zi3 _ _ _ _ _ jY.o hk];omega);rw[Qcj _ _ _ _ _ H7] at ce;have fe:=hg5 k;have hx:=P1.o.getD (k+wo);have Aa:IntKind.i64.wrap ((wo:Int)+k)=((k+wo:Nat):Int):=by rw[<- Int.natCast_add,Nat.add_comm];exact iw_ _ (by omega)
    have Gu:=Zuw p wo r m k H7;have Gr:=Qci p wo r m k jY.o H7;have dw:((p.getD (k+wo) 0:Nat):Int)/2^r=((p.getD (k+wo) 0/2^r:Nat):Int):=by rw[Int.natCast_ediv,Int.natCast_pow];rfl
    have NQ:p.getD (k+wo) 0/2^r<=p.getD (k+wo) 0:=Nat.div_le_self _ _;have Hv:=hd_ (show (r=0->p.getD (k+wo) 0/2^r=p.getD (k+wo) 0) from fun h=>by rw[h,Nat.pow_zero,Nat.div_one]);have dW:=hd_ (fun y=>Zvl (p.getD (k+wo) 0) y r (by omega) hx);have dT:k+wo+1<n->wr.cell? ⟨b1,o1+(k+wo+1),none⟩=some (.int .u32 (p.getD (k+wo+1) 0:Nat)):=fun h=>by
     rw[HB.o.cell (p:=⟨b1,o1+(k+wo+1),none⟩) BD];exact Hc.o (k+wo+1) (by rw[Hn.o];exact h)
    have oL:b1<wr.heap.size:=Nat.lt_of_lt_of_le BD HB.o.size;have gj:b1≠g:=by omega
    have Fz:=fun (u:Value)=>HB.o.setCell (p:=⟨g,k,none⟩) GE u
    have fO:=hd_ (HO.o.store k (p.getD (k+wo) 0/2^r));clear hg4 hg5 hg3 gi;generalize p.getD (k+wo) 0=x0 at *;generalize x0/2^r=v at *;have gi:(k:Int)<m:=by omega
    by_cases h2:k+1<m
    ·have EZ:(k:Int)+1<m:=by omega
     by_cases h1:r=0
     ·have hE:(shX p wo r m).getD k 0=v:=by rw[Gu,if_pos h1];exact(Hv.o h1).symm
      rw[hE] at Gr;rw[Gr] at fO;have h0:¬ (0:Int)<r:=by omega
      have HR:=hd_ (Fz (.int .u32 v));clear Gu Gr hE Fz dW Hv dT HO HB h1;go_wp2_with fail;refine⟨⟨k+1,by omega,by go_num,fO,HR⟩,by simp[intOf];omega⟩
     ·have cy:=dT (by omega);have hE:=Gu;rw[if_neg h1] at hE;have EX:=dW.o (p.getD (k+wo+1) 0);have hy:=P1.o.getD (k+wo+1);rw[dw] at EX;have BB:=EX;rw[IntKind.wrap_u32] at BB;have h0:(0:Int)<r:=by omega
      have AY:IntKind.i64.wrap (((k+wo:Nat):Int)+1)=((k+wo+1:Nat):Int):=by rw[<- Int.natCast_succ];exact iw_ _ (by omega)
      have Ae:IntKind.u64.wrap (32-(r:Int))=((32-r:Nat):Int):=by rw[show (32:Int)-r=((32-r:Nat):Int) by omega];exact Qk _ (by omega)
      have o8:(32:Int)-r=((32-r:Nat):Int):=by omega
      generalize p.getD (k+wo+1) 0=y at *;have CH:(wr.setCell ⟨g,k,none⟩ (.int .u32 (v:Nat))).cell? ⟨g,k,none⟩=some (.int .u32 (v:Nat)):=World.cell?_setCell_same _ _ _ ce;have Af:(wr.setCell ⟨g,k,none⟩ (.int .u32 (v:Nat))).frozen? ⟨g,k,none⟩=false:=by rw[World.frozen?_setCell];exact fe
      have lA:(wr.setCell ⟨g,k,none⟩ (.int .u32 (v:Nat))).cell? ⟨b1,o1+(k+wo+1),none⟩=some (.int .u32 (y:Nat)):=by
       rw[World.cell?_setCell_other _ _ _ _ (by simp)];exact cy
      have mo:=hd_ (Fz (.int .u32 (v:Nat)));have HE:=hd_ hE;clear Gu hE Hv dT HO HB Fz cy;generalize hW1:wr.setCell ⟨g,k,none⟩ (.int .u32 (v:Nat))=W1 at *;have q1:=NW.cell CH;have q2:=NW.cell lA;have gn:Nonempty (NW W1):=⟨⟨W1,Below.refl _ _⟩⟩;have I:Hid (Bw_ W1 W1.drew):=(Below.refl _ _).drew;go_wp2_with fail;refine wn_ 16 [(2,0),(2,1),(2,2),(1,3),(2,4),(2,5),(2,6),(2,7),(2,8),(2,9),(1,10),(2,11),(2,12),(2,13),(2,14),(2,15),(0,16)] I ?_;iterate 3 (refine wa_ rfl ?_;go_big_quiet_step (fail);refine wq_ ?_)
      refine wr_ rfl ?_;go_big_quiet_step (fail);refine wq_ ?_;iterate 6 (refine wa_ rfl ?_;go_big_quiet_step (fail);refine wq_ ?_)
      refine wr_ rfl ?_;go_big_quiet_step (fail);refine wq_ ?_;iterate 5 (refine wa_ rfl ?_;go_big_quiet_step (fail);refine wq_ ?_)
      iterate 1 (refine wm_ rfl ?_;go_wp2_with fail)
      simp only[RP.walkR];go_wp2_with fail;have Fx:=fO.o.store k (v ||| y*2^(32-r)%4294967296);have e2:((rsL p wo r m k).set k v).set k (v ||| y*2^(32-r)%4294967296)=rsL p wo r m (k+1):=by rw[List.set_set,<- HE.o];exact Gr
      rw[e2] at Fx;refine⟨⟨k+1,by omega,by go_num,Fx.below (Qa _ 1) nr_,Qg (mo.o.setCell (p:=⟨g,k,none⟩) GE _) 1⟩,by simp[intOf];omega⟩
    ·have hz:p.getD (k+wo+1) 0=0:=Zaf _ _ (by rw[Hn.o];omega);have hE:(shX p wo r m).getD k 0=v:=by
      by_cases h1:r=0
      ·rw[Gu,if_pos h1];exact(Hv.o h1).symm
      ·rw[Gu,if_neg h1,hz,Nat.zero_mul,Nat.zero_mod,Nat.or_zero]
     rw[hE] at Gr;rw[Gr] at fO;have EZ:¬ (k:Int)+1<m:=by omega
     have HR:=hd_ (Fz (.int .u32 v));clear Gu Gr hE Fz dW Hv dT HO HB hz;go_wp2_with fail;refine⟨⟨k+1,by omega,by go_num,fO,HR⟩,by simp[intOf];omega⟩
   ·obtain rfl:k=m:=by omega
    rw[Qck _ _ _ _ jY.o] at HO;have Gk:PcX (shX p wo r k):=Qcc P1.o hr;have hv:vX (shX p wo r k)=x/2^b:=by rw[Qcb P1.o hr (by rw[Hn.o];omega),V1.o,<- He.o]
    have hl:=Vs p wo r k;have gT:=Zav wr (some ⟨g,0,none⟩) d (shX p wo r k) HO.o.reads Gk (by rw[hl];omega) (by rw[hl];exact HD.o);rw[hl,hv] at gT;have Hr:=hd_ ((HO.o.cut _ (Vp _ Gk)));have Hl:Hid ((wN (x/2^b)).length<=d):=by show _<=_;have:=Vp _ Gk;rw[hv,hl] at this;have h3:=HD.o;omega
    rw[Zab _ Gk,hv] at Hr;have Gi:=hd_ gT;clear gT hv H7 Gk hl;go_wp2_with fail;refine(Gi.o).mono ?_;rintro e w2 ⟨rfl,HU⟩;have H9:=bt_ HB HU;have Eh:=hd_ (Hr.o.reads.below HU nr_);clear HU Gi;go_wp2;go_ret;exact⟨_,_,rfl,⟨Eh.o,Hl.o⟩,H9.o⟩
theorem Zch{x y:Nat}:0<=Vi x y↔y<=x:=by
 unfold Vi;split
 ·constructor<;>intro h<;>omega
 ·split<;>constructor<;>intro h<;>omega
theorem Vd:wN 1=[1]:=Zpw (by decide) (by decide)
theorem IsX.one{w:World}{g:Nat}(h:w.heap[g]?=some (.cells #[.int .u32 1] 131 (0,0))):IsX w (some ⟨g,0,none⟩) 1 1:=by
 refine⟨.inr ⟨g,0,rfl,⟨_,h⟩,fun i hi=>?_⟩,by rw[Vd];exact Nat.le_refl _⟩;rw[Vd] at hi ⊢;have JS:i<1:=hi;obtain rfl:i=0:=by omega
 exact cell_of_row _ _ 0 _ _ _ h
theorem Zyt{A B j:Nat}(hB:0<B)(h:blN B+j<=blN A)(hA:Qx A):Qx (B*2^j)/\Qx (2^j):=by
 have h1:=Zjt B;have h2:=Zlh A;have h3:B*2^j<2^blN B*2^j:=Nat.mul_lt_mul_of_pos_right h1 (Nat.two_pow_pos j);rw[<- Nat.pow_add] at h3;have h4:2^(blN B+j)<=2^(32*(wN A).length):=Nat.pow_le_pow_right (by decide) (by omega);have h5:(2:Nat)^(32*(wN A).length)=4294967296^(wN A).length:=by rw[Nat.pow_mul]
 rw[h5] at h4;have hl:Qx (B*2^j):=Nat.le_trans (Zlt (Nat.lt_of_lt_of_le h3 h4)) hA;exact⟨hl,hl.le (Nat.le_mul_of_pos_left _ hB)⟩
theorem Znp.le{A B k a q:Nat}(hB:0<B)(h:Znp A B k a q):a<=A/\q<=A:=by
 have h1:=h.eq;have h2:q*1<=q*B:=Nat.mul_le_mul_left _ hB;omega
def RoX (A B k:Nat) (z:Int):Prop:=(z+1=k/\blN B+k<=blN A+1)\/(z<0/\k=0)
def Zpv (f:FuncId) (args:Array Value) (w:World) (n m:Nat):Prop:=Calls Tryz.prog f args w fun e w'=>∃ a c a' c',e = .returned (.tuple #[.slice a (wN n).length c,.slice a' (wN m).length c'])/\IsX w' a c n/\IsX w' a' c' m/\Bw_ w w'
theorem Zz9(w:World)(a1 a2:OA_)(c1 c2 A B:Nat)(h1:IsX w a1 c1 A)(h2:IsX w a2 c2 B)(hB:0<B)(l1:Qx A)(l2:Qx B):
  Zpv 273 #[.slice a1 (wN A).length c1,.slice a2 (wN B).length c2] w (A/B) (A%B):=by
 unfold Zpv;have oO:=Zlh A;have mK:(wN A).length<=1000000:=l1;have LI:=hd_ (Zh4 w a1 c1 A h1.1 l1);have LH:=hd_ (fun W (hW:Bw_ w W)=>Zh4 W a2 c2 B (h2.1.below hW nr_) l2);have IE:=hd_ (fun W j (hj:j<=32000000) (hW:Bw_ w W)=>Zkc W a2 c2 B j (j/32) (j%32) (by omega) (Nat.mod_lt _ (by decide)) (h2.1.below hW nr_) l2 (by omega));have aw:=hd_ (fun W g c j (hj:j<=32000000) (h:IsX W (some ⟨g,0,none⟩) c 1)=>Zkc W (some ⟨g,0,none⟩) c 1 j (j/32) (j%32) (by omega) (Nat.mod_lt _ (by decide)) h.1 (Nat.le_trans (Nat.le_of_eq (by rw[Vd];rfl)) (show 1<=1000000 by decide)) (by omega));have II:=hd_ (fun W pa pc qa qc x y (hx:IsX W pa pc x) (hy:IsX W qa qc y) (lx:Qx x)=>Zar W pa qa pc qc x y hx.1 hy.1 (Nat.le_trans lx (by decide)));have Ay:=hd_ (fun W pa pc qa qc x y (hx:IsX W pa pc x) (hy:IsX W qa qc y) (lx:Qx x) (h:y<=x)=>Zhm W pa qa pc qc x y hx.1 hy.1 lx h);have D3:=hd_ (fun W pa pc qa qc x y (hx:IsX W pa pc x) (hy:IsX W qa qc y) (lx:Qx x) (ly:Qx y)=>Zec W pa qa pc qc x y hx.1 hy.1 lx ly);unfold Ye at IE aw Ay D3;have H1:=hd_ h1;have LA:=hd_ l1;have EG:=hd_ (fun j (h:blN B+j<=blN A)=>Zyt hB h l1);have O0:=hd_ (fun k a q (h:Znp A B k a q)=>h.le hB);have bR:Hid (blN B<=blN A->Znp A B (blN A-blN B+1) A 0):=fun h=>Ztg hB h
 have ay:Hid (blN A<blN B->Znp A B 0 A 0):=fun h=>Zwx h
 have Ac:blN B<=32*1000000:=Nat.le_trans (Zlh B) (Nat.mul_le_mul_left _ l2);clear h1 h2 l1 l2 hB;simp only[Nat.one_mul] at aw;obtain⟨bA,hbA'⟩:∃ b,blN A=b:=⟨_,rfl⟩;obtain⟨bB,hbB'⟩:∃ b,blN B=b:=⟨_,rfl⟩;have Lr:=hd_ hbA';have Lo:=hd_ hbB';rw[hbA'] at LI oO;rw[hbB'] at LH Ac;rw[hbA',hbB'] at EG bR ay;clear hbA' hbB';go_enter Tryz.func273,Tryz.ntmps273;go_wp2_with fail;refine cm_ LI.o ?_;rintro e w1 ⟨rfl,hb⟩;have B1:=hd_ hb;clear hb LI;go_wp2_with fail;refine cm_ (LH.o _ B1.o) ?_;rintro e w2 ⟨rfl,hb⟩;have B2:=bt_ B1 hb;clear hb LH B1;go_wp2_with fail
 go_loopw [0,4,6] (fun av qv nv wr=>∃ (k q a:Nat) (z:Int) (aa qa:OA_) (ac qc:Nat),av = .slice aa (wN a).length ac/\qv = .slice qa (wN q).length qc/\nv = .int .i64 z /\ -32000001<=z/\z<=32000000/\Hid (RoX A B k z)/\Hid (Znp A B k a q)/\Hid (IsX wr aa ac a)/\Hid (IsX wr qa qc q)/\Hid (Bw_ w wr)) (fun _ _ nv _=>(intOf nv+1).toNat)
 case atStart =>
  by_cases H7:bA<bB
  ·exact⟨0,0,A,(bA:Int)-bB,a1,none,c1,0,rfl,by rw[Va];rfl,by first | rfl | go_num,by omega,by omega,.inr ⟨by omega,rfl⟩,ay.o H7,H1.o.below B2.o nr_,IsX.zero _,B2.o⟩
  ·exact⟨bA-bB+1,0,A,(bA:Int)-bB,a1,none,c1,0,rfl,by rw[Va];rfl,by first | rfl | go_num,by omega,by omega,.inl ⟨by omega,by rw[Lr.o,Lo.o];omega⟩,bR.o (by omega),H1.o.below B2.o nr_,IsX.zero _,B2.o⟩
 case round =>
  obtain⟨k,q,a,z,aa,qa,ac,qc,rfl,rfl,rfl,fg,fG,HR,HD,HA,HQ,HB⟩:=hrel;clear bR ay B2 H1;rcases Nat.eq_zero_or_pos k with h0|h0
  ·subst h0;have hz:¬ 0<=z:=by
    rcases HR.o with h|h
    ·have:=h.1;omega
    ·omega
   obtain⟨f1,f2⟩:=HD.o.fin;have Hq:Hid (q=A/B):=f1;have Ha:Hid (a=A%B):=f2;clear f1 f2;go_wp2_with fail
   go_ret2
   rw[<- Hq.o,<- Ha.o];exact⟨_,_,_,_,rfl,HQ.o,HA.o,HB.o⟩
  ·obtain⟨j,rfl⟩:∃ j,k=j+1:=⟨k-1,by omega⟩;obtain⟨hzj,ik⟩:z=j/\bB+j<=bA:=by
    rcases HR.o with h|h
    ·have h2:=h.2;rw[Lr.o,Lo.o] at h2;have h1:=h.1;constructor<;>omega
    ·omega
   subst hzj;have jy:(0:Int)<=j:=by omega
   have Mc:j<=32000000:=by omega
   obtain⟨lp,lj⟩:=EG.o j ik;obtain⟨da,dq⟩:=O0.o _ _ _ HD.o;have La:=hd_ (LA.o.le da);have Lq:=hd_ (LA.o.le dq);have Lp:=hd_ lp;have Lj:=hd_ lj;have bT:Hid (RoX A B j ((j:Int)-1)) := .inl ⟨by omega,by rw[Lr.o,Lo.o];omega⟩;have S1:=hd_ (IE.o wr j Mc HB.o);have mh:=hd_ (fun h=>HD.o.yes h);have mj:=hd_ (fun h=>HD.o.no h);clear lp lj da dq HD HR;generalize B*2^j=part at *;go_wp2_with fail;refine cm_ S1.o ?_;rintro e w3 ⟨pa,pc,rfl,hp,hb⟩;have D1:=hd_ hb;have HP:=hd_ hp;have mr:=hd_ (HA.o.below hb nr_);have IG:=hd_ (HQ.o.below hb nr_);have Fz:=bt_ HB hb;clear hb hp S1 HA HQ HB D1;have S2:=hd_ (II.o w3 aa ac pa pc a part mr.o HP.o La.o);obtain⟨v,hv⟩:∃ v,Vi a part=v:=⟨_,rfl⟩;have Hv:=hd_ hv;rw[hv] at S2;clear hv;go_wp2_with fail;refine cm_ S2.o ?_;rintro e w4 ⟨rfl,hb⟩;have mq:=hd_ (mr.o.below hb nr_);have Aw:=hd_ (IG.o.below hb nr_);have nU:=hd_ (HP.o.below hb nr_);have G5:=bt_ Fz hb;clear hb S2 mr IG Fz HP
   by_cases G9:part<=a
   ·have aV:0<=v:=by rw[<- Hv.o];exact Zch.2 G9
    have S3:=hd_ (Ay.o w4 aa ac pa pc a part mq.o nU.o La.o G9);have EK:=hd_ (mh.o G9);clear mh mj G9;go_wp2_with fail;refine cm_ S3.o ?_;rintro e w5 ⟨ba,bc,rfl,hp,hb⟩;have Ni:=hd_ hp;have nS:=hd_ (Aw.o.below hb nr_);have FS:=bt_ G5 hb;clear hb hp S3 mq Aw G5 nU;go_wp2_with fail;have N0:IsX (w5.alloc (.cells #[.int .u32 1] 131)) (some ⟨w5.heap.size,0,none⟩) 1 1:=IsX.one (heap_alloc_new w5 _);have S4:=hd_ (aw.o _ _ _ j Mc N0);rw[Vd] at S4;have C4:=hd_ ((Below.refl w5.heap.size w5).alloc nr_ (.cells #[.int .u32 1] 131));refine cm_ S4.o ?_;rintro e w6 ⟨ja,jc,rfl,hp,hb⟩;have E4:=bt_ C4 hb;have HJ:=hd_ hp;have Nh:=hd_ (Ni.o.below E4.o nr_);have nR:=hd_ (nS.o.below E4.o nr_);have Fy:=bt_ FS E4.o;clear hb hp S4 C4 E4 N0 Ni nS FS;have S5:=hd_ (D3.o w6 qa qc ja jc q (2^j) nR.o HJ.o Lq.o Lj.o);go_wp2_with fail;refine cm_ S5.o ?_;rintro e w7 ⟨ka,kc,rfl,hp,hb⟩;have OX:=hd_ hp;have O9:=hd_ (Nh.o.below hb nr_);have IZ:=bt_ Fy hb;clear hb hp S5 Nh nR Fy HJ;go_wp2_with fail;refine⟨⟨j,_,_,(j:Int)-1,_,_,_,_,rfl,rfl,by first | rfl | go_num,by omega,by omega,bT,EK,O9,OX,IZ⟩,by simp[intOf]⟩
   ·have aV:¬ 0<=v:=by rw[<- Hv.o];exact fun h=>G9 (Zch.1 h)
    have EK:=hd_ (mj.o G9);clear mh mj G9;go_wp2_with fail;refine⟨⟨j,_,_,(j:Int)-1,_,_,_,_,rfl,rfl,by first | rfl | go_num,by omega,by omega,bT,EK,mq,Aw,G5⟩,by simp[intOf]⟩
def rdX (w:World):Value->Nat
 | .slice (some ad) m _=>vX ((List.range m).map fun i=>match w.cell? ⟨ad.block,ad.off+i,none⟩ with | some (.int _ z)=>z.toNat | _=>0)
 | _=>0
theorem Qbb{w:World}{a:OA_}{c n:Nat}(h:IsX w a c n):rdX w (.slice a (wN n).length c)=n:=by
 rcases Nat.eq_zero_or_pos n with h0|h0
 ·subst h0;rw[Va];cases a<;>rfl
 ·obtain⟨b,o,rfl,hb,hc⟩:=h.1.open (Zl.2 h0)
  show vX ((List.range (wN n).length).map fun i=>match w.cell? ⟨b,o+i,none⟩ with | some (.int _ z)=>z.toNat | _=>0)=n
  have e:((List.range (wN n).length).map fun i=>match w.cell? ⟨b,o+i,none⟩ with | some (.int _ z)=>z.toNat | _=>0)=wN n:=by
   refine List.ext_getElem (by simp) fun i h1 h2=>?_
   rw[List.getElem_map,List.getElem_range,hc i h2,List.getD_eq_getElem?_getD,List.getElem?_eq_getElem h2];rfl
  rw[e,Zdi]
theorem Zpi(w:World)(a1 a2:OA_)(c1 c2 A B:Nat)(h1:IsX w a1 c1 A)(h2:IsX w a2 c2 B)(l1:Qx A)(l2:Qx B):
  Ye 221 #[.slice a1 (wN A).length c1,.slice a2 (wN B).length c2] w (Nat.gcd A B):=by
 unfold Ye;have AA:=hd_ (fun W pa pc qa qc x y (hx:IsX W pa pc x) (hy:IsX W qa qc y) (h:0<y) (lx:Qx x) (ly:Qx y)=>Zz9 W pa qa pc qc x y hx hy h lx ly);unfold Zpv at AA;have H1:=hd_ h1;have H2:=hd_ h2;have L1:=hd_ l1;have L2:=hd_ l2;clear h1 h2 l1 l2;go_enter Tryz.func221,Tryz.ntmps221;go_wp2_with fail
 go_loopw [0,1] (fun av bv wr=>∃ (a b:Nat) (aa ba:OA_) (ac bc:Nat),av = .slice aa (wN a).length ac/\bv = .slice ba (wN b).length bc/\Hid (Nat.gcd a b=Nat.gcd A B)/\Hid (Qx a)/\Hid (Qx b)/\Hid (IsX wr aa ac a)/\Hid (IsX wr ba bc b)/\Hid (Bw_ w wr)) (fun _ bv wr=>rdX wr bv)
 case atStart=>exact⟨A,B,a1,a2,c1,c2,rfl,rfl,rfl,L1,L2,H1,H2,Below.refl _ _⟩
 case round =>
  obtain⟨a,b,aa,ba,ac,bc,rfl,rfl,HG,La,Lb,Ha,Hb,HB⟩:=hrel;have Hm:=hd_ (Qbb Hb.o);clear H1 H2 L1 L2;rcases Nat.eq_zero_or_pos b with h0|h0
  ·subst h0;have Hz:Hid (a=Nat.gcd A B):=by show _=_;rw[<- HG.o,Nat.gcd_zero_right]
   have jx:(wN 0).length=0:=by rw[Va];rfl
   rw[jx];go_wp2_with fail;go_ret;rw[<- Hz.o];exact⟨_,_,rfl,Ha.o,HB.o⟩
  ·have hl:=Zl.2 h0;have S1:=hd_ (AA.o wr aa ac ba bc a b Ha.o Hb.o h0 La.o Lb.o);have IV:Hid (Nat.gcd b (a%b)=Nat.gcd A B):=by show _=_;rw[<- HG.o,Nat.gcd_comm a b,Nat.gcd_rec b a,Nat.gcd_comm (a%b)]
   have H7:=Nat.mod_lt a h0;have L2:Hid (Qx (a%b)):=Lb.o.le (Nat.le_of_lt H7);have dI:=hd_ H7;clear H7 HG;have di:(0:Int)<((wN b).length:Nat):=by omega
   go_wp2_with fail;refine cm_ S1.o ?_;rintro e w3 ⟨q1,q2,r1,r2,rfl,-,hr,hb⟩;have Hr:=hd_ hr;have H9:=hd_ (Hb.o.below hb nr_);have G5:=bt_ HB hb;clear hr hb S1 Hb HB;go_wp2_with fail;refine⟨⟨b,a%b,_,_,_,_,rfl,rfl,IV,Lb,L2,H9,Hr,G5⟩,?_⟩;rw[Qbb Hr.o,Hm.o];exact dI.o
theorem Qa5(n:Nat):vX [n%4294967296,n/4294967296]=n:=by simp[vX];omega
theorem Zsb{w:World}{g:Nat}{a b:Nat}(h:w.heap[g]?=some (.cells #[.int .u32 (a:Nat),.int .u32 (b:Nat)] 131 (0,0))):Qc w (some ⟨g,0,none⟩) [a,b]:=by
 refine .inr ⟨g,0,rfl,⟨_,h⟩,fun i hi=>?_⟩
 match i,hi with
 | 0,_=>exact cell_of_row _ _ 0 _ _ _ h
 | 1,_=>exact cell_of_row _ _ 1 _ _ _ h
theorem Zkl(w:World)(n:Nat)(hn:n<18446744073709551616):Ye 151 #[.int .u64 n] w n:=by
 unfold Ye;have h1:IntKind.u32.wrap (n:Int)=((n%4294967296:Nat):Int):=wrap_u32 n;have h2:(n:Int)/4294967296=((n/4294967296:Nat):Int):=by omega
 have h3:IntKind.u32.wrap ((n/4294967296:Nat):Int)=((n/4294967296:Nat):Int):=by rw[wrap_u32,Nat.mod_eq_of_lt (by omega)]
 have hp:PcX [n%4294967296,n/4294967296]:=by
  intro x hx;simp only[List.mem_cons,List.not_mem_nil,or_false] at hx;rcases hx with rfl|rfl<;>omega
 have N0:=heap_alloc_new w (.cells #[.int .u32 ((n%4294967296:Nat):Int),.int .u32 ((n/4294967296:Nat):Int)] 131);have R0:=hd_ (Zsb N0);have B0:=hd_ ((Below.refl w.heap.size w).alloc nr_ (.cells #[.int .u32 ((n%4294967296:Nat):Int),.int .u32 ((n/4294967296:Nat):Int)] 131));have gT:=Zav (w.alloc (.cells #[.int .u32 ((n%4294967296:Nat):Int),.int .u32 ((n/4294967296:Nat):Int)] 131)) (some ⟨w.heap.size,0,none⟩) 2 [n%4294967296,n/4294967296] R0.o hp (show 2<=100000000 by decide) (show 2<=2 by decide);have Hl:Hid ((wN n).length<=2):=by have:=Vp _ hp;rw[Qa5] at this;exact this
 have nf:=hd_ (Zab _ hp);rw[Qa5] at gT nf;rw[show ([n%4294967296,n/4294967296]:List Nat).length=2 from rfl] at gT;have Gi:=hd_ gT;have HV:Hid (∀ i,i<(wN n).length->(wN n).getD i 0=[n%4294967296,n/4294967296].getD i 0):=fun i hi=>by
  rw[<- nf.o,List.getD_eq_getElem?_getD,List.getD_eq_getElem?_getD,List.getElem?_take,if_pos hi]
 clear gT N0 hp;generalize n/4294967296=y at *;generalize n%4294967296=x at *;go_enter Tryz.func151,Tryz.ntmps151;go_wp2_with fail;generalize w.alloc (.cells #[.int .u32 ((x:Nat):Int),.int .u32 ((y:Nat):Int)] 131)=w1 at *;refine cm_ Gi.o ?_;rintro e w2 ⟨rfl,hb⟩;have B1:=bt_ B0 hb;have R1:=hd_ (R0.o.below hb nr_);clear hb Gi R0 B0;go_wp2_with fail;go_ret;refine⟨_,_,rfl,⟨?_,Hl.o⟩,B1.o⟩;rcases R1.o with h|⟨b,o,h4,h5,h6⟩
 ·cases h
 ·exact .inr ⟨b,o,h4,h5,fun i hi=>by rw[h6 i (Nat.lt_of_lt_of_le hi Hl.o),HV.o i hi]⟩
/-! Integers. -/
def igV (z:Int) (a:OA_) (c:Nat):Value := .agg #[.bool (decide (z<0)),.slice a (wN z.natAbs).length c]
def Zc5 (f:FuncId) (args:Array Value) (w:World) (z:Int):Prop:=Calls Tryz.prog f args w fun e w'=>∃ a c,e = .returned (igV z a c)/\IsX w' a c z.natAbs/\Bw_ w w'
structure Qax (w:World) (x y z:Array Value) (t1 t2 t3:TypeId) (W0:World):Prop where
 fa:W0.heap[w.heap.size]?=some (.cells x t1 (0,0))
 fb:W0.heap[w.heap.size+1]?=some (.cells y t2 (0,0))
 fr:W0.heap[w.heap.size+1+1]?=some (.cells z t3 (0,0))
 bel:Bw_ w W0
theorem Qax.mk'(w:World)(x y z:Array Value)(t1 t2 t3:TypeId):Qax w x y z t1 t2 t3 (((w.alloc (.cells x t1)).alloc (.cells y t2)).alloc (.cells z t3)):=by
 have hA:=heap_alloc_new w (.cells x t1);have hB:=heap_alloc_new (w.alloc (.cells x t1)) (.cells y t2);have hR:=heap_alloc_new ((w.alloc (.cells x t1)).alloc (.cells y t2)) (.cells z t3);have e1:(w.alloc (.cells x t1)).heap.size=w.heap.size+1:=by simp
 have e2:((w.alloc (.cells x t1)).alloc (.cells y t2)).heap.size=w.heap.size+1+1:=by simp
 refine⟨?_,?_,?_,?_⟩
 ·exact Zg hA (((Below.refl _ _).alloc nr_ _).alloc (by simp) _) nr_
 ·rw[e1] at hB;exact Zg hB ((Below.refl _ _).alloc nr_ _) nr_
 ·rw[e2] at hR;exact hR
 ·exact(((Below.refl _ _).alloc nr_ _).alloc (by simp) _).alloc (by simp;omega) _
theorem Qax.next{w W0 W:World}{x y z:Array Value}{t1 t2 t3:TypeId}(h:Qax w x y z t1 t2 t3 W0)(hb:Bw_ W0 W):Qax w x y z t1 t2 t3 W :=
 ⟨Zg h.fa hb nr_,Zg h.fb hb nr_,Zg h.fr hb nr_,h.bel.trans (hb.mono h.bel.size)⟩
def Zpt (w:World) (g:Nat):Prop:=∀ j z,w.cell? ⟨g,j,none⟩≠some (.int .u32 z)
theorem Zpt.two{w:World}{g:Nat}{a b:Value}{t:TypeId}(h:w.heap[g]?=some (.cells #[a,b] t (0,0)))(ha:∀ z,a ≠ .int .u32 z)(hb:∀ z,b ≠ .int .u32 z):Zpt w g:=fun j z hc=>by
 rw[cell_of_row w g j _ t (0,0) h] at hc
 match j,hc with
 | 0,hc=>exact ha z (by simpa using hc)
 | 1,hc=>exact hb z (by simpa using hc)
 | j+2,hc=>simp at hc
theorem Zpt.three{w:World}{g:Nat}{a b c:Value}{t:TypeId}(h:w.heap[g]?=some (.cells #[a,b,c] t (0,0)))(ha:∀ z,a ≠ .int .u32 z)(hb:∀ z,b ≠ .int .u32 z)(hc:∀ z,c ≠ .int .u32 z):Zpt w g:=fun j z hj=>by
 rw[cell_of_row w g j _ t (0,0) h] at hj
 match j,hj with
 | 0,hj=>exact ha z (by simpa using hj)
 | 1,hj=>exact hb z (by simpa using hj)
 | 2,hj=>exact hc z (by simpa using hj)
 | j+3,hj=>simp at hj
theorem Qc.apart{w:World}{g:Nat}{a:OA_}{l:List Nat}(h:Qc w a l)(hn:Zpt w g):l=[]\/∃ b off,a=some ⟨b,off,none⟩/\(∃ cs,w.heap[b]?=some (.cells cs 131 (0,0)))/\b≠g/\∀ i,i<l.length->w.cell? ⟨b,off+i,none⟩=some (.int .u32 (l.getD i 0:Nat)):=by
 rcases h with h|⟨b,o,h1,h2,h3⟩
 ·exact .inl h
 ·by_cases h0:l=[]
  ·exact .inl h0
  ·refine .inr ⟨b,o,h1,h2,fun hb=>?_,h3⟩;subst hb;exact hn _ _ (h3 0 (List.length_pos_iff.2 h0))
theorem Qc.set2{w:World}{g:Nat}{a:OA_}{l:List Nat}(h:Qc w a l)(hn:Zpt w g)(x y:Value):Qc ((w.setCell ⟨g,0,none⟩ x).setCell ⟨g,1,none⟩ y) a l:=by
 rcases h.apart hn with h|⟨b,o,h1,h2,h3,h4⟩
 ·exact .inl h
 ·refine .inr ⟨b,o,h1,⟨h2.choose,by rw[Below.heap_setCell _ _ _ _ h3,Below.heap_setCell _ _ _ _ h3];exact h2.choose_spec⟩,fun i hi=>?_⟩;rw[World.cell?_setCell_other _ _ _ _ (by simp),World.cell?_setCell_other _ _ _ _ (by simp)];exact h4 i hi
theorem Qc.set3{w:World}{g:Nat}{a:OA_}{l:List Nat}(h:Qc w a l)(hn:Zpt w g)(x y z:Value):Qc (((w.setCell ⟨g,0,none⟩ x).setCell ⟨g,1,none⟩ y).setCell ⟨g,2,none⟩ z) a l:=by
 rcases h.apart hn with h|⟨b,o,h1,h2,h3,h4⟩
 ·exact .inl h
 ·refine .inr ⟨b,o,h1,⟨h2.choose,by rw[Below.heap_setCell _ _ _ _ h3,Below.heap_setCell _ _ _ _ h3,Below.heap_setCell _ _ _ _ h3];exact h2.choose_spec⟩,fun i hi=>?_⟩;rw[World.cell?_setCell_other _ _ _ _ (by simp),World.cell?_setCell_other _ _ _ _ (by simp),World.cell?_setCell_other _ _ _ _ (by simp)];exact h4 i hi
theorem IsX.set2{w:World}{g c n:Nat}{a:OA_}(h:IsX w a c n)(hn:Zpt w g)(x y:Value):IsX ((w.setCell ⟨g,0,none⟩ x).setCell ⟨g,1,none⟩ y) a c n:=⟨h.1.set2 hn x y,h.2⟩
theorem IsX.set3{w:World}{g c n:Nat}{a:OA_}(h:IsX w a c n)(hn:Zpt w g)(x y z:Value):IsX (((w.setCell ⟨g,0,none⟩ x).setCell ⟨g,1,none⟩ y).setCell ⟨g,2,none⟩ z) a c n:=⟨h.1.set3 hn x y z,h.2⟩
theorem Zz{w:World}{g:Nat}{s:Bool}{a:OA_}{m c:Nat}{t:TypeId}(h:w.heap[g]?=some (.cells #[.bool s,.slice a m c] t (0,0))):Zpt w g:=Zpt.two h (fun z=>by simp) (fun z=>by simp)
theorem Zbw{w:World}{g:Nat}{s:Bool}{a b:OA_}{m c n d:Nat}{t:TypeId}(h:w.heap[g]?=some (.cells #[.bool s,.slice a m c,.slice b n d] t (0,0))):Zpt w g:=Zpt.three h (fun z=>by simp) (fun z=>by simp) (fun z=>by simp)
theorem Zoj(w:World)(z:Int)(h0:0<=z)(h1:z<9223372036854775808):Zc5 68 #[.int .i64 z] w z:=by
 unfold Zc5 igV;obtain⟨n,rfl⟩:=Int.eq_ofNat_of_zero_le h0;have Gh:¬ ((n:Nat):Int)<0:=by omega
 rw[Int.natAbs_natCast,decide_eq_false Gh];have HO:=hd_ (fun W=>Zkl W n (by omega));unfold Ye at HO;have hw:IntKind.u64.wrap (n:Int)=n:=Qk n (by omega);have N0:=hd_ (Kj w #[.bool false,.slice none 0 0] 119 _ rfl);have B0:=hd_ ((Below.refl w.heap.size w).alloc nr_ (.cells #[.bool false,.slice none 0 0] 119));go_enter Tryz.func68,Tryz.ntmps68;go_wp2_with fail;generalize w.alloc (.cells #[.bool false,.slice none 0 0] 119)=w1 at *;refine cm_ (HO.o w1) ?_;rintro e w2 ⟨a,c,rfl,hi,hb⟩;have N1:=hk_ N0 hb;have B1:=bt_ B0 hb;have HI:=hd_ hi;clear hb hi HO N0 B0;obtain⟨k0_,k1_,Et,Es⟩:=Ka N1.o;have gZ:=hd_ (Kl (.bool false) (.slice a (wN n).length c) k0_ k1_ nr_ B1.o);have EF:=hd_ (HI.o.set2 (Zz N1.o) (.bool false) (.slice a (wN n).length c));go_wp2;obtain⟨c0_,c1_,hb_⟩:=gZ.o;generalize ((w2).setCell ⟨w.heap.size,0,none⟩ (.bool false)).setCell ⟨w.heap.size,1,none⟩ (.slice a (wN n).length c)=w9_ at *;exact bodyPost_ret (v := .agg #[.bool false,.slice a (wN n).length c]) (by simp[results,Tryz.results68,go_sem,c0_,c1_]) rfl ⟨_,_,rfl,EF.o,hb_⟩
theorem Zr5{x y:Int}(h:x.natAbs*y.natAbs≠0):decide (x*y<0)=(decide (x<0) != decide (y<0)):=by
 have h1:x≠0:=fun e=>h (by rw[e];simp)
 have h2:y≠0:=fun e=>h (by rw[e];simp)
 rcases Int.lt_or_lt_of_ne h1 with hx|hx<;>rcases Int.lt_or_lt_of_ne h2 with hy|hy
 ·have:=Int.mul_pos_of_neg_of_neg hx hy
  rw[decide_eq_true hx,decide_eq_true hy,decide_eq_false (by omega)];rfl
 ·have:=Int.mul_neg_of_neg_of_pos hx hy
  rw[decide_eq_true hx,decide_eq_false (by omega:¬ y<0),decide_eq_true this];rfl
 ·have:=Int.mul_neg_of_pos_of_neg hx hy
  rw[decide_eq_false (by omega:¬ x<0),decide_eq_true hy,decide_eq_true this];rfl
 ·have:=Int.mul_pos hx hy
  rw[decide_eq_false (by omega:¬ x<0),decide_eq_false (by omega:¬ y<0),decide_eq_false (by omega)];rfl
theorem Zrs{x y:Int}(h:x.natAbs*y.natAbs=0):decide (x*y<0)=false:=by
 have:x*y=0:=by
  rw[<- Int.natAbs_mul] at h;exact Int.natAbs_eq_zero.1 h
 rw[this];rfl
theorem Zew(w:World)(x y:Int)(a1 a2:OA_)(c1 c2:Nat)(h1:IsX w a1 c1 x.natAbs)(h2:IsX w a2 c2 y.natAbs)(l1:Qx x.natAbs)(l2:Qx y.natAbs):
  Zc5 153 #[igV x a1 c1,igV y a2 c2] w (x*y):=by
 unfold Zc5 igV;have Hs:=hd_ (Zr5 (x:=x) (y:=y));have Hz:=hd_ (Zrs (x:=x) (y:=y));rw[Int.natAbs_mul];have HP:=hd_ (fun W (hW:Bw_ w W)=>Zad W a1 a2 c1 c2 _ _ (h1.1.below hW nr_) (h2.1.below hW nr_) l1 l2);unfold Ye at HP;clear h1 h2 l1 l2;generalize decide (x<0)=sx at *;generalize decide (y<0)=sy at *;generalize decide (x*y<0)=sz at *;generalize x.natAbs=p at *;generalize y.natAbs=q at *;generalize (wN p).length=m1 at *;generalize (wN q).length=m2 at *;have H3:=hd_ (Qax.mk' w #[.bool sx,.slice a1 m1 c1] #[.bool sy,.slice a2 m2 c2] #[.bool false,.slice none 0 0] 119 119 119);obtain⟨k0,k1,-,-⟩:=Ka H3.o.fa;obtain⟨k2,k3,-,-⟩:=Ka H3.o.fb;go_enter Tryz.func153,Tryz.ntmps153;go_wp2_with fail;generalize ((w.alloc (.cells #[.bool sx,.slice a1 m1 c1] 119)).alloc (.cells #[.bool sy,.slice a2 m2 c2] 119)).alloc (.cells #[.bool false,.slice none 0 0] 119)=W0 at *;clear k0 k1 k2 k3;refine cm_ (HP.o W0 H3.o.bel) ?_;rintro e w1 ⟨a,c,rfl,hi,hb⟩;have H4:=hd_ (H3.o.next hb);have HI:=hd_ hi;clear hb hi HP H3;obtain⟨k0,k1,-,-⟩:=Ka H4.o.fa;obtain⟨k2,k3,-,-⟩:=Ka H4.o.fb;have B1:=hd_ H4.o.bel
 by_cases hpq:p*q=0
 ·have hl:(wN (p*q)).length=0:=by rw[hpq,Va];rfl
  have Hv:=hd_ (Hz.o hpq);have di:¬ (0:Int)<(((wN (p*q)).length:Nat):Int):=by omega
  clear Hs Hz hpq hl;obtain⟨k0_,k1_,Et,Es⟩:=Ka H4.o.fr;have gZ:=hd_ (Kl (.bool false) (.slice a (wN (p*q)).length c) k0_ k1_ (by omega) B1.o);have EF:=hd_ (HI.o.set2 (Zz H4.o.fr) (.bool false) (.slice a (wN (p*q)).length c));go_wp2;obtain⟨c0_,c1_,hb_⟩:=gZ.o;generalize ((w1).setCell ⟨w.heap.size+1+1,0,none⟩ (.bool false)).setCell ⟨w.heap.size+1+1,1,none⟩ (.slice a (wN (p*q)).length c)=w9_ at *;exact bodyPost_ret (v := .agg #[.bool false,.slice a (wN (p*q)).length c]) (by simp[results,Tryz.results153,go_sem,c0_,c1_]) rfl ⟨a,c,by first | (rw[Hv.o];done) | (rw[Hv.o];rfl),EF.o,hb_⟩
 ·have hl:=Zl.2 (Nat.pos_of_ne_zero hpq);have Hv:=hd_ (Hs.o hpq);have di:(0:Int)<(((wN (p*q)).length:Nat):Int):=by omega
  clear Hs Hz hpq hl;obtain⟨k0_,k1_,Et,Es⟩:=Ka H4.o.fr;have gZ:=hd_ (Kl (.bool (!(sx==sy))) (.slice a (wN (p*q)).length c) k0_ k1_ (by omega) B1.o);have EF:=hd_ (HI.o.set2 (Zz H4.o.fr) (.bool (!(sx==sy))) (.slice a (wN (p*q)).length c));go_wp2;obtain⟨c0_,c1_,hb_⟩:=gZ.o;generalize ((w1).setCell ⟨w.heap.size+1+1,0,none⟩ (.bool (!(sx==sy)))).setCell ⟨w.heap.size+1+1,1,none⟩ (.slice a (wN (p*q)).length c)=w9_ at *;exact bodyPost_ret (v := .agg #[.bool (!(sx==sy)),.slice a (wN (p*q)).length c]) (by simp[results,Tryz.results153,go_sem,c0_,c1_]) rfl ⟨a,c,by first | (rw[Hv.o];done) | (rw[Hv.o];rfl),EF.o,hb_⟩
theorem Qat{x y:Int}(h:(decide (x<0)==decide (y<0))=true):decide (x+y<0)=decide (x<0)/\(x+y).natAbs=x.natAbs+y.natAbs:=by
 have h:=eq_of_beq h
 by_cases hx:x<0
 ·rw[decide_eq_true hx] at h ⊢;have hy:y<0:=of_decide_eq_true h.symm;exact⟨decide_eq_true (by omega),by omega⟩
 ·rw[decide_eq_false hx] at h ⊢;have hy:¬ y<0:=of_decide_eq_false h.symm;exact⟨decide_eq_false (by omega),by omega⟩
theorem Zxo{x y:Int}(h:(decide (x<0)==decide (y<0))=false):
  (Vi x.natAbs y.natAbs=1->decide (x+y<0)=decide (x<0)/\(x+y).natAbs=x.natAbs-y.natAbs/\y.natAbs<=x.natAbs) /\
  (Vi x.natAbs y.natAbs = -1->decide (x+y<0)=decide (y<0)/\(x+y).natAbs=y.natAbs-x.natAbs/\x.natAbs<=y.natAbs) /\
  (Vi x.natAbs y.natAbs≠1->Vi x.natAbs y.natAbs ≠ -1->x+y=0):=by
 have h:¬ decide (x<0)=decide (y<0):=fun e=>by rw[e,beq_self_eq_true] at h;cases h
 have c1:Vi x.natAbs y.natAbs=1->y.natAbs<x.natAbs:=by unfold Vi;intro e;split at e;(· omega);(split at e<;>omega)
 have c2:Vi x.natAbs y.natAbs = -1->x.natAbs<y.natAbs:=by unfold Vi;intro e;split at e;(· omega);(split at e<;>omega)
 have c3:Vi x.natAbs y.natAbs≠1->Vi x.natAbs y.natAbs ≠ -1->x.natAbs=y.natAbs:=by
  unfold Vi;split
  ·intro _ e;exact absurd rfl e
  ·split
   ·intro _ _;assumption
   ·intro e;exact absurd rfl e
 by_cases hx:x<0
 ·rw[decide_eq_true hx] at h ⊢;have hy:¬ y<0:=fun e=>h (decide_eq_true e).symm
  rw[decide_eq_false hy];refine⟨fun e=>?_,fun e=>?_,fun e1 e2=>?_⟩
  ·have:=c1 e;exact⟨decide_eq_true (by omega),by omega,by omega⟩
  ·have:=c2 e;exact⟨decide_eq_false (by omega),by omega,by omega⟩
  ·have:=c3 e1 e2;omega
 ·rw[decide_eq_false hx] at h ⊢;have hy:y<0:=Classical.byContradiction fun e=>h (decide_eq_false e).symm
  rw[decide_eq_true hy];refine⟨fun e=>?_,fun e=>?_,fun e1 e2=>?_⟩
  ·have:=c1 e;exact⟨decide_eq_false (by omega),by omega,by omega⟩
  ·have:=c2 e;exact⟨decide_eq_true (by omega),by omega,by omega⟩
  ·have:=c3 e1 e2;omega
theorem Zlm(w:World)(x y:Int)(a1 a2:OA_)(c1 c2:Nat)(h1:IsX w a1 c1 x.natAbs)(h2:IsX w a2 c2 y.natAbs)(l1:Qx x.natAbs)(l2:Qx y.natAbs):
  Zc5 67 #[igV x a1 c1,igV y a2 c2] w (x+y):=by
 unfold Zc5 igV;have HS:=hd_ (Qat (x:=x) (y:=y));have HO:=hd_ (Zxo (x:=x) (y:=y));have HP:=hd_ (fun W (hW:Bw_ w W)=>Zec W a1 a2 c1 c2 _ _ (h1.1.below hW nr_) (h2.1.below hW nr_) l1 l2);have Cm:=hd_ (fun W (hW:Bw_ w W) h=>Zhm W a1 a2 c1 c2 x.natAbs y.natAbs (h1.1.below hW nr_) (h2.1.below hW nr_) l1 h);have FR:=hd_ (fun W (hW:Bw_ w W) h=>Zhm W a2 a1 c2 c1 y.natAbs x.natAbs (h2.1.below hW nr_) (h1.1.below hW nr_) l2 h);have HC:=hd_ (fun W (hW:Bw_ w W)=>Zar W a1 a2 c1 c2 x.natAbs y.natAbs (h1.1.below hW nr_) (h2.1.below hW nr_) (Nat.le_trans l1 (by decide)));unfold Ye at HP Cm FR;clear h1 h2 l1 l2;have H3:=hd_ (Qax.mk' w #[.bool (decide (x<0)),.slice a1 (wN x.natAbs).length c1] #[.bool (decide (y<0)),.slice a2 (wN y.natAbs).length c2] #[.bool false,.slice none 0 0] 119 119 119);obtain⟨v,hv⟩:∃ v,Vi x.natAbs y.natAbs=v:=⟨_,rfl⟩;rw[hv] at HO HC;have Hz:Hid (x+y=0->decide (x+y<0)=false/\(x+y).natAbs=0):=fun e=>by rw[e];exact⟨rfl,rfl⟩
 clear hv;generalize decide (x<0)=sx at *;generalize decide (y<0)=sy at *;generalize decide (x+y<0)=sz at *;generalize (x+y).natAbs=r at *;generalize x.natAbs=p at *;generalize y.natAbs=q at *;generalize fJ:(wN p).length=m1 at *;generalize Cb:(wN q).length=m2 at *;clear fJ Cb;obtain⟨k0,k1,-,-⟩:=Ka H3.o.fa;obtain⟨k2,k3,-,-⟩:=Ka H3.o.fb;cases hs:(sx==sy) with
 | true =>
  obtain⟨e1,e2⟩:=HS.o hs;have E1:=hd_ e1;have E2:=hd_ e2;clear e1 e2 HS HO Cm FR HC Hz;go_enter Tryz.func67,Tryz.ntmps67;go_wp2_with fail;generalize ((w.alloc (.cells #[.bool sx,.slice a1 m1 c1] 119)).alloc (.cells #[.bool sy,.slice a2 m2 c2] 119)).alloc (.cells #[.bool false,.slice none 0 0] 119)=W1 at *;have q0:=NW.cell k0;have q1:=NW.cell k1;have q2:=NW.cell k2;have q3:=NW.cell k3;have gn:Nonempty (NW W1):=⟨⟨W1,Below.refl _ _⟩⟩;have I:Hid (Bw_ W1 W1.drew):=(Below.refl _ _).drew;clear k0 k1 k2 k3;refine wn_ 8 [(1,0),(1,1),(1,2),(1,3),(1,4),(1,5),(0,6),(2,7),(0,8)] I ?_;iterate 6 (refine wr_ rfl ?_;go_big_quiet_step (fail);refine wq_ ?_)
  iterate 1 (refine wm_ rfl ?_;go_wp2_with fail)
  refine cm_ (HP.o _ (H3.o.bel.trans (I.o.mono H3.o.bel.size))) ?_;rintro e_ w2 ⟨a,c,rfl,hi,hb⟩;have I1:Hid (Bw_ W1 w2):=I.o.trans (hb.mono I.o.size);have H5:=hd_ (H3.o.next I1.o);have HI:=hd_ hi;clear hb hi I H3;go_wp2_with fail;refine⟨⟨⟨_,I1.o⟩,rfl⟩,?_⟩;refine wa_ rfl ?_;go_big_quiet_step (fail);refine wq_ ?_;obtain⟨k0_,k1_,Et,Es⟩:=Ka H5.o.fr;have gZ:=hd_ (Kl (.bool sx) (.slice a (wN (p+q)).length c) k0_ k1_ (show w.heap.size<=w.heap.size+1+1 by omega) H5.o.bel);have EF:=hd_ (HI.o.set2 (Zz H5.o.fr) (.bool sx) (.slice a (wN (p+q)).length c));iterate 1 (refine wm_ rfl ?_;go_wp2_with fail)
  simp only[RP.walkR];go_wp2_with fail;obtain⟨c0_,c1_,hb_⟩:=gZ.o;exact bodyPost_ret (v := .agg #[.bool sx,.slice a (wN (p+q)).length c]) (by simp[results,Tryz.results67,go_sem,c0_,c1_]) rfl ⟨a,c,by rw[E1.o,E2.o],by rw[E2.o];exact EF.o,hb_⟩
 | false =>
  have fO:=hd_ (HO.o hs);clear HS HP HO;go_enter Tryz.func67,Tryz.ntmps67;go_wp2_with fail;generalize ((w.alloc (.cells #[.bool sx,.slice a1 m1 c1] 119)).alloc (.cells #[.bool sy,.slice a2 m2 c2] 119)).alloc (.cells #[.bool false,.slice none 0 0] 119)=W1 at *;clear k0 k1 k2 k3;refine cm_ (HC.o _ H3.o.bel) ?_;rintro e w1 ⟨rfl,hb⟩;replace H3:=hd_ (H3.o.next hb);clear hb HC;obtain⟨k0,k1,-,-⟩:=Ka H3.o.fa;obtain⟨k2,k3,-,-⟩:=Ka H3.o.fb;obtain⟨o1,o2,o3⟩:=fO.o;clear fO
  by_cases hv1:v=1
  ·obtain⟨e1,e2,e3⟩:=o1 hv1;have E1:=hd_ e1;have E2:=hd_ e2;have HL:=hd_ (fun W hW=>Cm.o W hW e3);subst hv1;clear e1 e2 e3 o1 o2 o3 Cm FR Hz;go_wp2_with fail;have q0:=NW.cell k0;have q1:=NW.cell k1;have q2:=NW.cell k2;have q3:=NW.cell k3;have gn:Nonempty (NW w1):=⟨⟨w1,Below.refl _ _⟩⟩;have I:Hid (Bw_ w1 w1.drew):=(Below.refl _ _).drew;clear k0 k1 k2 k3;refine wn_ 8 [(1,0),(1,1),(1,2),(1,3),(1,4),(1,5),(0,6),(2,7),(0,8)] I ?_;iterate 6 (refine wr_ rfl ?_;go_big_quiet_step (fail);refine wq_ ?_)
   iterate 1 (refine wm_ rfl ?_;go_wp2_with fail)
   refine cm_ (HL.o _ (H3.o.bel.trans (I.o.mono H3.o.bel.size))) ?_;rintro e_ w2 ⟨a,c,rfl,hi,hb⟩;have I1:Hid (Bw_ w1 w2):=I.o.trans (hb.mono I.o.size);have H5:=hd_ (H3.o.next I1.o);have HI:=hd_ hi;clear hb hi I H3;go_wp2_with fail;refine⟨⟨⟨_,I1.o⟩,rfl⟩,?_⟩;refine wa_ rfl ?_;go_big_quiet_step (fail);refine wq_ ?_;obtain⟨k0_,k1_,Et,Es⟩:=Ka H5.o.fr;have gZ:=hd_ (Kl (.bool sx) (.slice a (wN (p-q)).length c) k0_ k1_ (show w.heap.size<=w.heap.size+1+1 by omega) H5.o.bel);have EF:=hd_ (HI.o.set2 (Zz H5.o.fr) (.bool sx) (.slice a (wN (p-q)).length c));iterate 1 (refine wm_ rfl ?_;go_wp2_with fail)
   simp only[RP.walkR];go_wp2_with fail;obtain⟨c0_,c1_,hb_⟩:=gZ.o;exact bodyPost_ret (v := .agg #[.bool sx,.slice a (wN (p-q)).length c]) (by simp[results,Tryz.results67,go_sem,c0_,c1_]) rfl ⟨a,c,by rw[E1.o,E2.o],by rw[E2.o];exact EF.o,hb_⟩
  ·by_cases hv2:v = -1
   ·obtain⟨e1,e2,e3⟩:=o2 hv2;have E1:=hd_ e1;have E2:=hd_ e2;have HL:=hd_ (fun W hW=>FR.o W hW e3);subst hv2;clear e1 e2 e3 o1 o2 o3 Cm FR Hz hv1;go_wp2_with fail;have q0:=NW.cell k0;have q1:=NW.cell k1;have q2:=NW.cell k2;have q3:=NW.cell k3;have gn:Nonempty (NW w1):=⟨⟨w1,Below.refl _ _⟩⟩;have I:Hid (Bw_ w1 w1.drew):=(Below.refl _ _).drew;clear k0 k1 k2 k3;refine wn_ 8 [(1,0),(1,1),(1,2),(1,3),(1,4),(1,5),(0,6),(2,7),(0,8)] I ?_;iterate 6 (refine wr_ rfl ?_;go_big_quiet_step (fail);refine wq_ ?_)
    iterate 1 (refine wm_ rfl ?_;go_wp2_with fail)
    refine cm_ (HL.o _ (H3.o.bel.trans (I.o.mono H3.o.bel.size))) ?_;rintro e_ w2 ⟨a,c,rfl,hi,hb⟩;have I1:Hid (Bw_ w1 w2):=I.o.trans (hb.mono I.o.size);have H5:=hd_ (H3.o.next I1.o);have HI:=hd_ hi;clear hb hi I H3;go_wp2_with fail;refine⟨⟨⟨_,I1.o⟩,rfl⟩,?_⟩;refine wa_ rfl ?_;go_big_quiet_step (fail);refine wq_ ?_;obtain⟨k0_,k1_,Et,Es⟩:=Ka H5.o.fr;have gZ:=hd_ (Kl (.bool sy) (.slice a (wN (q-p)).length c) k0_ k1_ (show w.heap.size<=w.heap.size+1+1 by omega) H5.o.bel);have EF:=hd_ (HI.o.set2 (Zz H5.o.fr) (.bool sy) (.slice a (wN (q-p)).length c));iterate 1 (refine wm_ rfl ?_;go_wp2_with fail)
    simp only[RP.walkR];go_wp2_with fail;obtain⟨c0_,c1_,hb_⟩:=gZ.o;exact bodyPost_ret (v := .agg #[.bool sy,.slice a (wN (q-p)).length c]) (by simp[results,Tryz.results67,go_sem,c0_,c1_]) rfl ⟨a,c,by rw[E1.o,E2.o],by rw[E2.o];exact EF.o,hb_⟩
   ·obtain⟨e1,e2⟩:=Hz.o (o3 hv1 hv2);have E1:=hd_ e1;have E2:=hd_ e2;have hZ:(v==1)=false:=by rw[beq_eq_false_iff_ne];exact hv1
    have HU:(v == -1)=false:=by rw[beq_eq_false_iff_ne];exact hv2
    have HN:=hd_ (IsX.zero w1);have B1:=hd_ H3.o.bel;clear e1 e2 o1 o2 o3 Cm FR Hz hv1 hv2 k0 k1 k2 k3;obtain⟨k0_,k1_,Et,Es⟩:=Ka H3.o.fr;have gZ:=hd_ (Kl (.bool false) (.slice none 0 0) k0_ k1_ (by omega) B1.o);have EF:=hd_ (HN.o.set2 (Zz H3.o.fr) (.bool false) (.slice none 0 0));go_wp2;obtain⟨c0_,c1_,hb_⟩:=gZ.o;generalize ((w1).setCell ⟨w.heap.size+1+1,0,none⟩ (.bool false)).setCell ⟨w.heap.size+1+1,1,none⟩ (.slice none 0 0)=w9_ at *;exact bodyPost_ret (v := .agg #[.bool false,.slice none 0 0]) (by simp[results,Tryz.results67,go_sem,c0_,c1_]) rfl ⟨none,0,by rw[E1.o,E2.o,Va];rfl,by rw[E2.o];exact EF.o,hb_⟩
def Zor:Go.Shelf.Ren:=⟨fun | 25=>313 | n=>n,fun | 22=>204 | n=>n,fun | n=>n⟩
theorem Qc0:Go.Proofs.Lays7.n25 Tryz.prog Zor:={
 mixed:=by kernel_rfl
 f25:=Tryz.func313.trans (congrArg some (by kernel_rfl))
 t22:=Tryz.underlying204
 a22:=Tryz.isAgg204
 z22:=Tryz.sizeOf204
 v22:=Tryz.zeroValue204
 i22:=by kernel_rfl }
theorem Znm(x y c:Nat)(hc:c<=1)(w:World):
  (callFunc 313 #[.int .u64 x,.int .u64 y,.int .u64 c]).run Tryz.prog w = .ok (.value (.tuple #[.int .u64 (((x+y+c)%18446744073709551616:Nat):Int),.int .u64 (((x+y+c)/18446744073709551616:Nat):Int)])) w:=Any7.bits_Add64 Qc0 x y c hc w
theorem Zjv(x y:Nat)(w:World):
  (callFunc 313 #[.int .u64 x,.int .u64 y,.int .u64 0]).run Tryz.prog w = .ok (.value (.tuple #[.int .u64 (((x+y)%18446744073709551616:Nat):Int),.int .u64 (((x+y)/18446744073709551616:Nat):Int)])) w:=Znm x y 0 (by omega) w
structure Qhf (p:List Nat) (B k:Nat) (L:List Nat) (w wr:World):Prop where
 len:L.length=2*p.length+1
 pcs:Wds L
 v:vW L=vW (p.take k)*vW p
 z:∀ j,k+p.length<=j->L.getD j 0=0
 own:Qv wr B (some ⟨B,0,none⟩) (2*p.length+1) L
 bel:Below B w wr
structure QIn (p L:List Nat) (B i m cc:Nat) (M:List Nat) (w wr:World):Prop where
 len:M.length=2*p.length+1
 pcs:Wds M
 v:vW M+18446744073709551616^(i+m)*cc=vW L+18446744073709551616^i*(p.getD i 0*vW (p.take m))
 z:∀ j,i+p.length<=j->M.getD j 0=0
 own:Qv wr B (some ⟨B,0,none⟩) (2*p.length+1) M
 bel:Below B w wr
theorem Qcv{x y:Nat}(hx:x<18446744073709551616)(hy:y<18446744073709551616):x*y<=340282366920938463426481119284349108225:=Nat.mul_le_mul (show x<=18446744073709551615 by omega) (show y<=18446744073709551615 by omega)
structure SqW (xy e cc h l l1 c1 h1 l2 c2 h2:Nat):Prop where
 hh:xy/18446744073709551616=h
 hl:xy%18446744073709551616=l
 k1:(l+e)%18446744073709551616=l1
 k2:(l+e)/18446744073709551616=c1
 k3:h+c1=h1
 k4:(l1+cc)%18446744073709551616=l2
 k5:(l1+cc)/18446744073709551616=c2
 k6:h1+c2=h2
 r1:(xy+e+cc)%18446744073709551616=l2
 r2:(xy+e+cc)/18446744073709551616=h2
 b1:h1<18446744073709551616
 b2:h2<18446744073709551616
theorem sqW{xy e cc:Nat}(fB:xy<=340282366920938463426481119284349108225)(he:e<18446744073709551616)(hc:cc<18446744073709551616):
  ∃ h l l1 c1 h1 l2 c2 h2,SqW xy e cc h l l1 c1 h1 l2 c2 h2:=by
 refine⟨_,_,_,_,_,_,_,_,⟨rfl,rfl,rfl,rfl,rfl,rfl,rfl,rfl,?_,?_,?_,?_⟩⟩<;>omega
theorem Zix(w:World)(a1:OA_)(c1:Nat)(p:List Nat)(h1:Kx w a1 p)(p1:Wds p)(l1:p.length<=10000):
  Calls Tryz.prog 306 #[.slice a1 p.length c1] w fun e w'=>∃ a c L,e = .returned (.slice a (2*p.length+1) c)/\L.length=2*p.length+1/\Qv w' w.heap.size a c L/\Wds L/\vW L=vW p*vW p/\Bw_ w w':=by
 have H1:=hd_ h1;have P1:=hd_ p1;clear h1 p1;obtain⟨n,hn⟩:∃ n,p.length=n:=⟨_,rfl⟩;have Hn:=hd_ hn;rw[hn] at l1 ⊢;clear hn;have fl:=Zvy (2*n+1) w (by omega);have gw:=hd_ (Zb7 w (List.replicate (2*n+1) 0) (by simp;omega));have Hb:=hd_ ((Below.refl w.heap.size w).alloc nr_ (.cells (Zk (List.replicate (2*n+1) 0)).toArray 204))
 push_cast at fl
 generalize w.alloc (.cells (Zk (List.replicate (2*n+1) 0)).toArray 204)=w1 at *;go_enter Tryz.func306,Tryz.ntmps306;go_wp2_with fail
 go_loopw [19] (fun i wr=>∃ (k:Nat) (L:List Nat),k<=n/\i = .int .i64 k/\Hid (Qhf p w.heap.size k L w wr)) (fun i _=>n-(intOf i).toNat)
 case atStart =>
  refine⟨0,List.replicate (2*n+1) 0,Nat.zero_le _,rfl,?_⟩;refine⟨by simp[Hn.o],Wds.zeros _,by simp[Zj0,vW],fun j _=>?_,?_,Hb.o⟩
  ·rw[List.getD_eq_getElem?_getD,List.getElem?_replicate];split<;>rfl
  ·have:=gw.o
   rw[List.length_replicate] at this;rw[Hn.o];exact this
 case round =>
  obtain⟨k,L,hk,rfl,HT⟩:=hrel;clear gw Hb fl
  by_cases H7:k<n
  ·obtain⟨b1,o1,rfl,hZ,gC⟩:=H1.o.open (by rw[Hn.o];omega);have cx:=gC k (by rw[Hn.o];exact H7);rw[<- HT.o.bel.cell (p:=⟨b1,o1+k,none⟩) hZ] at cx;have hx:=P1.o.getD k;clear gC;obtain⟨x,hxx⟩:∃ x,p.getD k 0=x:=⟨_,rfl⟩;rw[hxx] at cx hx;have E3:=hd_ hxx;clear hxx;obtain⟨wo,hwo⟩:∃ wo:World,wo=wr:=⟨_,rfl⟩;subst hwo;go_wp2_with fail
   go_loopw [6,26] (fun c j wr=>∃ (t cc:Nat) (M:List Nat),t<=n/\cc<18446744073709551616/\j = .int .i64 t/\c = .int .u64 cc/\Hid (QIn p L w.heap.size k t cc M w wr)) (fun _ j _=>n-(intOf j).toNat)
   case atStart =>
    refine⟨0,0,L,Nat.zero_le _,by omega,rfl,rfl,?_⟩;exact⟨HT.o.len,HT.o.pcs,by simp[vW],HT.o.z,HT.o.own,HT.o.bel⟩
   case round =>
    obtain⟨t,cc,M,ht,Ft,rfl,rfl,HI⟩:=hrel;obtain⟨g,hg,GE,hg2,hg3,hg4,hg5⟩:=HI.o.own.open (by rw[HI.o.len,Hn.o];omega);obtain rfl:w.heap.size=g:=by simpa using hg
    clear hg
    by_cases Gc:t<n
    ·have Of:=H1.o.open (by rw[Hn.o];omega);obtain⟨b2,o2,e2,HU,gR⟩:=Of;have cy:=gR t (by rw[Hn.o];exact Gc);rw[<- HI.o.bel.cell (p:=⟨b2,o2+t,none⟩) HU] at cy;simp only[Option.some.injEq,Addr.mk.injEq,and_true] at e2;obtain⟨rfl,rfl⟩:=e2;have hy:=P1.o.getD t;have ce:=hg4 (k+t) (by rw[HI.o.len,Hn.o];omega);have he:=HI.o.pcs.getD (k+t);have fe:=hg5 (k+t);have fB:=Qcv hx hy;have gA:=Qb9 M p k t x cc (vW L) (by rw[Hn.o];exact Gc) (by rw[HI.o.len,Hn.o];omega) (by have:=HI.o.v;rw[E3.o] at this;exact this);have gt:Hid (QIn p L w.heap.size k (t+1) ((x*p.getD t 0+M.getD (k+t) 0+cc)/18446744073709551616) (M.set (k+t) ((x*p.getD t 0+M.getD (k+t) 0+cc)%18446744073709551616)) w (wr.setCell ⟨w.heap.size,k+t,none⟩ (.int .u64 ((x*p.getD t 0+M.getD (k+t) 0+cc)%18446744073709551616:Nat)))) :=
      ⟨by rw[List.length_set];exact HI.o.len,HI.o.pcs.set _ _ (Nat.mod_lt _ (by decide)),by rw[E3.o];exact gA,fun j hj=>by rw[Za2 _ _ _ _ (by have:=Hn.o;omega)];exact HI.o.z j hj,HI.o.own.store (k+t) _,HI.o.bel.setCell (p:=⟨w.heap.size,k+t,none⟩) nr_ _⟩
     have fJ:=Tryz.bits_Mul64 x (p.getD t 0) hx hy wr;clear gA gR hg4 hg5;generalize M.getD (k+t) 0=e at *;generalize p.getD t 0=y at *;generalize x*y=xy at *;obtain⟨h,l,mK,c1',E0,l2,c2,h2,W⟩:=sqW fB he Ft;have Mr:=fun W=>Zjv l e W
     have Mq:=fun W=>Zjv mK cc W
     rw[W.k1,W.k2] at Mr;rw[W.k4,W.k5] at Mq;rw[W.hh,W.hl] at fJ;rw[W.r1,W.r2] at gt;have fh:IntKind.u64.wrap ((h:Int)+c1')=(E0:Nat):=by rw[<- Int.natCast_add,W.k3];exact Qk _ W.b1
     have fX:IntKind.u64.wrap ((E0:Int)+c2)=(h2:Nat):=by rw[<- Int.natCast_add,W.k6];exact Qk _ W.b2
     have HU:=W.b2;have oo:IntKind.i64.wrap ((k:Int)+t)=((k+t:Nat):Int):=by rw[<- Int.natCast_add];exact iw_ _ (by omega)
     clear W fB hx hy he;go_wp2_with fail;refine cm_ fJ ?_;rintro e_ w3 ⟨rfl,rfl⟩;clear fJ;go_wp2
     go_roundw
     case rel=>exact⟨t+1,h2,_,by omega,HU,by go_num,rfl,gt⟩
     case measure=>simp[intOf];omega
    ·obtain rfl:t=n:=by omega
     have fe:=hg5 (k+t);have ce:=hg4 (k+t) (by rw[HI.o.len,Hn.o];omega);have hz:M.getD (k+t) 0=0:=HI.o.z _ (by rw[Hn.o];exact Nat.le_refl _);have Gg:=Qeu L M p p k cc (by rw[Hn.o];exact H7) (by rw[HI.o.len,Hn.o];omega) (HI.o.z _ nr_) HT.o.v (by rw[Hn.o];exact HI.o.v);rw[Hn.o] at Gg;have GZ:Hid (Qhf p w.heap.size (k+1) (M.set (k+t) cc) w (wr.setCell ⟨w.heap.size,k+t,none⟩ (.int .u64 (cc:Nat)))) :=
      ⟨by rw[List.length_set];exact HI.o.len,HI.o.pcs.set _ _ Ft,Gg,fun j hj=>by rw[Za2 _ _ _ _ (by have:=Hn.o;omega)];exact HI.o.z j (by have:=Hn.o;omega),HI.o.own.store (k+t) cc,HI.o.bel.setCell (p:=⟨w.heap.size,k+t,none⟩) nr_ _⟩
     rw[hz] at ce;have oo:IntKind.i64.wrap ((k:Int)+t)=((k+t:Nat):Int):=by rw[<- Int.natCast_add];exact iw_ _ (by omega)
     have dN:IntKind.u64.wrap (cc:Int)=cc:=Qk _ Ft;clear Gg hg4 hg5 Gc HT hz;go_wp2
     go_roundw
     case rel=>exact⟨k+1,_,by omega,by go_num,GZ⟩
     case measure=>simp[intOf];omega
  ·obtain rfl:k=n:=by omega
   have hv:vW L=vW p*vW p:=by
    have:=HT.o.v
    rw[<- Hn.o,List.take_length] at this;exact this
   have gd:=HT.o.len;rw[Hn.o] at gd;have Hv:=hd_ hv;have Hl:=hd_ gd;have Ho:=HT.o.own;rw[Hn.o] at Ho;have HO:=hd_ Ho;clear hv H7 gd Ho;go_wp2_with fail;go_ret;exact⟨_,_,L,rfl,Hl.o,HO.o,HT.o.pcs,Hv.o,HT.o.bel⟩
theorem Ze1(w:World)(a:OA_)(c:Nat)(l:List Nat)(hr:Kx w a l)(hl:l.length<=30000)(h0:0<l.length):
  Calls Tryz.prog 305 #[.slice a l.length c] w fun e w'=>∃ g d,e = .returned (.slice (some ⟨g,0,none⟩) l.length d)/\Qv w' w.heap.size (some ⟨g,0,none⟩) d l/\Bw_ w w':=by
 obtain⟨i0,hi,hz0,fg,fG⟩:=info_parts Zs4;have Nm:∀ (w:World) (a:OA_) (n c n' c':Nat),(binOp .eql 372 (.slice a n c) (.slice none n' c')).run Tryz.prog w = .ok (.bool a.isNone) w:=fun w a n c n' c'=>Lib.run_eql_slice_nil w _ _ a n c n' c' Tryz.underlying372
 obtain⟨b,o,rfl,Gw,fc⟩:=hr.open h0;have Hc:Hid (∀ j u,(Zk l)[j]?=some u->w.cell? ⟨b,o+j,none⟩=some u):=fun j u hj=>by
  have H7:j<l.length:=by
   have:=(List.getElem?_eq_some_iff.1 hj).1
   rw[Zm] at this;exact this
  rw[Zp0 l j H7] at hj;rw[<- hj];exact fc j H7
 have F0:Hid (∀ u∈Zk l,u.oneCell'=true):=Zx3 l;have gq:Hid ((Zk l).length=l.length):=Zm l;clear fc hr;unfold Qv;generalize Zk l=vs at *;generalize l.length=n at *;go_enter Tryz.func305,Tryz.ntmps305
 go_wp2_with (at_builtin;refine wpList_append_own _ rfl _ _ 372 rfl w.heap.size 204 i0 (.int .u64 0) 1 8 Tryz.underlying372 hi hz0 fg fG rfl (by decide) _ _ _ rfl (World.ownsRow_made w #[] 0 nr_ (Nat.zero_le _) rfl) ⟨b,o,none⟩ n c vs rfl ?qc1 ?qc2 ?qc3 ?qc4 ?qc5 ?qc6 ?_)
 case qc1=>rw[gq.o];omega
 case qc2 =>
  intro j u hj;rw[Addr.add_lit];exact Lib.cell?_alloc_some _ (Hc.o j u hj)
 case qc3=>exact F0.o
 case qc4=>unfold maxLen;omega
 case qc5=>omega
 case qc6=>simp
 intro v' w1 gk gL GD;obtain⟨a3,d3,rfl⟩:=Qj gk;have GJ:w1.ownsRow w.heap.size 204 1 (.slice a3 n d3) n vs:=by simpa using gk
 have B:=hd_ (((Below.refl _ w).alloc nr_ (.cells #[] 204)).grown gL (by simp) (by intro k hk;simp[Value.ownBlock] at hk;omega));obtain⟨g,cap,hv,-,-,-,-,-⟩:=Qy GJ h0;simp only[Value.slice.injEq] at hv;obtain⟨rfl,-,rfl⟩:=hv;have O:=hd_ GJ;clear gk GJ gL GD;go_wp2_with fail;go_ret;exact⟨g,d3,rfl,O.o,B.o⟩
structure NxI (B n k cc N g c:Nat) (M:List Nat) (w wr:World):Prop where
 len:M.length=n+1
 pcs:Wds M
 v:vW M+18446744073709551616^k*cc=N
 own:Qv wr B (some ⟨g,0,none⟩) c M
 bel:Below B w wr
theorem Zy6(w:World)(a1:OA_)(c1:Nat)(p:List Nat)(h1:Kx w a1 p)(p1:Wds p)(l1:p.length<=20000)(h0:0<p.length):
  Calls Tryz.prog 308 #[.slice a1 p.length c1] w fun e w'=>∃ a c L,e = .returned (.slice a (p.length+1) c)/\L.length=p.length+1/\Qv w' w.heap.size a c L/\Wds L/\vW L=vW p+1/\Bw_ w w':=by
 have HC:=hd_ (Ze1 w a1 c1 p h1 (by omega) h0);have P1:=hd_ p1;have H7:=Zru p1;have aV:vW (p++[0])=vW p:=by rw[Zd6];simp[vW]
 have dI:=hd_ H7;have lH:=hd_ aV;have iW:Hid (Wds (p++[0])):=p1.append (Wds.zeros 1);clear p1 H7 aV h1;obtain⟨n,hn⟩:∃ n,p.length=n:=⟨_,rfl⟩;have Hn:=hd_ hn;rw[hn] at l1 h0 HC dI ⊢;clear hn;go_enter Tryz.func308,Tryz.ntmps308;go_wp2_with fail;refine cm_ HC.o ?_;rintro e w1 ⟨g,d,rfl,ho,hb⟩;have HO:=hd_ ho;have HB:=hd_ hb;clear ho hb HC;have gw:Hid (w1.ownsRow w.heap.size 204 1 (.slice (some ⟨g,0,none⟩) n d) n (Zk p)):=by have:=HO.o;unfold Qv at this;rw[Hn.o] at this;exact this
 have fy:=hd_ HB.o.size
 go_wp2_with (at_builtin;refine Kw rfl (.tmp 7) (.tmp 8) 372 rfl elN _ 1 [.int .u64 0] rfl rfl gw.o fy.o rfl (by simp[Value.oneCell']) (by omega) (by omega) ?_)
 intro v' w2 gk gL GD;obtain⟨a3,d3,rfl⟩:=Qj gk;have GJ:w2.ownsRow w.heap.size 204 1 (.slice a3 (n+1) d3) (n+1) (Zk (p++[0])):=by rw[Vf];exact gk
 obtain⟨g2,cap,hv,-,-,-,-,-⟩:=Qy GJ (by omega);simp only[Value.slice.injEq] at hv;obtain⟨rfl,-,rfl⟩:=hv;have gq:Hid ((p++[0]).length=n+1):=by show _=_;rw[List.length_append,Hn.o];rfl
 have D5:Hid (NxI w.heap.size n 0 1 (vW p+1) g2 d3 (p++[0]) w w2):=by
  refine⟨gq.o,iW.o,by rw[Nat.pow_zero,lH.o],?_,(HB.o.alloc fy.o _).grown gL (by rw[World.alloc];simp;have:=fy.o;omega) (by intro k hk;simp[Value.ownBlock] at hk;exact(World.ownsRow.lt gw.o k (by simp[Value.ownBlock];exact hk)).1)⟩;unfold Qv;rw[gq.o];exact GJ
 clear gk GJ gL GD HO HB gw fy iW;go_wp2_with fail
 go_loopw [4,12] (fun cv i wr=>∃ (k cc:Nat) (M:List Nat),k<=n+1/\cc<=1/\i = .int .i64 k/\cv = .int .u64 cc/\Hid (NxI w.heap.size n k cc (vW p+1) g2 d3 M w wr)) (fun _ i _=>n+1-(intOf i).toNat)
 case atStart=>exact⟨0,1,_,Nat.zero_le _,Nat.le_refl _,rfl,rfl,D5⟩
 case round =>
  obtain⟨k,cc,M,hk,Ft,rfl,rfl,HI⟩:=hrel;clear D5
  by_cases H7:k<n+1
  ·obtain⟨g,hg,GE,hg2,hg3,hg4,hg5⟩:=HI.o.own.open (by rw[HI.o.len];omega);obtain rfl:g2=g:=by simpa using hg
   clear hg;have gi:(k:Int)<(n:Int)+1:=by omega
   have ce:=hg4 k (by rw[HI.o.len];exact H7);have fe:=hg5 k;have he:=HI.o.pcs.getD k;have GH:=Zvo M (vW p+1) k cc (by rw[HI.o.len];exact H7) HI.o.v;have FE:∀ W,(callFunc 313 #[.int .u64 (M.getD k 0:Nat),.int .u64 0,.int .u64 cc]).run Tryz.prog W = .ok (.value (.tuple #[.int .u64 (((M.getD k 0+cc)%18446744073709551616:Nat):Int),.int .u64 (((M.getD k 0+cc)/18446744073709551616:Nat):Int)])) W:=fun W=>by
    have:=Znm (M.getD k 0) 0 cc Ft W
    rw[Nat.add_zero] at this;exact this
   have gR:(M.getD k 0+cc)/18446744073709551616<=1:=by omega
   have Aa:IntKind.i64.wrap ((k:Int)+1)=((k+1:Nat):Int):=by rw[<- Int.natCast_succ];exact iw_ _ (by omega)
   have gt:Hid (NxI w.heap.size n (k+1) ((M.getD k 0+cc)/18446744073709551616) (vW p+1) g2 d3 (M.set k ((M.getD k 0+cc)%18446744073709551616)) w (wr.setCell ⟨g2,k,none⟩ (.int .u64 ((M.getD k 0+cc)%18446744073709551616:Nat)))) :=
    ⟨by rw[List.length_set];exact HI.o.len,HI.o.pcs.set _ _ (Nat.mod_lt _ (by decide)),GH,HI.o.own.store k _,HI.o.bel.setCell (p:=⟨g2,k,none⟩) GE _⟩
   have gP:=hd_ gR;clear GH gR hg4 hg5 hg3 he HI;generalize (M.getD k 0+cc)/18446744073709551616=q at *;generalize (M.getD k 0+cc)%18446744073709551616=v at *;generalize M.getD k 0=e at *;go_wp2_with fail;refine⟨⟨k+1,q,_,by omega,gP.o,by go_num,rfl,gt⟩,by simp[intOf];omega⟩
  ·obtain rfl:k=n+1:=by omega
   have gi:¬ ((n+1:Nat):Int)<(n:Int)+1:=by omega
   have hv:=HI.o.v;have dt:cc=0:=by
    have h2:=dI.o;have h3:18446744073709551616^n<18446744073709551616^(n+1):=Nat.pow_lt_pow_right (by decide) (by omega);rcases Nat.eq_zero_or_pos cc with h|h
    ·exact h
    ·have h4:18446744073709551616^(n+1)*1<=18446744073709551616^(n+1)*cc:=Nat.mul_le_mul_left _ h;generalize 18446744073709551616^(n+1)*cc=Z at *;omega
   rw[dt,Nat.mul_zero,Nat.add_zero] at hv;have Hv:=hd_ hv;have gd:=HI.o.len;have Hl:=hd_ gd;have Ho:=HI.o.own;clear hv gd dt;go_wp2_with fail;go_ret;exact⟨_,_,rfl,M,Hl.o,Ho,HI.o.pcs,Hv.o,HI.o.bel⟩
theorem Zu8{l:List Nat}{b wo r:Nat}(e:b=64*wo+r)(hr:r<64)(h:Wds l)(hw:wo<l.length):(∃ i,i<l.length-wo/\(shW l wo r (l.length-wo)).getD i 0≠0)↔2^b<=vW l:=by
 have hv:=Zn7 h (wo:=wo) (m:=l.length-wo) hr (by omega);have hz:=Zgo (shW l wo r (l.length-wo));rw[hv,<- e] at hz;have h1:vW l/2^b=0↔vW l<2^b:=Nat.div_eq_zero_iff_lt (Nat.two_pow_pos b);have hl:=Vc l wo r (l.length-wo);constructor
 ·rintro⟨i,hi,gj⟩;refine Nat.le_of_not_lt fun hc=>?_
  have h2:=hz.1 (h1.2 hc) ((shW l wo r (l.length-wo)).getD i 0);refine gj (h2 ?_);rw[List.getD_eq_getElem?_getD,List.getElem?_eq_getElem (by rw[hl];exact hi)];exact List.getElem_mem _
 ·intro hc;refine Decidable.byContradiction fun hn=>?_
  have h2:=h1.1 (hz.2 fun x hx=>?_)
  ·omega
  ·obtain⟨i,hi,rfl⟩:=List.mem_iff_getElem.1 hx;refine Decidable.byContradiction fun hx=>hn ⟨i,by rw[hl] at hi;exact hi,?_⟩
   rw[List.getD_eq_getElem?_getD,List.getElem?_eq_getElem hi];exact hx
theorem Zoc(w:World)(a1:OA_)(c1:Nat)(p:List Nat)(b wo r:Nat)(e:b=64*wo+r)(hr:r<64)(h1:Kx w a1 p)(p1:Wds p)(l1:p.length<=30000)(hwo:wo<p.length):
  Kc Tryz.prog 309 #[.slice a1 p.length c1,.int .i64 b] w (.bool (decide (2^b<=vW p))):=by
 unfold Kc;have HS:=hd_ (Zg5 w a1 c1 p b wo r e hr h1 p1 l1 hwo);have ae:=hd_ (Zu8 e hr p1 hwo);obtain⟨m,hm⟩:∃ m,p.length-wo=m:=⟨_,rfl⟩;have On:=hd_ (Zn6 p1 (wo:=wo) (m:=p.length-wo) hr);have gq:=hd_ (Vc p wo r (p.length-wo));have JF:m<=30000:=by omega
 have ET:0<m:=by omega
 rw[hm] at HS ae On gq;clear e h1 p1 l1 hwo hm hr;obtain⟨dd,bi⟩:∃ dd,decide (2^b<=vW p)=dd:=⟨_,rfl⟩;have Ap:=hd_ bi;rw[bi];clear bi;generalize shW p wo r m=Ls at *;go_enter Tryz.func309,Tryz.ntmps309;go_wp2_with fail;refine cm_ HS.o ?_;rintro e w1 ⟨a,c,rfl,ho,hb⟩;have HO:=hd_ ho;have HB:=hd_ hb;clear ho hb HS;go_wp2_with fail
 go_loopw [11] (fun i wr=>∃ k:Nat,k<=m/\i = .int .i64 k/\Hid (∀ j,j<k->Ls.getD j 0=0)/\Hid (Bw_ w1 wr)) (fun i _=>m-(intOf i).toNat)
 case atStart=>exact⟨0,Nat.zero_le _,rfl,fun j hj=>absurd hj (Nat.not_lt_zero j),Below.refl _ _⟩
 case round =>
  obtain⟨k,hk,rfl,HZ,G5⟩:=hrel
  by_cases H7:k<m
  ·obtain⟨g,rfl,GE,hg2,hg3,hg4,hg5⟩:=HO.o.open (by rw[gq.o];omega);have ce:=hg4 k (by rw[gq.o];exact H7);rw[<- G5.o.cell (p:=⟨g,k,none⟩) hg2] at ce;have Aa:IntKind.i64.wrap ((k:Int)+1)=((k+1:Nat):Int):=by rw[<- Int.natCast_succ];exact iw_ _ (by omega)
   have gi:(k:Int)<m:=by omega
   obtain⟨x,hx⟩:∃ x,Ls.getD k 0=x:=⟨_,rfl⟩;have Hx:=hd_ hx;rw[hx] at ce;clear hx hg4 hg5 hg3
   by_cases h0:x=0
   ·have OV:Hid (∀ j,j<k+1->Ls.getD j 0=0):=fun j hj=>by
     rcases Nat.lt_or_ge j k with h|h
     ·exact HZ.o j h
     ·obtain rfl:j=k:=by omega
      rw[Hx.o,h0]
    subst h0;go_wp2_with fail;refine⟨⟨k+1,by omega,by go_num,OV,G5⟩,by simp[intOf];omega⟩
   ·have Hd:Hid (dd=true):=by
     show _=_
     rw[<- Ap.o,decide_eq_true_eq];exact ae.o.1 ⟨k,H7,by rw[Hx.o];exact h0⟩
    go_wp2_with fail;go_ret;exact⟨by rw[Hd.o];rfl,HB.o.trans (G5.o.mono HB.o.size)⟩
  ·obtain rfl:k=m:=by omega
   have Hd:Hid (dd=false):=by
    show _=_
    rw[<- Ap.o,decide_eq_false_iff_not];intro hc;obtain⟨i,hi,gj⟩:=ae.o.2 hc;exact gj (HZ.o i hi)
   go_wp2_with fail;go_ret;exact⟨by rw[Hd.o];rfl,HB.o.trans (G5.o.mono HB.o.size)⟩
theorem Qaq(w:World)(L:Qe w):Kc Tryz.prog 127 #[.string (dec 2)] w (.int .i64 2):=by
 unfold Kc;have h:=Zc8 w 2 (by rw[show (dec 2).size=1 by decide +kernel];decide) L;rw[if_pos (by decide)] at h;have H:=hd_ h;have Hl:Hid (∀ W:World,Calls Tryz.prog 212 #[.int .u64 2] W fun e w'=>e = .returned (.int .i64 2)/\w'=W):=fun W=>by
  have:=Tryz.bits_Len64 2 W (by decide) (by decide)
  rw[show ((Lib.bitLen ((2:Int).toNat):Nat):Int)=2 by decide +kernel] at this;exact this
 clear L h;generalize dec 2=s at *;go_enter Tryz.func127,Tryz.ntmps127;go_wp2_with fail;refine cm_ H.o ?_;rintro e w1 ⟨rfl,hZ⟩;have B1:=hd_ hZ;clear hZ H;go_wp2_with fail;refine cm_ (Hl.o _) ?_;rintro e w2 ⟨rfl,rfl⟩;clear Hl;go_wp2_with fail;go_ret;exact⟨rfl,B1.o⟩
theorem Zi5{w:World}{g:Nat}{t:TypeId}(h:w.heap[g]?=some (.cells #[.int .u64 1] t (0,0))):Kx w (some ⟨g,0,none⟩) (Kd 1):=by
 have e:Kd 1=[1]:=by decide +kernel
 rw[e];refine .inr ⟨g,0,rfl,(Array.getElem?_eq_some_iff.1 h).1,fun i hi=>?_⟩;have:i=0:=by simp at hi;exact hi
 subst this;rw[cell_of_row w g 0 _ t (0,0) h];rfl
theorem Zqd(D y:Nat)(h:y<D):(dec (2^y)).size<=D:=by
 rw[Vu _ _ (by omega)];exact Nat.lt_of_le_of_lt (Nat.pow_le_pow_left (by decide) y) (Nat.pow_lt_pow_right (by decide) h)
theorem Zhj(n y:Nat)(hn:n<=4000)(hy:y<=n):(Kd (2^y)).length<=10000 :=
 Qu _ 10000 (by decide) (Zqd 10000 y (by omega))
theorem Zye(n:Nat)(hn:n<=4000):(dec (2^n)).size<=4001:=Zqd 4001 n (by omega)
theorem Zzy(n:Int):bits .and .i64 n 1=n%2:=by
 have h1:(BitVec.ofInt 64 1).toNat=2^1-1:=by decide
 have gS:(BitVec.ofInt 64 n &&& BitVec.ofInt 64 1).toNat=(n%((2^64:Nat):Int)).toNat%2^1:=by
  rw[BitVec.toNat_and,BitVec.toNat_ofInt,h1,Nat.and_two_pow_sub_one_eq_mod]
 show IntKind.i64.wrap ((BitVec.ofInt 64 n &&& BitVec.ofInt 64 1).toNat:Nat)=n%2
 rw[gS,IntKind.wrap_i64];omega
theorem Zxm(k:Nat)(_:k<4001):(bits BinOp.and IntKind.i64 (k:Nat) 1==1)=decide (k%2=1):=by
 rw[Zzy]
 by_cases h:k%2=1
 ·rw[decide_eq_true h,beq_iff_eq];omega
 ·rw[decide_eq_false h,beq_eq_false_iff_ne];omega
theorem Zgv(W:World)(n x y:Nat)(hn:n<=4000)(hx:x<=n)(hy:y<=n)(a1 a2:OA_)(c1 c2:Nat)(h1:Kx W a1 (Kd (2^x)))(h2:Kx W a2 (Kd (2^y))):
  Calls Tryz.prog 129 #[.slice a1 (Kd (2^x)).length c1,.slice a2 (Kd (2^y)).length c2] W fun e w'=>∃ a c,e = .returned (.slice a (Kd (2^(x+y))).length c)/\Kx w' a (Kd (2^(x+y)))/\Bw_ W w':=by
 have l1:=Zhj n x hn hx;have l2:=Zhj n y hn hy;refine cm_ (Zd7 W a1 a2 c1 c2 _ _ h1 h2 (Kn _) (Kn _) (by omega) (by omega)) ?_;rintro e w' ⟨a,c,rfl,ho,hb⟩;rw[Kp,Kp,<- Nat.pow_add] at *
 exact⟨a,c,rfl,ho.reads,hb⟩
theorem Zsh(w:World)(n:Nat)(hn:n<=4000)(L:Qe w):Kc Tryz.prog 51 #[.string (dec 2),.int .i64 n] w (.tuple #[.string (dec (2^n)),.int .i64 0]):=by
 unfold Kc;have hz:=Yh 2;have ho:=Zeh 2;rw[decide_eq_false (by decide)] at hz ho;have Hb:Hid (∀ W,Bw_ w W->Kc Tryz.prog 127 #[.string (dec 2)] W (.int .i64 2)):=fun W hW=>Qaq W (L.below hW)
 have Hc:Hid (∀ W,Zc4 128 #[.string (dec 2)] W 2):=fun W=>Zxw W 2 (by unfold Num;rw[show (dec 2).size=1 by decide +kernel];decide)
 have Hs:=hd_ (Zye n hn);clear L
 by_cases h0:n=0
 ·subst h0;have Hv:Hid (dec (2^0)=⟨#[49]⟩):=by show _=_;rw[Nat.pow_zero,Zt]
  generalize dec (2^0)=vv at *;clear Hb Hc hn;generalize dec 2=s at *;go_enter Tryz.func51,Tryz.ntmps51;go_wp2_with fail
  go_ret2
  exact⟨by rw[Hv.o];rfl,Below.refl _ _⟩
 ·have ES:((n:Int)==0)=false:=by rw[beq_eq_false_iff_ne];omega
  have FK:¬ (n:Int)<0:=by omega
  have od:¬ (66439:Int)<n:=by omega
  unfold Zc4 at Hc;obtain⟨vv,el⟩:∃ s,dec (2^n)=s:=⟨_,rfl⟩;have fZ:=hd_ el;rw[el] at Hs ⊢;clear el;generalize dec 2=s at *;go_enter Tryz.func51,Tryz.ntmps51;go_wp2_with fail;refine cm_ (Hb.o _ (Below.refl _ _)) ?_;rintro e w1 ⟨rfl,hZ⟩;have B1:=hd_ hZ;clear hZ Hb;go_wp2_with fail;have B2:=hd_ (B1.o.alloc B1.o.size (.cells #[.int .u64 1] 204));have R1:Hid (Kx (w1.alloc (.cells #[.int .u64 1] 204)) (some ⟨w1.heap.size,0,none⟩) (Kd 1)):=Zi5 (Go.heap_alloc_new w1 _);generalize w1.alloc (.cells #[.int .u64 1] 204)=w2 at *;clear B1;refine cm_ (Hc.o _) ?_;rintro e w3 ⟨a3,c3,rfl,ho,hb⟩;have B3:=bt_ B2 hb;have R2:=hd_ ho.reads;replace R1:=hd_ (R1.o.below hb nr_);clear hb ho Hc B2;have gG:Hid ((Kd 1).length=1):=hd_ (by decide +kernel);go_wp2_with fail
  go_loopw [1,7,8] (fun m o q wr=>∃ (k x y:Nat) (a1 a2:OA_) (c1 c2:Nat),m = .int .i64 k/\k<=n/\o = .slice a1 (Kd (2^x)).length c1/\q = .slice a2 (Kd (2^y)).length c2/\Hid (x+y*k=n)/\Hid (y<=n)/\Hid (Kx wr a1 (Kd (2^x)))/\Hid (Kx wr a2 (Kd (2^y)))/\Hid (Bw_ w wr)) (fun m _ _ _=>(intOf m).toNat)
  case atStart =>
   refine⟨n,0,1,some ⟨w1.heap.size,0,none⟩,a3,1,c3,rfl,Nat.le_refl _,by rw[Nat.pow_zero,gG.o],rfl,?_,?_,R1,R2,B3⟩
   ·show _=_;omega
   ·show _<=_;omega
  case round =>
   clear R1 R2 B3;obtain⟨k,x,y,a1,a2,c1,c2,rfl,hk,rfl,rfl,Hxy,Hy,R1,R2,B⟩:=hrel;have Hx:Hid (x<=n):=by show _<=_;have:=Hxy.o;omega
   by_cases Ee:k=0
   ·subst Ee;have FW:¬ (0:Int)<((0:Nat):Int):=by omega
    have bz:Hid (x=n):=by show _=_;have:=Hxy.o;omega
    rw[bz.o] at R1 ⊢;have iQ:Hid (Kc Tryz.prog 130 #[.slice a1 (Kd (2^n)).length c1] wr (.string vv)):=by
     have:=Zan wr a1 c1 (2^n) R1.o (by have:=Zhj n n hn nr_;omega)
     rw[fZ.o] at this;exact this
    have Ge:¬ (20000:Int)<vv.size:=by have:=Hs.o;omega
    go_wp2_with fail;refine cm_ iQ.o ?_;rintro e w9 ⟨rfl,hb⟩;have B9:=bt_ B hb;clear hb iQ;go_wp2_with fail
    go_ret2
    exact⟨rfl,B9.o⟩
   ·have FW:(0:Int)<k:=by omega
    have hb:=Zxm k (by omega)
    by_cases hodd:k%2=1
    ·rw[decide_eq_true hodd] at hb;have Ht:Hid (Calls Tryz.prog 129 #[.slice a1 (Kd (2^x)).length c1,.slice a2 (Kd (2^y)).length c2] wr fun e w'=>∃ a c,e = .returned (.slice a (Kd (2^(x+y))).length c)/\Kx w' a (Kd (2^(x+y)))/\Bw_ wr w'):=Zgv wr n x y hn Hx.o Hy.o a1 a2 c1 c2 R1.o R2.o;go_wp2_with fail;refine cm_ Ht.o ?_;rintro e w5 ⟨a5,c5,rfl,r5,hb5⟩;have B5:=bt_ B hb5;replace R1:=hd_ r5;replace R2:=hd_ (R2.o.below hb5 nr_);clear hb5 r5 B Ht
     by_cases GK:1<k
     ·have eA:(1:Int)<k:=by omega
      have Ev:Hid (x+y+(y+y)*(k/2)=n):=by
       show _=_
       have h1:=Hxy.o;obtain⟨h,rfl⟩:∃ h,k=2*h+1:=⟨k/2,by omega⟩;rw[show (2*h+1)/2=h by omega,Nat.add_mul];rw[Nat.mul_add,Nat.mul_left_comm] at h1;omega
      have Ht:Hid (Calls Tryz.prog 129 #[.slice a2 (Kd (2^y)).length c2,.slice a2 (Kd (2^y)).length c2] w5 fun e w'=>∃ a c,e = .returned (.slice a (Kd (2^(y+y))).length c)/\Kx w' a (Kd (2^(y+y)))/\Bw_ w5 w'):=Zgv w5 n y y hn Hy.o Hy.o a2 a2 c2 c2 R2.o R2.o;go_wp2_with fail;refine cm_ Ht.o ?_;rintro e w6 ⟨a6,c6,rfl,r6,hb6⟩;have B6:=bt_ B5 hb6;replace R2:=hd_ r6;replace R1:=hd_ (R1.o.below hb6 nr_);clear hb6 r6 B5 Ht;go_wp2_with fail
      go_roundw
      case rel =>
       refine⟨k/2,x+y,y+y,_,_,_,_,by go_num,by omega,rfl,rfl,Ev,?_,R1,R2,B6⟩
       show _<=_
       have:=Hxy.o
       have h2:y*2<=y*k:=Nat.mul_le_mul_left _ (by omega);omega
      case measure=>simp[intOf];omega
     ·have eA:¬ (1:Int)<k:=by omega
      go_wp2_with fail
      go_roundw
      case rel =>
       refine⟨k/2,x+y,y,_,_,_,_,by go_num,by omega,rfl,rfl,?_,Hy,R1,R2,B5⟩
       show _=_
       have:=Hxy.o
       have e1:k=1:=by omega
       subst e1;have e2:(1/2:Nat)=0:=rfl;rw[e2];omega
      case measure=>simp[intOf];omega
    ·rw[decide_eq_false hodd] at hb
     by_cases GK:1<k
     ·have eA:(1:Int)<k:=by omega
      have Ev:Hid (x+(y+y)*(k/2)=n):=by
       show _=_
       have h1:=Hxy.o;obtain⟨h,rfl⟩:∃ h,k=2*h:=⟨k/2,by omega⟩;rw[show (2*h)/2=h by omega,Nat.add_mul];rw[Nat.mul_left_comm] at h1;omega
      have Ht:Hid (Calls Tryz.prog 129 #[.slice a2 (Kd (2^y)).length c2,.slice a2 (Kd (2^y)).length c2] wr fun e w'=>∃ a c,e = .returned (.slice a (Kd (2^(y+y))).length c)/\Kx w' a (Kd (2^(y+y)))/\Bw_ wr w'):=Zgv wr n y y hn Hy.o Hy.o a2 a2 c2 c2 R2.o R2.o;go_wp2_with fail;refine cm_ Ht.o ?_;rintro e w6 ⟨a6,c6,rfl,r6,hb6⟩;have B6:=bt_ B hb6;replace R2:=hd_ r6;replace R1:=hd_ (R1.o.below hb6 nr_);clear hb6 r6 B Ht;go_wp2_with fail
      go_roundw
      case rel =>
       refine⟨k/2,x,y+y,_,_,_,_,by go_num,by omega,rfl,rfl,Ev,?_,R1,R2,B6⟩
       show _<=_
       have:=Hxy.o
       have h2:y*2<=y*k:=Nat.mul_le_mul_left _ (by omega);omega
      case measure=>simp[intOf];omega
     ·omega
theorem p2:True:=trivial
end Go.Proofs.YtbielfplgbammaaGreatDoor

namespace Go.Proofs.YtbielfplgbammaaGreatDoor.LN
def lgGo (unit:Nat):Nat->Nat->Nat->Nat->Option Nat
 | 0,_,_,out=>some out
 | n+1,lo,hi,out =>
  if 2*unit<=lo*lo/unit then lgGo unit n (lo*lo/unit/2) ((hi*hi/unit+1)/2+1) (2*out+1)
  else if 2*unit<=hi*hi/unit+1 then none
  else lgGo unit n (lo*lo/unit) (hi*hi/unit+1) (2*out)
def lg (p k n more:Nat):Option Nat:=lgGo (2^more) n (p*2^(more-k)) (p*2^(more-k)) k
def dotI:List Int->List Int->Int
 | a::l,b::m=>a*b+dotI l m
 | _,_=>0
def Zdn (l:List Int):Nat:=(l.map Int.natAbs).sum
def comb (x:Int) (u:List Int) (y:Int) (v:List Int):List Int:=List.zipWith (fun a b=>x*a-y*b) u v
theorem Zej(x y:Int):∀ (u v k:List Int),u.length=v.length->dotI (comb x u y v) k=x*dotI u k-y*dotI v k
 | [],[],_,_=>by simp[comb,dotI]
 | a::u,b::v,[],_=>by simp[comb,dotI]
 | a::u,b::v,c::k,h=>by
  have ih:=Zej x y u v k (by simpa using h);have e:comb x (a::u) y (b::v)=(x*a-y*b)::comb x u y v:=rfl;rw[e];simp only[dotI];rw[ih]
  grind
 | [],_::_,_,h=>by simp at h
 | _::_,[],_,h=>by simp at h
theorem Zo7(K:Nat):∀ (u k:List Int),(∀ x∈k,x.natAbs<=K)->(dotI u k).natAbs<=Zdn u*K
 | [],_,_=>by simp[dotI]
 | _::_,[],_=>by simp[dotI]
 | a::u,b::k,h=>by
  have ih:=Zo7 K u k fun x hx=>h x (List.mem_cons_of_mem _ hx)
  have hb:=h b List.mem_cons_self;have e:Zdn (a::u)=a.natAbs+Zdn u:=by simp[Zdn]
  rw[e,Nat.add_mul];simp only[dotI];have h1:=Int.natAbs_add_le (a*b) (dotI u k);rw[Int.natAbs_mul] at h1;have h2:a.natAbs*b.natAbs<=a.natAbs*K:=Nat.mul_le_mul_left _ hb;omega
def Zeu (m i:Nat) (d:Int):List Int:=(List.range m).map fun j=>if j=i then d else 0
def Zen (m:Nat):List Int->List (List Int)->List Int
 | x::l,u::ls=>comb x u (-1) (Zen m l ls)
 | _,_=>List.replicate m 0
theorem Zfy(m:Nat):∀ (l:List Int) (U:List (List Int)),(∀ u∈U,u.length=m)->(Zen m l U).length=m
 | [],_,_=>by simp[Zen]
 | _::_,[],_=>by simp[Zen]
 | x::l,u::U,h=>by
  have ih:=Zfy m l U fun v hv=>h v (List.mem_cons_of_mem _ hv)
  simp only[Zen,comb,List.length_zipWith,ih,h u List.mem_cons_self,Nat.min_self]
theorem Zm7(m:Nat)(k:List Int):dotI (List.replicate m 0) k=0:=by
 induction m generalizing k with
 | zero=>rfl
 | succ m ih =>
  cases k with
  | nil=>rfl
  | cons b k=>rw[List.replicate_succ,dotI,ih];simp
theorem Ze6(m:Nat)(k:List Int):∀ (l:List Int) (U:List (List Int)),(∀ u∈U,u.length=m)->(∀ u∈U,dotI u k=0)->dotI (Zen m l U) k=0
 | [],_,_,_=>by rw[Zen];exact Zm7 m k;simp
 | _::_,[],_,_=>by rw[Zen];exact Zm7 m k;simp
 | x::l,u::U,h,h0=>by
  rw[Zen,Zej _ _ _ _ _ (by rw[Zfy m l U fun v hv=>h v (List.mem_cons_of_mem _ hv)];exact h u List.mem_cons_self),h0 u List.mem_cons_self,
   Ze6 m k l U (fun v hv=>h v (List.mem_cons_of_mem _ hv)) (fun v hv=>h0 v (List.mem_cons_of_mem _ hv))]
  simp
theorem Zhu(d:Int):∀ (m i s:Nat) (k:List Int),dotI ((List.range' s m).map fun j=>if j=i then d else 0) k=if s<=i/\i<s+m then d*k.getD (i-s) 0 else 0
 | 0,i,s,k=>by
  rw[if_neg (by omega)];rfl
 | m+1,i,s,[]=>by simp[List.range'_succ,dotI]
 | m+1,i,s,b::k=>by
  rw[List.range'_succ,List.map_cons,dotI,Zhu d m i (s+1) k]
  by_cases h:s=i
  ·subst h;rw[if_pos rfl,if_neg (by omega),if_pos (by omega)];simp
  ·rw[if_neg h]
   by_cases h2:s+1<=i/\i<s+1+m
   ·rw[if_pos h2,if_pos (by omega)];have e:i-s=(i-(s+1))+1:=by omega
    rw[e];simp
   ·rw[if_neg h2,if_neg (by omega)];simp
def certOk (a:Int) (L:List Int) (U V:List (List Int)) (d:Int) (K S:Nat):Bool :=
 decide (0<a)&&decide (d≠0) &&
 U.all (fun u=>decide (u.length=L.length)&&decide (Zdn (comb a u (u.headD 0) L)*K+(u.headD 0).natAbs*S<a.natAbs)) &&
 decide (V.length=L.length)&&(List.range L.length).all (fun i=>decide (Zen L.length (V.getD i []) U=Zeu L.length i d))
theorem cert_zero{a:Int}{L:List Int}{U V:List (List Int)}{d:Int}{K S:Nat}(h:certOk a L U V d K S=true)(k:List Int)(hk:k.length=L.length)(hK:∀ x∈k,x.natAbs<=K)(hS:(dotI L k).natAbs<S):
  ∀ x∈k,x=0:=by
 unfold certOk at h;simp only[Bool.and_eq_true,decide_eq_true_eq,List.all_eq_true,List.mem_range] at h;obtain⟨⟨⟨⟨ha,hd⟩,hU⟩,hV⟩,hI⟩:=h;have h0:∀ u∈U,dotI u k=0:=by
  intro u hu;obtain⟨h1,h2⟩:=hU u hu;have e:=Zej a (u.headD 0) u L k h1;have b:=Zo7 K (comb a u (u.headD 0) L) k hK;generalize u.headD 0=q at *;generalize dotI u k=f at *;generalize dotI L k=T at *;generalize Zdn (comb a u q L)*K=A at *;rw[e] at b;have h3:(a*f).natAbs<=(a*f-q*T).natAbs+(q*T).natAbs:=by omega
  rw[Int.natAbs_mul,Int.natAbs_mul q T] at h3;have h5:q.natAbs*T.natAbs<=q.natAbs*S:=Nat.mul_le_mul_left _ (by omega);have h6:a.natAbs*f.natAbs<a.natAbs*1:=by omega
  have h7:f.natAbs<1:=Nat.lt_of_mul_lt_mul_left h6;omega
 intro x hx;obtain⟨i,hi,rfl⟩:=List.mem_iff_getElem.1 hx;have h1:=hI i (by omega);have h2:=Ze6 L.length k (V.getD i []) U (fun u hu=>(hU u hu).1) h0;rw[h1,Zeu,List.range_eq_range',Zhu d _ i 0 k,if_pos (by omega)] at h2;rw[Nat.sub_zero,List.getD_eq_getElem?_getD,List.getElem?_eq_getElem hi,Option.getD_some] at h2;rcases Int.mul_eq_zero.1 h2 with h3|h3
 ·exact absurd h3 hd
 ·exact h3
def upT:List (Int×Int)->Nat
 | []=>1
 | x::l=>x.1.toNat^x.2.toNat*upT l
def negT (l:List (Int×Int)):List (Int×Int):=l.map fun x=>(x.1,-x.2)
theorem Zmv(l:List (Int×Int)):negT (negT l)=l:=by
 unfold negT;rw[List.map_map]
 conv=>rhs;rw[<- List.map_id l]
 refine List.map_congr_left fun x _=>?_
 simp
def Zkb (l:List (Int×Int)):Int:=if upT (negT l)<upT l then 1 else if upT l<upT (negT l) then -1 else 0
structure LogAt (n:Nat) (p:Int) (L:Nat):Prop where
 le:2^L<=p.toNat^(2^n)
 lt:p.toNat^(2^n)<2^(L+1)
 two:p=2->L=2^n
 odd:p≠2->2^L<p.toNat^(2^n)
def hiL (f:Int->Nat) (p:Int):Nat:=if p=2 then f p else f p+1
def loS (f:Int->Nat):List (Int×Int)->Nat
 | []=>0
 | x::l=>x.2.toNat*f x.1+loS f l
def hiS (f:Int->Nat):List (Int×Int)->Nat
 | []=>0
 | x::l=>x.2.toNat*hiL f x.1+hiS f l
theorem Zeb(n:Nat)(f:Int->Nat):∀ l:List (Int×Int),(∀ x∈l,LogAt n x.1 (f x.1))->2^loS f l<=upT l^(2^n)
 | [],_=>by simp[loS,upT]
 | x::l,h=>by
  have ih:=Zeb n f l fun y hy=>h y (List.mem_cons_of_mem _ hy)
  have hx:=(h x List.mem_cons_self).le;rw[loS,upT,Nat.pow_add,Nat.mul_pow];refine Nat.mul_le_mul ?_ ih;rw[<- Nat.pow_mul,Nat.mul_comm x.2.toNat,Nat.mul_comm x.2.toNat,Nat.pow_mul,Nat.pow_mul];exact Nat.pow_le_pow_left hx _
theorem Qel(n:Nat)(f:Int->Nat)(l:List (Int×Int))(h:∀ x∈l,LogAt n x.1 (f x.1)):0<upT l:=by
 have:=Zeb n f l h
 by_cases h0:upT l=0
 ·rw[h0,Nat.zero_pow (Nat.two_pow_pos _)] at this;have:=Nat.two_pow_pos (loS f l)
  omega
 ·omega
theorem Zgq(n:Nat)(f:Int->Nat):∀ l:List (Int×Int),(∀ x∈l,LogAt n x.1 (f x.1))->upT l^(2^n)<=2^hiS f l
 | [],_=>by simp[hiS,upT]
 | x::l,h=>by
  have ih:=Zgq n f l fun y hy=>h y (List.mem_cons_of_mem _ hy)
  have hx:=h x List.mem_cons_self;have hh:x.1.toNat^(2^n)<=2^hiL f x.1:=by
   unfold hiL;split
   ·rename_i e;rw[hx.two e,e];exact Nat.le_refl _
   ·exact Nat.le_of_lt hx.lt
  rw[hiS,upT,Nat.pow_add,Nat.mul_pow];refine Nat.mul_le_mul ?_ ih;rw[<- Nat.pow_mul,Nat.mul_comm x.2.toNat,Nat.pow_mul,Nat.mul_comm x.2.toNat,Nat.pow_mul 2];exact Nat.pow_le_pow_left hh _
theorem Zhd{a b c d:Nat}(h:a<b)(h2:c<=d)(hd:0<d):a*c<b*d:=Nat.lt_of_le_of_lt (Nat.mul_le_mul_left _ h2) (Nat.mul_lt_mul_of_pos_right h hd)
theorem Zfo{a b c d:Nat}(h:a<=b)(h2:c<d)(hb:0<b):a*c<b*d:=Nat.lt_of_le_of_lt (Nat.mul_le_mul_right _ h) (Nat.mul_lt_mul_of_pos_left h2 hb)
theorem Zml(n:Nat)(f:Int->Nat):∀ l:List (Int×Int),(∀ x∈l,LogAt n x.1 (f x.1))->(∃ x∈l,x.1≠2/\0<x.2)->2^loS f l<upT l^(2^n)
 | [],_,h=>by obtain⟨_,h,_⟩:=h;cases h
 | x::l,h,h2=>by
  have hl:∀ y∈l,LogAt n y.1 (f y.1):=fun y hy=>h y (List.mem_cons_of_mem _ hy)
  have Jh:=Zeb n f l hl;have hx:=h x List.mem_cons_self;have GG:=Nat.pow_pos (n:=2^n) (Qel n f l hl);rw[loS,upT,Nat.pow_add,Nat.mul_pow];have e1:2^(x.2.toNat*f x.1)=(2^f x.1)^x.2.toNat:=by rw[Nat.mul_comm,Nat.pow_mul]
  have e2:(x.1.toNat^x.2.toNat)^(2^n)=(x.1.toNat^(2^n))^x.2.toNat:=by rw[<- Nat.pow_mul,Nat.mul_comm,Nat.pow_mul]
  rw[e1,e2];obtain⟨y,hy,Db,hy0⟩:=h2;rcases List.mem_cons.1 hy with rfl|hy
  ·exact Zhd (Nat.pow_lt_pow_left (hx.odd Db) (by omega)) Jh GG
  ·have ih:=Zml n f l hl ⟨y,hy,Db,hy0⟩;exact Zfo (Nat.pow_le_pow_left hx.le _) ih (Nat.pow_pos (Nat.lt_of_lt_of_le (Nat.two_pow_pos _) hx.le))
theorem Zlw(n:Nat)(f:Int->Nat):∀ l:List (Int×Int),(∀ x∈l,LogAt n x.1 (f x.1))->(∃ x∈l,x.1≠2/\0<x.2)->upT l^(2^n)<2^hiS f l
 | [],_,h=>by obtain⟨_,h,_⟩:=h;cases h
 | x::l,h,h2=>by
  have hl:∀ y∈l,LogAt n y.1 (f y.1):=fun y hy=>h y (List.mem_cons_of_mem _ hy)
  have Jh:=Zgq n f l hl;have hx:=h x List.mem_cons_self;have hh:x.1.toNat^(2^n)<=2^hiL f x.1:=by
   unfold hiL;split
   ·rename_i e;rw[hx.two e,e];exact Nat.le_refl _
   ·exact Nat.le_of_lt hx.lt
  rw[hiS,upT,Nat.pow_add,Nat.mul_pow];have e1:2^(x.2.toNat*hiL f x.1)=(2^hiL f x.1)^x.2.toNat:=by rw[Nat.mul_comm,Nat.pow_mul]
  have e2:(x.1.toNat^x.2.toNat)^(2^n)=(x.1.toNat^(2^n))^x.2.toNat:=by rw[<- Nat.pow_mul,Nat.mul_comm,Nat.pow_mul]
  rw[e1,e2];obtain⟨y,hy,Db,hy0⟩:=h2;rcases List.mem_cons.1 hy with rfl|hy
  ·refine Zhd (Nat.pow_lt_pow_left ?_ (by omega)) Jh (Nat.two_pow_pos _);unfold hiL;rw[if_neg Db];exact hx.lt
  ·have ih:=Zlw n f l hl ⟨y,hy,Db,hy0⟩;exact Zfo (Nat.pow_le_pow_left hh _) ih (Nat.pow_pos (Nat.two_pow_pos _))
theorem Zqu{n:Nat}{f:Int->Nat}{l:List (Int×Int)}(h:∀ x∈l,LogAt n x.1 (f x.1)):∀ x∈negT l,LogAt n x.1 (f x.1):=by
 intro x hx;obtain⟨y,hy,rfl⟩:=List.mem_map.1 hx;exact h y hy
theorem Zze(n:Nat)(f:Int->Nat)(l:List (Int×Int))(h:∀ x∈l,LogAt n x.1 (f x.1))(h0:∀ x∈l,x.2≠0)(gj:l≠[])(hd:(l.map Prod.fst).Nodup)(Gt:hiS f (negT l)<=loS f l):
  upT (negT l)<upT l:=by
 have hn:∀ x∈negT l,LogAt n x.1 (f x.1):=Zqu h;have c1:=Zgq n f (negT l) hn;have c2:=Zeb n f l h;have c3:2^hiS f (negT l)<=2^loS f l:=Nat.pow_le_pow_right (by decide) Gt;have gS:upT (negT l)^(2^n)<upT l^(2^n)->upT (negT l)<upT l:=fun hk=>(Nat.pow_lt_pow_iff_left (Nat.ne_of_gt (Nat.two_pow_pos n))).1 hk
 by_cases hodd:∃ x∈l,x.1≠2
 ·obtain⟨x,hx,ft⟩:=hodd;have js:=h0 x hx
  by_cases hp:0<x.2
  ·have:=Zml n f l h ⟨x,hx,ft,hp⟩
   exact gS (by omega)
  ·have:=Zlw n f (negT l) hn ⟨(x.1,-x.2),List.mem_map.2 ⟨x,hx,rfl⟩,ft,by show 0 < -x.2;omega⟩
   exact gS (by omega)
 ·have h2:∀ x∈l,x.1=2:=fun x hx=>Classical.byContradiction fun hh=>hodd ⟨x,hx,hh⟩
  match l,gj,hd,h2,h0,Gt with
  | [x],_,_,h2,h0,Gt =>
   have e:=h2 x List.mem_cons_self;have js:=h0 x List.mem_cons_self;have hf:=(h x List.mem_cons_self).two e;have Gs:=Nat.two_pow_pos n;simp only[negT,List.map_cons,List.map_nil,hiS,loS,hiL,if_pos e,upT,Nat.add_zero,Nat.mul_one] at Gt ⊢;rw[hf] at Gt;have h3:(-x.2).toNat<=x.2.toNat:=Nat.le_of_mul_le_mul_right Gt Gs;have h4:0<x.2:=by omega
   have h5:(-x.2).toNat=0:=by omega
   rw[h5,e];exact Nat.one_lt_two_pow (by omega)
  | x::y::r,_,hd,h2,_,_ =>
   exfalso;have e1:=h2 x List.mem_cons_self;have e2:=h2 y (List.mem_cons_of_mem _ List.mem_cons_self);simp only[List.map_cons,List.nodup_cons,List.mem_cons] at hd;exact hd.1 (.inl (by rw[e1,e2]))
theorem sign_low(n:Nat)(f:Int->Nat)(l:List (Int×Int))(h:∀ x∈l,LogAt n x.1 (f x.1))(h0:∀ x∈l,x.2≠0)(gj:l≠[])(hd:(l.map Prod.fst).Nodup)(Gt:hiS f (negT l)<=loS f l):Zkb l=1:=by
 unfold Zkb;rw[if_pos (Zze n f l h h0 gj hd Gt)]
theorem Zus(l:List (Int×Int)):Zkb (negT l) = - Zkb l:=by
 unfold Zkb;rw[Zmv]
 by_cases h:upT (negT l)<upT l
 ·rw[if_pos h,if_neg (by omega),if_pos h]
 ·rw[if_neg h]
  by_cases h2:upT l<upT (negT l)
  ·rw[if_pos h2,if_neg h,if_pos h2];rfl
  ·rw[if_neg h2,if_neg h,if_neg h2];rfl
theorem sign_high(n:Nat)(f:Int->Nat)(l:List (Int×Int))(h:∀ x∈l,LogAt n x.1 (f x.1))(h0:∀ x∈l,x.2≠0)(gj:l≠[])(hd:(l.map Prod.fst).Nodup)(FL:hiS f l<=loS f (negT l)):Zkb l = -1:=by
 have:=sign_low n f (negT l) (Zqu h) (by
  intro x hx;obtain⟨y,hy,rfl⟩:=List.mem_map.1 hx;have:=h0 y hy
  show -y.2≠0
  omega) (by simpa [negT] using gj) (by
  have e:(negT l).map Prod.fst=l.map Prod.fst:=by simp[negT]
  rw[e];exact hd) (by rw[Zmv];exact FL)
 rw[Zus] at this;omega
def coefP (p:Int):List (Int×Int)->Int
 | []=>0
 | x::l=>(if x.1=p then x.2 else 0)+coefP p l
theorem Zrc(a b:List Int):∀ (u:List Int) (pr:List Int) (g h:Int->Int),dotI u (pr.map fun p=>g p+h p)=dotI u (pr.map g)+dotI u (pr.map h)
 | [],_,_,_=>by simp[dotI]
 | _::_,[],_,_=>by simp[dotI]
 | c::u,p::pr,g,h=>by
  have ih:=Zrc a b u pr g h;simp only[List.map_cons,dotI];rw[ih,Int.mul_add];omega
theorem Zm8(f:Int->Int)(c q:Int):∀ pr:List Int,q ∉ pr->dotI (pr.map f) (pr.map fun p=>if q=p then c else 0)=0
 | [],_=>by simp[dotI]
 | p::pr,h=>by
  simp only[List.mem_cons,not_or] at h;simp only[List.map_cons,dotI];rw[if_neg h.1,Zm8 f c q pr h.2];simp
theorem Zww(f:Int->Int)(c q:Int):∀ pr:List Int,pr.Nodup->q∈pr->dotI (pr.map f) (pr.map fun p=>if q=p then c else 0)=c*f q
 | [],_,h=>by simp at h
 | p::pr,hd,h=>by
  simp only[List.nodup_cons] at hd;simp only[List.map_cons,dotI]
  by_cases e:q=p
  ·rw[if_pos e,e,Zm8 f c p pr hd.1,Int.mul_comm];omega
  ·rw[if_neg e,Zww f c q pr hd.2 (by simpa [e] using h)];omega
def sumT (f:Int->Nat):List (Int×Int)->Int
 | []=>0
 | x::l=>x.2*f x.1+sumT f l
theorem dotI_coef(f:Int->Nat)(pr:List Int)(hd:pr.Nodup):∀ l:List (Int×Int),(∀ x∈l,x.1∈pr)->dotI (pr.map fun p=>(f p:Int)) (pr.map fun p=>coefP p l)=sumT f l
 | [],_=>by
  simp only[coefP,sumT];have e:∀ u v:List Int,dotI u (v.map fun _=>0)=0:=by
   intro u
   induction u with
   | nil=>intro v;cases v<;>rfl
   | cons a u ih =>
    intro v;cases v with
    | nil=>rfl
    | cons b v=>simp only[List.map_cons,dotI];rw[ih];simp
  exact e _ _
 | x::l,h=>by
  have ih:=dotI_coef f pr hd l fun y hy=>h y (List.mem_cons_of_mem _ hy)
  simp only[coefP,sumT];rw[Zrc [] [],ih,Zww _ _ _ pr hd (h x List.mem_cons_self)]
theorem Zfc(p:Int):∀ l:List (Int×Int),p ∉ l.map Prod.fst->coefP p l=0
 | [],_=>rfl
 | x::l,h=>by
  simp only[List.map_cons,List.mem_cons,not_or] at h;rw[coefP,if_neg (fun e=>h.1 e.symm),Zfc p l h.2];rfl
theorem coefP_mem:∀ l:List (Int×Int),(l.map Prod.fst).Nodup->∀ x∈l,coefP x.1 l=x.2
 | [],_,_,h=>by cases h
 | y::l,hd,x,h=>by
  simp only[List.map_cons,List.nodup_cons] at hd;rcases List.mem_cons.1 h with rfl|h
  ·rw[coefP,if_pos rfl,Zfc _ l hd.1];omega
  ·rw[coefP,if_neg (fun e=>hd.1 (by rw[e];exact List.mem_map.2 ⟨x,h,rfl⟩)),coefP_mem l hd.2 x h];omega
theorem coefP_le(K:Nat)(l:List (Int×Int))(hd:(l.map Prod.fst).Nodup)(hK:∀ x∈l,x.2.natAbs<=K)(p:Int):(coefP p l).natAbs<=K:=by
 by_cases h:p∈l.map Prod.fst
 ·obtain⟨x,hx,rfl⟩:=List.mem_map.1 h;rw[coefP_mem l hd x hx];exact hK x hx
 ·rw[Zfc p l h];simp
theorem hiS_le(f:Int->Nat)(K:Nat):∀ l:List (Int×Int),(∀ x∈l,x.2.natAbs<=K)->hiS f l<=loS f l+l.length*K
 | [],_=>by simp[hiS,loS]
 | x::l,h=>by
  have ih:=hiS_le f K l fun y hy=>h y (List.mem_cons_of_mem _ hy)
  have hx:=h x List.mem_cons_self;have e:hiL f x.1<=f x.1+1:=by unfold hiL;split<;>omega
  have e2:x.2.toNat*hiL f x.1<=x.2.toNat*(f x.1+1):=Nat.mul_le_mul_left _ e;rw[Nat.mul_add] at e2;rw[hiS,loS,List.length_cons,Nat.add_mul];omega
theorem sumT_eq(f:Int->Nat):∀ l:List (Int×Int),sumT f l=(loS f l:Int)-(loS f (negT l):Int)
 | []=>rfl
 | x::l=>by
  have ih:=sumT_eq f l;have e:negT (x::l)=(x.1,-x.2)::negT l:=rfl;rw[sumT,ih,e,loS,loS];rw[Int.natCast_add,Int.natCast_add,Int.natCast_mul,Int.natCast_mul];have h:x.2=(x.2.toNat:Int)-((-x.2).toNat:Int):=by omega
  generalize (x.2.toNat:Int)=a at *;generalize ((-x.2).toNat:Int)=b at *;rw[h]
  grind
theorem ends_decide{a d:Int}{pr:List Int}{f:Int->Nat}{U V:List (List Int)}{K S:Nat}(hc:certOk a (pr.map fun p=>(f p:Int)) U V d K S=true)(hp:pr.Nodup)(l:List (Int×Int))(hl:l.length*K<=S)(gj:l≠[])
  (hm:∀ x∈l,x.1∈pr/\x.2≠0/\x.2.natAbs<=K) (hd:(l.map Prod.fst).Nodup):hiS f (negT l)<=loS f l\/hiS f l<=loS f (negT l):=by
 have h1:=hiS_le f K l fun x hx=>(hm x hx).2.2
 have h2:=hiS_le f K (negT l) (by
  intro x hx;obtain⟨y,hy,rfl⟩:=List.mem_map.1 hx;have:=(hm y hy).2.2
  show (-y.2).natAbs<=K
  omega)
 have e:(negT l).length=l.length:=by simp[negT]
 rw[e] at h2;have h3:=sumT_eq f l
 by_cases hT:(sumT f l).natAbs<S
 ·exfalso;rw[<- dotI_coef f pr hp l fun x hx=>(hm x hx).1] at hT;have h4:=cert_zero hc (pr.map fun p=>coefP p l) (by simp) (by
   intro x hx;obtain⟨p,_,rfl⟩:=List.mem_map.1 hx;exact coefP_le K l hd (fun y hy=>(hm y hy).2.2) p) hT
  match l,gj with
  | x::r,_ =>
   have h5:=h4 _ (List.mem_map.2 ⟨x.1,(hm x List.mem_cons_self).1,rfl⟩);rw[coefP_mem _ hd x List.mem_cons_self] at h5;exact(hm x List.mem_cons_self).2.1 h5
 ·omega
def certL:List Int:=[179769313486231590772930519078902473361797697894230657273430081157732675805500963132708477322407536021120113879871393357658789768814416622492847430639474124377767893424865485276302219601246094119453082952085005768838150682342462881473913110540827237163350510684586298239947245938479716304835356329624224137216,284927620656063089346731796384423062894173922742544388268143673752537756183546571537032060353371466816773127126641744722713352439279873718317761842880439823388246733129821933154999969794940367169528507713597703293501225656468836512330451109106556546484957172329017475735990380315252547391823925065085415830706,417411419582294732896156489886154238448013320157255640262591015340590871398055171674354685851436277043969488387805834784269416499993679630854470083136767565961762416444355884854643698642680661331046329726609798457044907851814692689997919935740891485193992980213442174017676677705033790300799565328174789721477,504676267050488686437106225422580597666894180115835423443227083307798182118129470961836692572602004275197053008847790122226159407050037386686227374490996006831065115100048654528796805287857493370208467706711144940390867662095296958256666553836865344662997681178618211252555414200909783814338893188237609625780,621899647134989863023931440843230302890983592943748869067988172264563165309608343386292530753941856327296297447054373896510077744639892806611394391743834589735893855764598242929310750820193556622274206181954361442867402987237247717098957447016989915817775870019501087911877572648074267091007255239964369023968,665225507727408465455298695894691710776360314087386563812869573730968267223165639273012984180830913649657093046906068992579944353826624953775464535759564037586356204133016200974813196209296864512605219833214582093815415417608006173877679388939375373503941628536552970450384072436140060704944322076520073283839]
def Qgy:List (List Int):=[[1361033472052420067100991309064931182091716853391540550899091113545676748165654069454734507830540625923066749738613742662526501494649565328672781710912470855,2157187015429401542138602315378835738079865318741913695197763694877679196962452355322909935492129080345135728398755778866915216677702864904886518349498144093,3160221856840607851781685108452959817026979136557082784519095198183545416828782748691856911460833185893891199012493182590421586823167653542796686423181411803,3820904016851512035743762372109566630477041885378486680143976467669200300212202542157276498189701081899028256409122481989077119745557940859571796331901780602,4708402227241844230881350710329385429292965180311929874646927949603148181156687490795565250855988629463347595457426767248645121403373850130316622376205655824,5036422317702249347264984242308634347603162440235819245412201338095351364705523284785619822633893970185542775747311911336783041820236677902723153542003541995],
 [299687973565947336953693908348658651332127021025370730890883623972659747075648952750207292919729408951165823130818603758290601433328042680561826125489066428,474994200019139640690896719015381054735292729699790408945830646826654284457084852625941217336849063751168404185314953447875618807762968794960545658399964795,695853925522634307249243517247788056805708280722354982344522670436784936810433857855919843198532036588375876439367016064304325129116049564645826288286436995,841330507671831406218103970697802099080070115711533135025373126392723083358858942563189157022256615979955037365105244659930907228808843221236499661374110289,1036750051479376748850033988793626597154995220661079736838726668451637290619206291200505783075082688000877676034076233903503798073310428799011686117489740735,1108977280432649241595140457724586490268455016437124571879230895310093956060594635296497046358777904624265570982229960398488559448522718359131628436452776618],
 [2001432095227681370883033031250657280124239008502396240436193329269779899751073734437881335263033118934661407649401662184445142860843476241971244864603027187,3172194818675649062031549948976346458446291575480633127138527180430090144149945657870703384176547217957998590193298519253946520383353142275844076215046404066,4647181411918432184657996063106137228541057445042859272797028758732513247711022952874593278003645411586711998681909461184937906440067320029532798507864848774,5618730243701494716647491390234016366368147732801005815257985401286419595231562467358169747618992550500502402060613155528580022043540105943291290066113212642,6923817472786135026020292681272359069572685393380617174853881444661977508302607758245986734774019457876979478431489431680461110991886850855640535885324347296,7406178818342856776067456999577349708314416427421774025318657928833991150289316239750934511444397348343774950016253631819156198089215566095848780701490864144],
 [528536423608438686412855271308878199418637088432614320111589911024224382198177128949494362669026076740489188478845726431331723513448155828996706397443325180,837710411684647310522312564104097923139117177113334471362723484405395424151008043983617035281865417395962957088666166267423693251318731944589703713618244329,1227223571147721963246630617648243717815284933494361643201768985968400112439714151460557394407565771139456530795453357502363423731760793034538519393449417404,1483789330303873215968878480452065504812046379488041405674753539793795422454494893163083848604039861079831537330639296756576330493295598940741832154454008688,1828435615432509255958100752235191297210724831090028852837000190432020360373150501910418670178265213952829967280722348250891518419506460528213470146761147669,1955817174404911741025196141353996465572258277146385975044836535532311654150798060211842806764077658974214099154631403207719281988005843100572202176183955081],
 [-1468711569869691212917947732134083722669835323809775214024289413578456753408037268869249086956462231433613497000907220577351639694601234134310649204034172316,-2327852762618760886438615551826346136370330168494265847894449738559028087832799593039841031943095790346604355658488125946578561954780542160298345901268352557,-3410242657366559293362990450499318662931329652440687467996352748484304130112546146565531321508257651827946757887834523977466162302035935620424198790339117028,-4123194654756628344277387666377040541457073401299737549360184284561605431593927292627723203544564083235736204424728469325429173003124213574712357752737593408,-5080907243465631775491331725106607667567794020555851403113895506647993464455619343303375350433823317991140303009422864311178241460123997725934828520026953170,-5434878627639161137069877451178110586761807883549011422834890840123801581219167459321135220817687924522379993148257513492372263375648300907571638870552930820],
 [-2527278727899951042357277652887687714676139814654455825895183801797394312577171470996587787488447973546590744938596754242248050652665729495409064860168750388,-4005642012591688830853788306767450225437525695850649207367482469960977507820045796608400918880715182390339297186644147711819811945556751576743803637464260210,-5868159481922089932185961686356109783421000151793657433855863935794100273872111461436697788866984813598223636272238364084392763747068349791942404099818116664,-7094968376181407917698486220318039050815038790087114445294460660285453776174777870811938078891803417542019334178004801170201148860672020225345222745338937759,-8742947940406537175524478993752549231321711125631551583381469936189250544112233396909737085879577827848253228263908699479854100689968661105092076296067226517,-9352042583534072783038683109624319367784842669410329692573031045141955386391775295867783423242100705425423420660519481116735025587912157359844666391581864370]]
def Qgx:List (List Int):=[[-5056625427619646027375557688934,22492767048728521515228088672644,100757843318868131663255231251409,-109175424216025810518427626349458,43791622722594357708666376464250,31456010246780842523074201168758],
 [14843321736870989170892935211302,-1566413707272055504716434875294,-13231873144781301898553196621410,-4473938268507226690064737724278,-7234649816335129238870443013471,597916375160099280812978039558],
 [-10106195131634014064109565408074,-23752526617964760938273316614011,-2161618493810056733233408947394,11217398622667791280982723293654,-1919025075220832533891098335435,-6509868020063796828750396523277],
 [6851462341036060952856831869449,6038656074418965050194601037329,-11645716143813286921558515426769,2256681498008609696986867869759,5109170126994287454266492989097,-7313988198921797883712129588856],
 [-20280857652371422586076982416269,3240353442599273281533504304323,-6207198472621478050629739916295,10933570427373787624652298476831,-12444462319387663796445073593709,-5934842575408006771328159897859],
 [15112292982976400489100645344947,1886037157824657007738630660331,-5566814279214676496689364407767,12447496499081282177953624596476,226561372143848006543391518164,6425156145734365554949928231685]]
theorem cert_ok:certOk (2^1024) certL Qgy Qgx 1 (2^100) (2^503)=true:=by decide +kernel
end Go.Proofs.YtbielfplgbammaaGreatDoor.LN

namespace Go.Proofs.YtbielfplgbammaaGreatDoor
def Zhy (unit:Nat):Nat->Nat×Nat×Nat->Option (Nat×Nat×Nat)
 | 0,s=>some s
 | n+1,s=>(Vb unit s).bind (Zhy unit n)
theorem Zjn(unit:Nat):∀ (n:Nat) (s:Nat×Nat×Nat),Zhy unit (n+1) s=(Zhy unit n s).bind (Vb unit)
 | 0,s=>by simp[Zhy]
 | n+1,s=>by
  show (Vb unit s).bind (Zhy unit (n+1))=((Vb unit s).bind (Zhy unit n)).bind (Vb unit)
  cases Vb unit s with
  | none=>rfl
  | some t=>exact Zjn unit n t
theorem Zpa(p more:Nat):∀ n,Ya p more n=Zhy (2^more) n (p*2^(more-p.log2),p*2^(more-p.log2),p.log2)
 | 0=>rfl
 | n+1=>by rw[Zjn,<- Zpa p more n];rfl
theorem Zoq(unit:Nat):∀ (n lo hi out:Nat),LN.lgGo unit n lo hi out=(Zhy unit n (lo,hi,out)).map fun s=>s.2.2
 | 0,_,_,_=>rfl
 | n+1,lo,hi,out=>by
  unfold LN.lgGo Zhy Vb;simp only;split
  ·rw[Zoq unit n];rfl
  ·split
   ·rfl
   ·rw[Zoq unit n];rfl
theorem Zv4(p n more:Nat):LN.lg p p.log2 n more=(Ya p more n).map fun s=>s.2.2:=by
 rw[Zpa];exact Zoq _ _ _ _ _
structure Qa2 (u:Nat) (s t:Nat×Nat×Nat):Prop where
 lo:s.1*u<=t.1
 hi:t.2.1<=s.2.1*u
 o:t.2.2=s.2.2
 le:t.1<=t.2.1
theorem Ztd{unit u:Nat}(hu:0<u)(h0:0<unit){s t s':Nat×Nat×Nat}(h:Qa2 u s t)(hs:Vb unit s=some s'):∃ t',Vb (unit*u) t=some t'/\Qa2 u s' t':=by
 obtain⟨l,g,o⟩:=s;obtain⟨l2,g2,o2⟩:=t;obtain⟨hl,hg,ho,G9⟩:=h;simp only at hl hg ho G9;subst ho;have q1:l*l/unit*u<=l2*l2/(unit*u):=by
  rw[Nat.le_div_iff_mul_le (Nat.mul_pos h0 hu)];have a:=Nat.div_mul_le_self (l*l) unit
  calc l*l/unit*u*(unit*u)=(l*l/unit*unit)*(u*u):=by ac_rfl
   _<=l*l*(u*u):=Nat.mul_le_mul_right _ a
   _=(l*u)*(l*u):=by ac_rfl
   _<=_:=Nat.mul_le_mul hl hl
 have q2:g2*g2/(unit*u)+1<=(g*g/unit+1)*u:=by
  rw[Nat.add_one_le_iff,Nat.div_lt_iff_lt_mul (Nat.mul_pos h0 hu)];have a:=Nat.lt_div_mul_add (a:=g*g) h0;have b:g*g<(g*g/unit+1)*unit:=by rw[Nat.add_mul,Nat.one_mul];exact a
  calc g2*g2<=(g*u)*(g*u):=Nat.mul_le_mul hg hg
   _=g*g*(u*u):=by ac_rfl
   _<(g*g/unit+1)*unit*(u*u):=Nat.mul_lt_mul_of_pos_right b (Nat.mul_pos hu hu)
   _=_:=by ac_rfl
 have q3:l2*l2/(unit*u)<=g2*g2/(unit*u)+1:=Nat.le_succ_of_le (Nat.div_le_div_right (Nat.mul_le_mul G9 G9));have e2:2*(unit*u)=2*unit*u:=by rw[Nat.mul_assoc]
 simp only[Vb] at hs ⊢;generalize l*l/unit=A at *;generalize g*g/unit+1=B at *;generalize l2*l2/(unit*u)=A2 at *;generalize g2*g2/(unit*u)+1=B2 at *
 by_cases h1:2*unit<=A
 ·rw[if_pos h1] at hs;cases hs
  have h2:2*(unit*u)<=A2:=by rw[e2];exact Nat.le_trans (Nat.mul_le_mul_right _ h1) q1
  rw[if_pos h2];refine⟨_,rfl,?_,?_,rfl,by simp only;omega⟩
  ·show A/2*u<=A2/2
   rw[Nat.le_div_iff_mul_le (by decide)]
   calc A/2*u*2=A/2*2*u:=by ac_rfl
    _<=A*u:=Nat.mul_le_mul_right _ (Nat.div_mul_le_self _ _)
    _<=_:=q1
  ·show B2/2+1<=(B/2+1)*u
   have h3:B2/2<(B/2+1)*u:=by
    rw[Nat.div_lt_iff_lt_mul (by decide)];have h4:B+1<=(B/2+1)*2:=by omega
    have h5:(B+1)*u<=(B/2+1)*2*u:=Nat.mul_le_mul_right _ h4;have h6:(B/2+1)*2*u=(B/2+1)*u*2:=by ac_rfl
    rw[Nat.add_mul] at h5;omega
   exact h3
 ·rw[if_neg h1] at hs
  by_cases h2:2*unit<=B
  ·rw[if_pos h2] at hs;cases hs
  ·rw[if_neg h2] at hs;cases hs
   have h3:B2<2*(unit*u):=by
    rw[e2];exact Nat.lt_of_le_of_lt q2 (Nat.mul_lt_mul_of_pos_right (by omega) hu)
   rw[if_neg (by omega),if_neg (by omega)];exact⟨_,rfl,q1,q2,rfl,q3⟩
theorem Zq4{unit u:Nat}(hu:0<u)(h0:0<unit):∀ (n:Nat) {s t s':Nat×Nat×Nat},Qa2 u s t->Zhy unit n s=some s'->∃ t',Zhy (unit*u) n t=some t'/\Qa2 u s' t'
 | 0,s,t,s',h,hs=>by cases hs;exact⟨t,rfl,h⟩
 | n+1,s,t,s',h,hs=>by
  obtain⟨m,h1,h2⟩:=Option.bind_eq_some_iff.1 hs;obtain⟨m',h3,h4⟩:=Ztd hu h0 h h1;obtain⟨t',h5,h6⟩:=Zq4 hu h0 n h4 h2;exact⟨t',by show (Vb (unit*u) t).bind _=_;rw[h3];exact h5,h6⟩
theorem Zwz{p more m2 n:Nat}(hp:p.log2<=more)(hm:more<=m2){s:Nat×Nat×Nat}(h:Ya p more n=some s):∃ t,Ya p m2 n=some t/\t.2.2=s.2.2:=by
 rw[Zpa] at h ⊢;have e:(2:Nat)^m2=2^more*2^(m2-more):=by rw[<- Nat.pow_add];congr 1;omega
 have e2:p*2^(m2-p.log2)=p*2^(more-p.log2)*2^(m2-more):=by rw[Nat.mul_assoc,<- Nat.pow_add];congr 2;omega
 obtain⟨t,h1,h2⟩:=Zq4 (Nat.two_pow_pos (m2-more)) (Nat.two_pow_pos more) n (s:=(p*2^(more-p.log2),p*2^(more-p.log2),p.log2)) (t:=(p*2^(m2-p.log2),p*2^(m2-p.log2),p.log2)) ⟨by rw[e2];exact Nat.le_refl _,by rw[e2];exact Nat.le_refl _,rfl,Nat.le_refl _⟩ h;rw[e];exact⟨t,h1,h2.o⟩
theorem Zas{p more:Nat}:∀ {n m:Nat},m<=n->(Ya p more n).isSome=true->(Ya p more m).isSome=true
 | 0,m,h,hs=>by rw[Nat.le_zero.1 h];exact hs
 | n+1,m,h,hs=>by
  rcases Nat.lt_or_eq_of_le h with h|h
  ·refine Zas (Nat.lt_succ_iff.1 h) ?_;cases hd:Ya p more n with
   | none=>rw[Ya,hd] at hs;cases hs
   | some s=>rfl
  ·rw[h];exact hs
theorem Zhw{p n more:Nat}(h:(LN.lg p p.log2 n more).isSome=true):(Ya p more n).isSome=true:=by
 rw[Zv4] at h
 simpa using h
def Zbv:List Nat:=[3,5,7,11,13,17,19,23,29,31,37,41,43,47,53,59,61,67,71,73,79,83,89,97]
theorem Qe3:Zbv.all (fun p=>(LN.lg p p.log2 1056 1120).isSome)=true:=by decide +kernel
theorem Zgb{p:Nat}(h:p∈Zbv):p.log2<=6:=by
 have:∀ q∈Zbv,q.log2<=6:=by decide
 exact this p h
theorem Zbe{p:Nat}(h:p∈Zbv):p%2=1/\3<=p/\p<=97:=by
 have:∀ q∈Zbv,q%2=1/\3<=q/\q<=97:=by decide
 exact this p h
theorem Zo8{p n more:Nat}(hp:p∈Zbv)(hn:n<=1056)(hm:1120<=more):(Ya p more n).isSome=true:=by
 have h:=Qe3;rw[List.all_eq_true] at h;have h1:=Zas (m:=n) hn (Zhw (h p hp));have hl:=Zgb hp;obtain⟨s,hs⟩:=Option.isSome_iff_exists.1 h1;obtain⟨t,ht,_⟩:=Zwz (m2:=more) (by omega) (by omega) hs;rw[ht];rfl
theorem Zzt{p N a b:Nat}(h1:Qed p N a)(h2:Qed p N b):a=b:=by
 have e1:2^a<2^(b+1):=Nat.lt_of_le_of_lt h1.1 h2.2;have e2:2^b<2^(a+1):=Nat.lt_of_le_of_lt h2.1 h1.2;have f1:=(Nat.pow_lt_pow_iff_right (by decide)).1 e1;have f2:=(Nat.pow_lt_pow_iff_right (by decide)).1 e2;omega
def lgN (p:Int) (n:Nat):Nat:=if p=2 then 2^n else match Ya p.toNat 1120 n with
 | some s=>s.2.2
 | none=>0
theorem Zk6{p n more:Nat}(hp:p∈Zbv)(hn:n<=1056)(hm:6<=more){s:Nat×Nat×Nat}(h:Ya p more n=some s):s.2.2=lgN p n:=by
 have hl:=Zgb hp;have ho:=Zbe hp;have h1:=(Zgd p more (by omega) (by omega) n s h).lg;obtain⟨t,ht⟩:=Option.isSome_iff_exists.1 (Zo8 hp hn (Nat.le_refl 1120));have h2:=(Zgd p 1120 (by omega) (by omega) n t ht).lg;have e:lgN p n=t.2.2:=by
  unfold lgN;rw[if_neg (by omega),Int.toNat_natCast,ht]
 rw[e];exact Zzt h1 h2
theorem Zqz{p n:Nat}(hp:p∈Zbv)(hn:n<=1056):Qed p (2^n) (lgN p n):=by
 have hl:=Zgb hp;have ho:=Zbe hp;obtain⟨t,ht⟩:=Option.isSome_iff_exists.1 (Zo8 hp hn (Nat.le_refl 1120));have h2:=(Zgd p 1120 (by omega) (by omega) n t ht).lg;rw[Zk6 hp hn (by decide) ht] at h2;exact h2
theorem Zcx(n:Nat):lgN 2 n=2^n:=by unfold lgN;rw[if_pos rfl]
theorem Zv5{p n:Nat}(hp:p=2\/p∈Zbv)(hn:n<=1056):lgN p n<7*2^n:=by
 rcases hp with rfl|hp
 ·have:=Nat.two_pow_pos n
  rw[show ((2:Nat):Int)=2 from rfl,Zcx];omega
 ·have ho:=Zbe hp;have h:=(Zqz hp hn).1;have h1:p^(2^n)<(2^7)^(2^n):=Nat.pow_lt_pow_left (by omega) (Nat.ne_of_gt (Nat.two_pow_pos n));rw[<- Nat.pow_mul] at h1;have h2:=Nat.lt_of_le_of_lt h h1;exact(Nat.pow_lt_pow_iff_right (by decide)).1 h2
theorem Qcn(p:Nat)(h:p%2=1)(m:Nat):p^m%2=1:=by
 induction m with
 | zero=>rfl
 | succ m ih=>rw[Nat.pow_succ,Nat.mul_mod,ih,h]
theorem Qe4{p n:Nat}(hp:p=2\/p∈Zbv)(hn:n<=1056):LN.LogAt n (p:Int) (lgN p n):=by
 rcases hp with rfl|hp
 ·rw[show ((2:Nat):Int)=2 from rfl,Zcx];exact⟨Nat.le_refl _,Nat.pow_lt_pow_right (by decide) (by omega),fun _=>rfl,fun h=>absurd rfl h⟩
 ·have ho:=Zbe hp;obtain⟨h1,h2⟩:=Zqz hp hn;refine⟨by rw[Int.toNat_natCast];exact h1,by rw[Int.toNat_natCast];exact h2,fun h=>by omega,fun _=>?_⟩;rw[Int.toNat_natCast];refine Nat.lt_of_le_of_ne h1 fun e=>?_
  have h3:=Qcn p ho.1 (2^n);rw[<- e] at h3
  by_cases h0:lgN p n=0
  ·rw[h0] at h2;have:p^1<=p^(2^n):=Nat.pow_le_pow_right (by omega) (Nat.two_pow_pos n)
   rw[Nat.pow_one] at this;omega
  ·obtain⟨k,hk⟩:=Nat.exists_eq_succ_of_ne_zero h0;rw[hk,Nat.pow_succ] at h3;omega
end Go.Proofs.YtbielfplgbammaaGreatDoor

namespace Go.Proofs.YtbielfplgbammaaGreatDoor
open Go.RowKit
theorem Zpd:dec 2=⟨#[50]⟩:=by
 have:(dec 2).data = #[50]:=by decide +kernel
 exact ByteArray.ext this
theorem Ze{x K:Nat}(h:x<2^K)(hK:K<100000):Num x:=by
 unfold Num;have h1:(dec x).size<=K+1:=by
  rw[Vu _ _ (by omega)];exact Nat.lt_of_lt_of_le h (Nat.le_trans (Nat.pow_le_pow_left (by decide) K) (Nat.pow_le_pow_right (by decide) (by omega)))
 omega
theorem Qgc(w:World)(n:Nat)(hn:n<=4000)(L:Qe w):Kc Tryz.prog 12 #[.string ⟨#[50]⟩,.int .i64 n] w (.tuple #[.string (dec (2^n)),.int .i64 0]):=by
 unfold Kc;have hs:=Vm w 2;rw[show itx 2=dec 2 by exact Kh 2,show ((2:Int).natAbs)=2 from rfl,Zpd,decide_eq_false (by decide)] at hs;have Hs:=hd_ hs;have Hp:Hid (∀ W,Bw_ w W->Kc Tryz.prog 51 #[.string ⟨#[50]⟩,.int .i64 n] W (.tuple #[.string (dec (2^n)),.int .i64 0])):=fun W hW=>by
  have:=Zsh W n hn (L.below hW)
  rw[Zpd] at this;exact this
 have hN:Num (2^n):=Ze (K:=n+1) (Nat.pow_lt_pow_right (by decide) (by omega)) (by omega);have Hj:Hid (∀ W,Kc Tryz.prog 52 #[.bool false,.string (dec (2^n))] W (.string (dec (2^n)))):=fun W=>by
  have:=Qs W false (2^n) hN
  rw[show jz false (2^n)=((2^n:Nat):Int) from rfl,Kh] at this;exact this
 clear hs L hN;generalize dec (2^n)=s at *;have h0:¬ (n:Int)<0:=by omega
 have h1:¬ (4000:Int)<n:=by omega
 have Ge:((⟨#[50]⟩:ByteArray).size:Int)=1:=rfl;go_enter Tryz.func12,Tryz.ntmps12;go_wp2_with fail;refine cm_ Hs.o ?_;rintro e w1 ⟨rfl,hb⟩;have B1:=hd_ hb;clear hb Hs;go_wp2_with fail;refine cm_ (Hp.o _ B1.o) ?_;rintro e w2 ⟨rfl,hb⟩;have B2:=bt_ B1 hb;clear hb Hp B1;go_wp2_with fail;refine cm_ (Hj.o _) ?_;rintro e w3 ⟨rfl,hb⟩;have B3:=bt_ B2 hb;clear hb Hj B2;go_wp2_with fail
 go_ret2
 exact⟨rfl,B3.o⟩
theorem Qgz(w:World)(a b K:Nat)(hK:K<90000)(ha:a<2^K)(hb:b<2^K)(L:Qe w):Kc Tryz.prog 205 #[.string (dec a),.string (dec b)] w (.string (dec (a+b))):=by
 have hn:=Ze ha (by omega);have hm:=Ze hb (by omega);have hs:Num (a+b):=Ze (K:=K+1) (by rw[Nat.pow_succ];omega) (by omega);have:=Zll w (a:Int) (b:Int) hn hm hs L
 rw[<- Int.natCast_add,Kh,Kh,Kh] at this;exact this
theorem Qg4(w:World)(a b K:Nat)(hK:K<40000)(ha:a<2^K)(hb:b<2^K)(L:Qe w):Kc Tryz.prog 14 #[.string (dec a),.string (dec b)] w (.string (dec (a*b))):=by
 have hn:=Ze ha (by omega);have hm:=Ze hb (by omega);have hs:Zbj ((a:Int)*b):=Ze (K:=K+K) (by rw[<- Int.natCast_mul,Int.natAbs_natCast,Nat.pow_add];exact Nat.mul_lt_mul'' ha hb) (by omega);have:=Zf w (a:Int) (b:Int) hn hm hs L
 rw[<- Int.natCast_mul,Kh,Kh,Kh] at this;exact this
theorem Qhr(w:World)(a b K:Nat)(hK:K<90000)(ha:a<2^K)(hb:b<2^K)(h0:0<b)(L:Qe w):Kc Tryz.prog 163 #[.string (dec a),.string (dec b)] w (.tuple #[.string (dec (a/b)),.string (dec (a%b)),.int .i64 0]):=by
 have hn:=Ze ha (by omega);have hm:=Ze hb (by omega);have hs:Num ((a:Int).natAbs+1):=Ze (K:=K+1) (by rw[Int.natAbs_natCast,Nat.pow_succ];omega) (by omega);have:=Ys w (a:Int) b hn hm h0 hs L
 rw[(Zk4 a b).1,(Zk4 a b).2,Kh,Kh,Kh] at this;exact this
structure Qht (more n:Nat) (s:Nat×Nat×Nat):Prop where
 lo:s.1<2*2^more
 hi:s.2.1<2*2^more
 o:s.2.2<2^(n+3)
theorem Zv2(p:Nat)(hp:2<=p)(Gk:p<=97):p.log2<=6:=by
 have:=(Nat.log2_lt (n:=p) (k:=7) (by omega)).2 (by omega)
 omega
theorem Qbq(p more:Nat)(hp:2<=p)(Gk:p<=97)(hm:64<=more):∀ n s,Ya p more n=some s->Qht more n s
 | 0,s,h=>by
  simp only[Ya,Option.some.injEq] at h;subst h;have h1:p<2^(p.log2+1):=Nat.lt_log2_self;have h2:=Zv2 p hp Gk;have h3:p*2^(more-p.log2)<2^(p.log2+1)*2^(more-p.log2):=Nat.mul_lt_mul_of_pos_right h1 (Nat.two_pow_pos _);rw[<- Nat.pow_add,show p.log2+1+(more-p.log2)=1+more by omega,Nat.pow_add,Nat.pow_one] at h3;exact⟨h3,h3,by show p.log2<2^3;omega⟩
 | n+1,s,h=>by
  simp only[Ya] at h;obtain⟨t,ht,hs⟩:=Option.bind_eq_some_iff.1 h;obtain⟨f1,f2,f3⟩:=Qbq p more hp Gk hm n t ht;obtain⟨l,g,o⟩:=t;simp only at f1 f2 f3;simp only[Vb] at hs;have hu:=Nat.two_pow_pos more;have bX:2^1<=2^more:=Nat.pow_le_pow_right (by decide) (by omega);obtain⟨u,eu⟩:∃ u,2^more=u:=⟨_,rfl⟩;rw[eu] at hu bX f1 f2 hs;have q1:l*l/u<4*u:=by
   rw[Nat.div_lt_iff_lt_mul hu]
   calc l*l<2*u*(2*u):=Nat.mul_lt_mul'' f1 f1
    _=4*u*u:=by grind
  have q2:g*g/u+1<=4*u-3:=by
   have h1:g*g<=(2*u-1)*(2*u-1):=Nat.mul_le_mul (by omega) (by omega);have h2:g*g/u<4*u-3:=by
    rw[Nat.div_lt_iff_lt_mul hu];obtain⟨v,rfl⟩:∃ v,u=v+1:=⟨u-1,by omega⟩;have e1:2*(v+1)-1=2*v+1:=by omega
    have e2:4*(v+1)-3=4*v+1:=by omega
    rw[e1] at h1;rw[e2];have e3:(2*v+1)*(2*v+1)=4*(v*v)+4*v+1:=by grind
    have e4:(4*v+1)*(v+1)=4*(v*v)+5*v+1:=by grind
    rw[e3] at h1;rw[e4];omega
   omega
  have eo:2^(n+1+3)=2*2^(n+3):=by rw[show n+1+3=n+3+1 by omega,Nat.pow_succ];omega
  by_cases h1:2*u<=l*l/u
  ·rw[if_pos h1] at hs;cases hs
   exact⟨by simp only;rw[eu];omega,by simp only;rw[eu];omega,by simp only;omega⟩
  ·rw[if_neg h1] at hs
   by_cases h2:2*u<=g*g/u+1
   ·rw[if_pos h2] at hs;cases hs
   ·rw[if_neg h2] at hs;cases hs
    exact⟨by simp only;rw[eu];omega,by simp only;rw[eu];omega,by simp only;omega⟩
theorem Zwy{p more j n:Nat}(h:Ya p more j=none)(hj:j<=n):Ya p more n=none:=by
 cases hd:Ya p more n with
 | none=>rfl
 | some s =>
  have:=Zas (m:=j) hj (show (Ya p more n).isSome=true by rw[hd];rfl)
  rw[h] at this;cases this
theorem Qfy(u E T:Nat)(h:E*E<=u*T):(2*u+E)*(2*u+E)<=u*(4*u+4*E+T):=by
 have e1:(2*u+E)*(2*u+E)=u*(4*u)+u*(4*E)+E*E:=by
  rw[Nat.mul_add,Nat.add_mul,Nat.add_mul];have a1:2*u*(2*u)=4*(u*u):=Nat.mul_mul_mul_comm 2 u 2 u;have a5:u*(4*u)=4*(u*u):=Nat.mul_left_comm ..;have a2:E*(2*u)=2*(u*E):=by rw[Nat.mul_left_comm,Nat.mul_comm E u]
  have a3:2*u*E=2*(u*E):=Nat.mul_assoc ..;have a4:u*(4*E)=4*(u*E):=Nat.mul_left_comm ..;omega
 rw[e1,Nat.mul_add,Nat.mul_add];omega
theorem Qan{u E T hi:Nat}(h:E*E<=u*T)(hh:hi<=2*u+E):hi*hi/u<=4*u+4*E+T:=by
 have h1:hi*hi<=u*(4*u+4*E+T):=Nat.le_trans (Nat.mul_le_mul hh hh) (Qfy u E T h);exact Nat.div_le_of_le_mul h1
theorem Zrd{p P:Nat}(hp:p.log2<=P)(h0:0<p):∀ n,n<=1000->n+64<=P->∀ s,Ya p P n=some s->s.2.1<=2*2^P+2^(n+2)*(n+1)
 | 0,_,_,s,h=>by
  simp only[Ya,Option.some.injEq] at h;subst h;have h1:p<2^(p.log2+1):=Nat.lt_log2_self;have h3:p*2^(P-p.log2)<2^(p.log2+1)*2^(P-p.log2):=Nat.mul_lt_mul_of_pos_right h1 (Nat.two_pow_pos _);rw[<- Nat.pow_add,show p.log2+1+(P-p.log2)=P+1 by omega,Nat.pow_succ] at h3
  show p*2^(P-p.log2)<=_
  omega
 | n+1,hn,hP,s,h=>by
  simp only[Ya] at h;obtain⟨t,ht,hs⟩:=Option.bind_eq_some_iff.1 h;have ih:=Zrd hp h0 n (by omega) (by omega) t ht;obtain⟨l,g,o⟩:=t;simp only at ih;have hE:(2^(n+2)*(n+1))*(2^(n+2)*(n+1))<=2^P*2^n:=by
   have h1:(n+1)<=2^10:=by omega
   have h2:2^(n+2)*(n+1)<=2^(n+2)*2^10:=Nat.mul_le_mul_left _ h1;have h3:(2^(n+2)*(n+1))*(2^(n+2)*(n+1))<=(2^(n+2)*2^10)*(2^(n+2)*2^10):=Nat.mul_le_mul h2 h2;refine Nat.le_trans h3 ?_;rw[<- Nat.pow_add,<- Nat.pow_add,<- Nat.pow_add];exact Nat.pow_le_pow_right (by decide) (by omega)
  have h2:=Qan hE ih;have e1:2^(n+1+2)*(n+1+1)=2*(2^(n+2)*(n+1))+8*2^n:=by
   rw[show n+1+2=(n+2)+1 by omega,Nat.pow_succ 2 (n+2),show 8*2^n=2^(n+2)*2 by rw[Nat.pow_add];omega,Nat.mul_add (2^(n+2)*2) (n+1) 1,Nat.mul_one,Nat.mul_comm (2^(n+2)) 2,Nat.mul_assoc]
  have GG:=Nat.two_pow_pos n;rw[e1];simp only[Vb] at hs;generalize 2^(n+2)*(n+1)=E at *;generalize g*g/2^P=G at *;generalize l*l/2^P=M at *;generalize 2^P=u at *;generalize 2^n=T at *
  by_cases c1:2*u<=M
  ·rw[if_pos c1] at hs;cases hs
   show (G+1)/2+1<=_
   omega
  ·rw[if_neg c1] at hs
   by_cases c2:2*u<=G+1
   ·rw[if_pos c2] at hs;cases hs
   ·rw[if_neg c2] at hs;cases hs
    show G+1<=_
    omega
theorem Zo9{p P:Nat}:∀ n s,Ya p P n=some s->s.1<=s.2.1
 | 0,s,h=>by
  simp only[Ya,Option.some.injEq] at h;subst h;exact Nat.le_refl _
 | n+1,s,h=>by
  simp only[Ya] at h;obtain⟨t,ht,hs⟩:=Option.bind_eq_some_iff.1 h;have ih:=Zo9 n t ht;obtain⟨l,g,o⟩:=t;simp only at ih;have h2:l*l/2^P<=g*g/2^P:=Nat.div_le_div_right (Nat.mul_le_mul ih ih);simp only[Vb] at hs;generalize g*g/2^P=G at *;generalize l*l/2^P=M at *;generalize 2^P=u at *
  by_cases c1:2*u<=M
  ·rw[if_pos c1] at hs;cases hs
   show M/2<=(G+1)/2+1
   omega
  ·rw[if_neg c1] at hs
   by_cases c2:2*u<=G+1
   ·rw[if_pos c2] at hs;cases hs
   ·rw[if_neg c2] at hs;cases hs
    show M<=G+1
    omega
theorem Zwk{P n hi:Nat}(hn:n<=1000)(hP:n+64<=P)(h:hi<=2*2^P+2^(n+2)*(n+1)):hi<18446744073709551616^(P/64+2):=by
 have h1:(n+1)<=2^10:=by omega
 have h2:2^(n+2)*(n+1)<=2^(n+2)*2^10:=Nat.mul_le_mul_left _ h1;have h3:2^(n+2)*2^10<=2^P:=by
  rw[<- Nat.pow_add];exact Nat.pow_le_pow_right (by decide) (by omega)
 have e:(18446744073709551616:Nat)=2^64:=by decide
 rw[e,<- Nat.pow_mul];have h4:2^(P+2)<=2^(64*(P/64+2)):=Nat.pow_le_pow_right (by decide) (by omega);rw[Nat.pow_add] at h4;have h5:=Nat.two_pow_pos P;omega
def Zf3 (u l g:Nat):Option (Bool×Nat×Nat) :=
 if 2*u<=l*l/u then some (true,l*l/u/2,(g*g/u+1)/2+1)
 else if 2*u<=g*g/u+1 then none else some (false,l*l/u,g*g/u+1)
theorem Zna(u l g o:Nat):Vb u (l,g,o)=(Zf3 u l g).map fun x=>(x.2.1,x.2.2,2*o+x.1.toNat):=by
 unfold Zf3;simp only[Vb];split
 ·rfl
 ·split<;>rfl
def Qea (p P j:Nat):Bool:=match Ya p P (j+1) with
 | some s=>s.2.2%2==1
 | none=>false
def Zdy (p P n:Nat):List Bool:=(List.range n).map (Qea p P)
theorem Yd(p P n:Nat):(Zdy p P n).length=n:=by simp[Zdy]
theorem Ztr(p P n:Nat):Zdy p P (n+1)=Zdy p P n++[Qea p P n]:=by simp[Zdy,List.range_succ]
theorem Zxi(p P n j:Nat)(h:j<n):(Zdy p P n).getD j false=Qea p P j:=by
 unfold Zdy;rw[List.getD_eq_getElem?_getD,List.getElem?_map,List.getElem?_range h];rfl
theorem Zl5{p P n l g o:Nat}(h:Ya p P n=some (l,g,o)):
  Ya p P (n+1)=(Zf3 (2^P) l g).map fun x=>(x.2.1,x.2.2,2*o+x.1.toNat):=by
 simp only[Ya,h,Option.bind_some];exact Zna ..
theorem Zg3{p P n l g o:Nat}{b:Bool}{l' g':Nat}(h:Ya p P n=some (l,g,o))(hs:Zf3 (2^P) l g=some (b,l',g')):
  Ya p P (n+1)=some (l',g',2*o+b.toNat)/\Qea p P n=b:=by
 have h1:=Zl5 h;rw[hs] at h1;refine⟨h1,?_⟩;unfold Qea;rw[h1]
 show ((2*o+b.toNat)%2==1)=b
 cases b
 ·have:(2*o+0)%2=0:=by omega
  show ((2*o+0)%2==1)=false
  rw[this];rfl
 ·have:(2*o+1)%2=1:=by omega
  show ((2*o+1)%2==1)=true
  rw[this];rfl
theorem Zl3{p P n l g o:Nat}(h:Ya p P n=some (l,g,o))(hs:Zf3 (2^P) l g=none):Ya p P (n+1)=none:=by
 rw[Zl5 h,hs];rfl
theorem Qaa{p P n:Nat}{s t:Nat×Nat×Nat}(h:Ya p P n=some s)(h2:Ya p P (n+1)=some t):t.2.2=2*s.2.2+(Qea p P n).toNat:=by
 obtain⟨l,g,o⟩:=s;cases hs:Zf3 (2^P) l g with
 | none=>rw[Zl3 h hs] at h2;cases h2
 | some x =>
  obtain⟨b,l',g'⟩:=x;obtain⟨h3,h4⟩:=Zg3 h hs;rw[h3] at h2;cases h2
  rw[h4]
/-! The words of a prime. -/
theorem Qej(m i x y:Nat)(h:i+1<m):vW (((List.replicate m 0).set i x).set (i+1) y)=18446744073709551616^i*(x+18446744073709551616*y):=by
 have h1:=Zgp (List.replicate m 0) i x (by simp;omega);have h2:=Zgp ((List.replicate m 0).set i x) (i+1) y (by simp;omega);have e1:(List.replicate m 0).getD i 0=0:=by rw[List.getD_eq_getElem?_getD,List.getElem?_replicate];split<;>rfl
 have e2:((List.replicate m 0).set i x).getD (i+1) 0=0:=by
  rw[List.getD_eq_getElem?_getD,List.getElem?_set_ne (by omega),List.getElem?_replicate];split<;>rfl
 rw[e1,Zj0,Nat.mul_zero,Nat.zero_add] at h1;rw[e2,Nat.mul_zero] at h2;simp only[Nat.add_zero] at h1 h2;rw[h2,h1,Nat.mul_add,Nat.pow_succ,Nat.mul_assoc]
theorem Qek(m i x:Nat)(h:i<m):vW ((List.replicate m 0).set i x)=18446744073709551616^i*x:=by
 have h1:=Zgp (List.replicate m 0) i x (by simp;omega);have e1:(List.replicate m 0).getD i 0=0:=by rw[List.getD_eq_getElem?_getD,List.getElem?_replicate];split<;>rfl
 rw[e1,Zj0,Nat.mul_zero,Nat.zero_add] at h1
 simpa using h1
def Qdu (p at_ m:Nat):List Nat :=
 let l:=(List.replicate m 0).set (at_/64) (p*2^(at_%64)%18446744073709551616)
 if 0<at_%64 then l.set (at_/64+1) (p/2^(64-at_%64)) else l
theorem Zpp(p at_ m:Nat):(Qdu p at_ m).length=m:=by unfold Qdu;dsimp only;split<;>simp
theorem Qas(p at_ m:Nat)(hp:p<128)(h:at_/64+1<m):vW (Qdu p at_ m)=p*2^at_:=by
 have Od:(18446744073709551616:Nat)=2^64:=by decide
 have ea:2^at_=2^(64*(at_/64))*2^(at_%64):=by rw[<- Nat.pow_add];congr 1;omega
 have eb:(18446744073709551616:Nat)^(at_/64)=2^(64*(at_/64)):=by rw[Od,<- Nat.pow_mul]
 unfold Qdu
 dsimp only
 split
 ·rename_i h0
  rw[Qej m _ _ _ h,eb,ea];have e2:p/2^(64-at_%64)=p*2^(at_%64)/18446744073709551616:=by
   have e3:(18446744073709551616:Nat)=2^(64-at_%64)*2^(at_%64):=by rw[<- Nat.pow_add,show 64-at_%64+at_%64=64 by omega]
   rw[e3,Nat.mul_div_mul_right _ _ (Nat.two_pow_pos _)]
  rw[e2,Nat.mod_add_div,Nat.mul_left_comm]
 ·rename_i h0
  rw[Qek m _ _ (by omega),eb,ea];have h1:at_%64=0:=by omega
  rw[h1,Nat.pow_zero,Nat.mul_one,Nat.mul_one,Nat.mod_eq_of_lt (by omega),Nat.mul_comm]
theorem Qar(p at_ m:Nat)(hp:p<128):Wds (Qdu p at_ m):=by
 have h1:Wds ((List.replicate m 0).set (at_/64) (p*2^(at_%64)%18446744073709551616)):=(Wds.zeros m).set _ _ (Nat.mod_lt _ (by decide));unfold Qdu
 dsimp only
 split
 ·refine h1.set _ _ ?_;have:=Nat.div_le_self p (2^(64-at_%64))
  omega
 ·exact h1
/-! Digits in groups. -/
structure MaS (w:World) (B R P:Nat) (a1:OA_) (c1:Nat) (L:List Nat) (a2:OA_) (c2:Nat) (H:List Nat):Prop where
 ob:w.heap[R]?=some (.cells #[.slice a1 L.length c1,.slice a2 H.length c2,.int .i64 P] 375 (0,0))
 o1:Qv w B a1 c1 L
 o2:Qv w B a2 c2 H
 p1:Wds L
 p2:Wds H
def Zxs (w:World) (B R P lo hi:Nat):Prop:=∃ a1 c1 L a2 c2 H,MaS w B R P a1 c1 L a2 c2 H/\B<=R/\L.length=P/64+2/\H.length=P/64+2/\vW L=lo/\vW H=hi
theorem MaS.below{w w':World}{B R P:Nat}{a1 a2:OA_}{c1 c2:Nat}{L H:List Nat}(h:MaS w B R P a1 c1 L a2 c2 H)(hb:Bw_ w w'):MaS w' B R P a1 c1 L a2 c2 H :=
 ⟨by rw[hb.block R (Array.getElem?_eq_some_iff.1 h.ob).1];exact h.ob,h.o1.below hb nr_,h.o2.below hb nr_,h.p1,h.p2⟩
theorem Kf{w:World}{g:Nat}{a b c:Value}{t:TypeId}(h:w.heap[g]?=some (.cells #[a,b,c] t (0,0))):
  w.cell? ⟨g,0,none⟩=some a/\w.cell? ⟨g,1,none⟩=some b/\w.cell? ⟨g,2,none⟩=some c/\(∀ j,w.frozen? ⟨g,j,none⟩=false):=by
 refine⟨by rw[cell_of_row w g 0 _ t (0,0) h];rfl,by rw[cell_of_row w g 1 _ t (0,0) h];rfl,by rw[cell_of_row w g 2 _ t (0,0) h];rfl,fun j=>?_⟩;simp[World.frozen?,h]
theorem Zf1(x:Nat)(h:x<18446744073709551616):bits .or .u64 (0:Int) (x:Int)=(x:Int):=by
 have:=(bits_nat .u64 64 (by decide) (fun n h0 h1=>by rw[IntKind.wrap_u64];omega) 0 x (by omega) (by omega)).2
 rw[Nat.zero_or] at this;exact this
theorem Zxj(w:World)(p k P:Nat)(hp:p<128)(hk:k<=P)(hP:P<=2000):
  Calls Tryz.prog 292 #[.int .i64 p,.int .i64 k,.int .i64 P] w fun e w'=>∃ R,e = .returned (.pointer (some ⟨R,0,none⟩))/\Zxs w' w.heap.size R P (p*2^(P-k)) (p*2^(P-k))/\Bw_ w w':=by
 obtain⟨n,hn⟩:∃ n,P/64+2=n:=⟨_,rfl⟩;obtain⟨t,ht⟩:∃ t,P-k=t:=⟨_,rfl⟩;have fl:=Zvy n w (by omega);have gw:=hd_ (Zb7 w (List.replicate n 0) (by simp;omega));have Hb:=hd_ ((Below.refl w.heap.size w).alloc nr_ (.cells (Zk (List.replicate n 0)).toArray 204));rw[List.length_replicate] at gw;obtain⟨m,hm⟩:∃ m,P/64=m:=⟨_,rfl⟩;obtain⟨i,JS⟩:∃ i,t/64=i:=⟨_,rfl⟩;obtain⟨r,C'⟩:∃ r,t%64=r:=⟨_,rfl⟩;have hq:Int.tdiv (P:Int) 64=(m:Nat):=by rw[Int.tdiv_eq_ediv_of_nonneg (by omega)];omega
 have AN:(P:Int)/64=(m:Nat):=by omega
 have Ct:IntKind.i64.wrap ((m:Int)+2)=(n:Nat):=by rw[show (m:Int)+2=(n:Nat) by omega];exact iw_ _ (by omega)
 have pD:IntKind.i64.wrap ((P:Int)-k)=(t:Nat):=by rw[show (P:Int)-k=(t:Nat) by omega];exact iw_ _ (by omega)
 have hd:Int.tdiv (t:Int) 64=(i:Nat):=by rw[Int.tdiv_eq_ediv_of_nonneg (by omega)];omega
 have ic:(t:Int)/64=(i:Nat):=by omega
 have hr:Int.tmod (t:Int) 64=(r:Nat):=by rw[Int.tmod_eq_emod_of_nonneg (by omega)];omega
 have FU:(t:Int)%64=(r:Nat):=by omega
 have Cr:r<64:=by omega
 have hi:i+1<n:=by omega
 have gN:=Qas p t n hp (by omega);have FB:=Qar p t n hp;have gd:=Zpp p t n;unfold Qdu at gN FB gd
 dsimp only at gN FB gd
 rw[JS,C'] at gN FB gd;have CH:(w.alloc (.cells (Zk (List.replicate n 0)).toArray 204)).cell? ⟨w.heap.size,i,none⟩=some (.int .u64 (0:Int)):=by
  obtain⟨g,hg,GE,hg2,hg3,hg4,hg5⟩:=gw.o.open (by simp;omega);obtain rfl:w.heap.size=g:=by simpa using hg
  have:=hg4 i (by simp;omega)
  rw[List.getD_eq_getElem?_getD,List.getElem?_replicate,if_pos (by omega)] at this;exact this
 have Af:∀ j,(w.alloc (.cells (Zk (List.replicate n 0)).toArray 204)).frozen? ⟨w.heap.size,j,none⟩=false:=by
  obtain⟨g,hg,GE,hg2,hg3,hg4,hg5⟩:=gw.o.open (by simp;omega);obtain rfl:w.heap.size=g:=by simpa using hg
  exact hg5
 generalize w.alloc (.cells (Zk (List.replicate n 0)).toArray 204)=w1 at *;have Do:bits .or .u64 (0:Int) (IntKind.u64.wrap ((p:Int)*2^r))=((p*2^r%18446744073709551616:Nat):Int):=by
  have e2:IntKind.u64.wrap ((p:Int)*2^r)=((p*2^r%18446744073709551616:Nat):Int):=by
   rw[IntKind.wrap_u64,Int.natCast_emod,Int.natCast_mul,Int.natCast_pow];rfl
  rw[e2];exact Zf1 _ (Nat.mod_lt _ (by decide))
 obtain⟨x,hx⟩:∃ x,p*2^r%18446744073709551616=x:=⟨_,rfl⟩;rw[hx] at Do gN FB gd;have Mi:=Af i;have py:IntKind.u64.wrap (p:Int)=(p:Int):=IntWalk.u64_in _ (by omega);rw[ht];go_enter Tryz.func292,Tryz.ntmps292;go_wp2_with fail;have fO:=hd_ (gw.o.store i x);have Fz:=hd_ (Hb.o.setCell (p:=⟨w.heap.size,i,none⟩) nr_ (.int .u64 (x:Nat)));have q1:=NW.cell CH;have gn:Nonempty (NW w1):=⟨⟨w1,Below.refl _ _⟩⟩;have I:Hid (Bw_ w1 w1.drew):=(Below.refl _ _).drew;refine wn_ 12 [(2,0),(2,1),(2,2),(2,3),(1,4),(2,5),(2,6),(2,7),(2,8),(2,9),(2,10),(2,11),(0,12)] I ?_;iterate 4 (refine wa_ rfl ?_;go_big_quiet_step (fail);refine wq_ ?_)
 refine wr_ rfl ?_;go_big_quiet_step (fail);refine wq_ ?_;iterate 7 (refine wa_ rfl ?_;go_big_quiet_step (fail);refine wq_ ?_)
 iterate 1 (refine wm_ rfl ?_;go_wp2_with fail)
 simp only[RP.walkR];have Fx:Hid (Qv (w1.setCell ⟨w.heap.size,i,none⟩ (.int .u64 (x:Nat))).drew w.heap.size (some ⟨w.heap.size,0,none⟩) n ((List.replicate n 0).set i x)):=fO.o.below (Qa _ 1) nr_;have G5:Hid (Bw_ w (w1.setCell ⟨w.heap.size,i,none⟩ (.int .u64 (x:Nat))).drew):=Qg Fz.o 1;clear fO Fz I gn q1 CH Mi Do gw Hb;generalize (w1.setCell ⟨w.heap.size,i,none⟩ (.int .u64 (x:Nat))).drew=w2 at *
 by_cases h0:0<r
 ·have iy:(0:Int)<r:=by omega
  have Ae:IntKind.i64.wrap (64-(r:Int))=((64-r:Nat):Int):=by rw[show (64:Int)-r=((64-r:Nat):Int) by omega];exact iw_ _ (by omega)
  have Dp:IntKind.i64.wrap ((i:Int)+1)=((i+1:Nat):Int):=by rw[<- Int.natCast_succ];exact iw_ _ (by omega)
  have A5:((List.replicate n 0).set i x).length=n:=by simp
  have lB:w2.cell? ⟨w.heap.size,i+1,none⟩=some (.int .u64 (0:Int)):=by
   obtain⟨g,hg,GE,hg2,hg3,hg4,hg5⟩:=Fx.o.open (by simp;omega);obtain rfl:w.heap.size=g:=by simpa using hg
   have:=hg4 (i+1) (by simp;omega)
   rw[List.getD_eq_getElem?_getD,List.getElem?_set_ne (by omega),List.getElem?_replicate,if_pos (by omega)] at this;exact this
  have MF:w2.frozen? ⟨w.heap.size,i+1,none⟩=false:=by
   obtain⟨g,hg,GE,hg2,hg3,hg4,hg5⟩:=Fx.o.open (by simp;omega);obtain rfl:w.heap.size=g:=by simpa using hg
   exact hg5 _
  obtain⟨y,hy⟩:∃ y,p/2^(64-r)=y:=⟨_,rfl⟩;have pu:(p:Int)/2^(64-r)=(y:Nat):=by rw[<- hy,Int.natCast_ediv,Int.natCast_pow];rfl
  have Jj:y<18446744073709551616:=by rw[<- hy];have:=Nat.div_le_self p (2^(64-r));omega
  have AQ:=Zf1 y Jj;rw[if_pos h0,hy] at gN FB gd;have HV:=hd_ gN;have HW:=hd_ FB;have HL:=hd_ gd;have nV:=hd_ (Fx.o.store (i+1) y);have FS:=hd_ (G5.o.setCell (p:=⟨w.heap.size,i+1,none⟩) nr_ (.int .u64 (y:Nat)));have q1:=NW.cell lB;have gn:Nonempty (NW w2):=⟨⟨w2,Below.refl _ _⟩⟩;have I:Hid (Bw_ w2 w2.drew):=(Below.refl _ _).drew;clear gN FB gd hy Fx G5;go_wp2_with fail;refine wn_ 14 [(2,0),(2,1),(2,2),(2,3),(2,4),(1,5),(2,6),(2,7),(2,8),(2,9),(2,10),(2,11),(2,12),(2,13),(0,14)] I ?_;iterate 5 (refine wa_ rfl ?_;go_big_quiet_step (fail);refine wq_ ?_)
  refine wr_ rfl ?_;go_big_quiet_step (fail);refine wq_ ?_;iterate 8 (refine wa_ rfl ?_;go_big_quiet_step (fail);refine wq_ ?_)
  iterate 1 (refine wm_ rfl ?_;go_wp2_with fail)
  simp only[RP.walkR];have ax:Hid (Qv (w2.setCell ⟨w.heap.size,i+1,none⟩ (.int .u64 (y:Nat))).drew w.heap.size (some ⟨w.heap.size,0,none⟩) n (((List.replicate n 0).set i x).set (i+1) y)):=nV.o.below (Qa _ 1) nr_;have Fy:Hid (Bw_ w (w2.setCell ⟨w.heap.size,i+1,none⟩ (.int .u64 (y:Nat))).drew):=Qg FS.o 1;clear nV FS I gn q1 lB MF AQ;generalize (w2.setCell ⟨w.heap.size,i+1,none⟩ (.int .u64 (y:Nat))).drew=w3 at *;generalize ((List.replicate n 0).set i x).set (i+1) y=Ls at *;have HC:=Ze1 w3 (some ⟨w.heap.size,0,none⟩) n Ls ax.o.reads (by rw[HL.o];omega) (by rw[HL.o];omega);rw[HL.o] at HC;have IY:=hd_ HC;clear HC;go_wp2_with fail;refine cm_ IY.o ?_;rintro e w4 ⟨g,d,rfl,ho,hb⟩;have O1:=hd_ (ax.o.below hb nr_);have O2:=hd_ (ho.mono Fy.o.size);have B5:=bt_ Fy hb;have fy:=hd_ B5.o.size;clear ho hb IY ax Fy;go_wp2_with fail;go_ret;refine⟨w4.heap.size,rfl,⟨_,_,Ls,_,_,Ls,⟨?_,O1.o.below ((Below.refl _ _).alloc nr_ _) nr_,O2.o.below ((Below.refl _ _).alloc nr_ _) nr_,HW.o,HW.o⟩,fy.o,by rw[HL.o];omega,by rw[HL.o];omega,HV.o,HV.o⟩,B5.o.alloc fy.o _⟩;have:=heap_alloc_new w4 (.cells #[.slice (some ⟨w.heap.size,0,none⟩) n n,.slice (some ⟨g,0,none⟩) n d,.int .i64 P] 375)
  rw[HL.o];exact this
 ·have iy:¬ (0:Int)<r:=by omega
  rw[if_neg h0] at gN FB gd;have HV:=hd_ gN;have HW:=hd_ FB;have HL:=hd_ gd;have ax:=Fx;have Fy:=G5;clear gN FB gd Fx G5;generalize w2=w3 at *;generalize (List.replicate n 0).set i x=Ls at *;have HC:=Ze1 w3 (some ⟨w.heap.size,0,none⟩) n Ls ax.o.reads (by rw[HL.o];omega) (by rw[HL.o];omega);rw[HL.o] at HC;have IY:=hd_ HC;clear HC;go_wp2_with fail;refine cm_ IY.o ?_;rintro e w4 ⟨g,d,rfl,ho,hb⟩;have O1:=hd_ (ax.o.below hb nr_);have O2:=hd_ (ho.mono Fy.o.size);have B5:=bt_ Fy hb;have fy:=hd_ B5.o.size;clear ho hb IY ax Fy;go_wp2_with fail;go_ret;refine⟨w4.heap.size,rfl,⟨_,_,Ls,_,_,Ls,⟨?_,O1.o.below ((Below.refl _ _).alloc nr_ _) nr_,O2.o.below ((Below.refl _ _).alloc nr_ _) nr_,HW.o,HW.o⟩,fy.o,by rw[HL.o];omega,by rw[HL.o];omega,HV.o,HV.o⟩,B5.o.alloc fy.o _⟩;have:=heap_alloc_new w4 (.cells #[.slice (some ⟨w.heap.size,0,none⟩) n n,.slice (some ⟨g,0,none⟩) n d,.int .i64 P] 375)
  rw[HL.o];exact this
def frX (z:Int) (a:OA_) (c d:Nat) (b:OA_) (e:Nat):Value := .agg #[.bool (decide (z<0)),.slice a (wN z.natAbs).length c,.slice b (wN d).length e]
def Zes (f:FuncId) (args:Array Value) (w:World) (z:Int) (d:Nat):Prop:=Calls Tryz.prog f args w fun e_ w'=>∃ a c b e,e_ = .returned (frX z a c d b e)/\IsX w' a c z.natAbs/\IsX w' b e d/\Bw_ w w'
theorem Zhq(n:Nat)(a:OA_)(c:Nat):igV (n:Int) a c = .agg #[.bool false,.slice a (wN n).length c]:=by
 unfold igV;rw[Int.natAbs_natCast,decide_eq_false (by omega)]
theorem Zc{w0 w:World}{B g:Nat}{a b c:Value}(x y z:Value)(k0:w.cell? ⟨g,0,none⟩=some a)(k1:w.cell? ⟨g,1,none⟩=some b)(k2:w.cell? ⟨g,2,none⟩=some c)(hB:B<=g)(hb:Below B w0 w):
  (((w.setCell ⟨g,0,none⟩ x).setCell ⟨g,1,none⟩ y).setCell ⟨g,2,none⟩ z).cell? ⟨g,0,none⟩=some x/\(((w.setCell ⟨g,0,none⟩ x).setCell ⟨g,1,none⟩ y).setCell ⟨g,2,none⟩ z).cell? ⟨g,1,none⟩=some y/\(((w.setCell ⟨g,0,none⟩ x).setCell ⟨g,1,none⟩ y).setCell ⟨g,2,none⟩ z).cell? ⟨g,2,none⟩=some z /\
  Below B w0 (((w.setCell ⟨g,0,none⟩ x).setCell ⟨g,1,none⟩ y).setCell ⟨g,2,none⟩ z):=by
 refine⟨?_,?_,?_,?_⟩
 ·rw[World.cell?_setCell_other _ _ _ _ (by simp),World.cell?_setCell_other _ _ _ _ (by simp),World.cell?_setCell_same _ _ _ k0]
 ·rw[World.cell?_setCell_other _ _ _ _ (by simp),World.cell?_setCell_same _ _ _ (by rw[World.cell?_setCell_other _ _ _ _ (by simp)];exact k1)]
 ·rw[World.cell?_setCell_same _ _ _ (by rw[World.cell?_setCell_other _ _ _ _ (by simp),World.cell?_setCell_other _ _ _ _ (by simp)];exact k2)]
 ·exact((hb.setCell (p:=⟨g,0,none⟩) hB x).setCell (p:=⟨g,1,none⟩) hB y).setCell (p:=⟨g,2,none⟩) hB z
theorem Zgi(w:World)(z:Int)(a b:OA_)(c d e:Nat):Kc Tryz.prog 63 #[frX z a c d b e] w (.bool (decide (z=0))):=by
 unfold Kc frX;have hz:(decide (z=0))=(((wN z.natAbs).length:Int)==0):=by
  by_cases h:z=0
  ·rw[decide_eq_true h,h,show (0:Int).natAbs=0 from rfl,Va];rfl
  ·have:=Zl.2 (show 0<z.natAbs by omega)
   rw[decide_eq_false h];symm;rw[beq_eq_false_iff_ne];omega
 rw[hz];clear hz;generalize decide (z<0)=s;generalize (wN z.natAbs).length=n;generalize (wN d).length=m;have N0:=Kj w #[.bool s,.slice a n c,.slice b m e] 121 _ rfl;have B0:=hd_ ((Below.refl w.heap.size w).alloc nr_ (.cells #[.bool s,.slice a n c,.slice b m e] 121));obtain⟨k0,k1,k2,-⟩:=Kf N0;clear N0;go_enter Tryz.func63,Tryz.ntmps63;go_wp2_with fail;go_ret;exact⟨rfl,B0.o⟩
theorem Zry(w:World)(x y:Int)(d e:Nat)(a1 a2 b1 b2:OA_)(c1 c2 e1 e2:Nat)(h1:IsX w a1 c1 x.natAbs)(h2:IsX w a2 c2 y.natAbs)(g1:IsX w b1 e1 d)(g2:IsX w b2 e2 e)(l1:Qx x.natAbs)(l2:Qx y.natAbs)(m1:Qx d)(m2:Qx e):
  Zes 70 #[frX x a1 c1 d b1 e1,frX y a2 c2 e b2 e2] w (x*y) (d*e):=by
 unfold Zes frX;have HT:=hd_ (fun W (hW:Bw_ w W)=>Zew W x y a1 a2 c1 c2 (h1.below hW nr_) (h2.below hW nr_) l1 l2);have HP:=hd_ (fun W (hW:Bw_ w W)=>Zad W b1 b2 e1 e2 d e (g1.below hW nr_).1 (g2.below hW nr_).1 m1 m2);unfold Zc5 igV at HT;unfold Ye at HP;clear h1 h2 g1 g2 l1 l2 m1 m2;generalize decide (x<0)=sx at *;generalize decide (y<0)=sy at *;generalize decide (x*y<0)=sz at *;generalize (x*y).natAbs=pz at *;generalize (wN x.natAbs).length=m1 at *;generalize (wN y.natAbs).length=m2 at *;generalize (wN d).length=n1 at *;generalize (wN e).length=n2 at *;generalize d*e=de at *;have H3:=hd_ (Qax.mk' w #[.bool sx,.slice a1 m1 c1,.slice b1 n1 e1] #[.bool sy,.slice a2 m2 c2,.slice b2 n2 e2] #[.bool false,.slice none 0 0,.slice none 0 0] 121 121 121);go_enter Tryz.func70,Tryz.ntmps70;go_wp2_with fail;generalize ((w.alloc (.cells #[.bool sx,.slice a1 m1 c1,.slice b1 n1 e1] 121)).alloc (.cells #[.bool sy,.slice a2 m2 c2,.slice b2 n2 e2] 121)).alloc (.cells #[.bool false,.slice none 0 0,.slice none 0 0] 121)=W1 at *;obtain⟨k0,k1,k2,-⟩:=Kf H3.o.fa;obtain⟨k3,k4,k5,-⟩:=Kf H3.o.fb;have q0:=NW.cell k0;have q1:=NW.cell k1;have q2:=NW.cell k2;have q3:=NW.cell k3;have q4:=NW.cell k4;have q5:=NW.cell k5;have gn:Nonempty (NW W1):=⟨⟨W1,Below.refl _ _⟩⟩;have I:Hid (Bw_ W1 W1.drew):=(Below.refl _ _).drew;clear k0 k1 k2 k3 k4 k5;refine wn_ 11 [(1,0),(1,1),(1,2),(1,3),(1,5),(1,6),(1,7),(1,8),(0,4),(0,9),(2,10),(0,11)] I ?_;iterate 8 (refine wr_ rfl ?_;go_big_quiet_step (fail);refine wq_ ?_)
 refine wm_ rfl ?_;go_wp2_with fail;refine cm_ (HT.o _ (H3.o.bel.trans (I.o.mono H3.o.bel.size))) ?_;rintro e_ y0 ⟨ra0,rc0,rfl,hi_,hb_⟩;have J0:Hid (Bw_ W1 y0):=I.o.trans (hb_.mono I.o.size);have R0:=hd_ hi_;clear hb_ hi_;go_wp2_with fail;refine⟨⟨⟨_,J0.o⟩,rfl⟩,?_⟩;clear HT I;refine wm_ rfl ?_;go_wp2_with fail;refine cm_ (HP.o _ (H3.o.bel.trans (J0.o.mono H3.o.bel.size))) ?_;rintro e_ y1 ⟨ek,rc1,rfl,hi_,hb_⟩;have J1:Hid (Bw_ W1 y1):=J0.o.trans (hb_.mono J0.o.size);have R1:=hd_ hi_;replace R0:=hd_ (R0.o.below hb_ nr_);clear hb_ hi_;go_wp2_with fail;refine⟨⟨⟨_,J1.o⟩,rfl⟩,?_⟩;clear HP J0;refine wa_ rfl ?_;go_big_quiet_step (fail);refine wq_ ?_;have H5:=hd_ (H3.o.next J1.o);obtain⟨k0_,k1_,k2_,f_⟩:=Kf H5.o.fr;have gZ:=hd_ (Zc (.bool sz) (.slice ra0 (wN pz).length rc0) (.slice ek (wN de).length rc1) k0_ k1_ k2_ (show w.heap.size<=w.heap.size+1+1 by omega) H5.o.bel);have GC:=Zbw H5.o.fr;have Et:=f_ 0;have Es:=f_ 1;have iz:=f_ 2;refine wm_ rfl ?_;go_wp2_with fail;simp only[RP.walkR];go_wp2_with fail;obtain⟨c0_,c1_,c2_,hb_⟩:=gZ.o;exact bodyPost_ret (v := .agg #[.bool sz,.slice ra0 (wN pz).length rc0,.slice ek (wN de).length rc1]) (by simp[results,Tryz.results70,go_sem,c0_,c1_,c2_]) rfl ⟨ra0,rc0,ek,rc1,rfl,R0.o.set3 GC _ _ _,R1.o.set3 GC _ _ _,hb_⟩
theorem Zw7{x y:Nat}:(Vi x y==0)=decide (x=y):=by
 unfold Vi
 by_cases h1:x<y
 ·rw[if_pos h1,decide_eq_false (by omega)];rfl
 ·rw[if_neg h1]
  by_cases h2:x=y
  ·rw[if_pos h2,decide_eq_true h2];rfl
  ·rw[if_neg h2,decide_eq_false h2];rfl
def Ztt (p q:Int×Nat):Int×Nat:=if p.2=q.2 then (p.1+q.1,p.2) else (p.1*q.2+q.1*p.2,p.2*q.2)
theorem Qav(w:World)(x y:Int)(d e:Nat)(a1 a2 b1 b2:OA_)(c1 c2 e1 e2:Nat)(h1:IsX w a1 c1 x.natAbs)(h2:IsX w a2 c2 y.natAbs)(g1:IsX w b1 e1 d)(g2:IsX w b2 e2 e)(l1:Qx x.natAbs)(l2:Qx y.natAbs)(m1:Qx d)(m2:Qx e)(lx:Qx (x*e).natAbs)(ly:Qx (y*d).natAbs):
  Zes 69 #[frX x a1 c1 d b1 e1,frX y a2 c2 e b2 e2] w (Ztt (x,d) (y,e)).1 (Ztt (x,d) (y,e)).2:=by
 unfold Zes frX;have HC:=hd_ (fun W (hW:Bw_ w W)=>Zar W b1 b2 e1 e2 d e (g1.below hW nr_).1 (g2.below hW nr_).1 (Nat.le_trans m1 (by decide)));have hc:=Zw7 (x:=d) (y:=e);have H3:=hd_ (Qax.mk' w #[.bool (decide (x<0)),.slice a1 (wN x.natAbs).length c1,.slice b1 (wN d).length e1] #[.bool (decide (y<0)),.slice a2 (wN y.natAbs).length c2,.slice b2 (wN e).length e2] #[.bool false,.slice none 0 0,.slice none 0 0] 121 121 121)
 by_cases fY:d=e
 ·subst fY;rw[decide_eq_true rfl] at hc;have HS:=hd_ (fun W (hW:Bw_ w W)=>Zlm W x y a1 a2 c1 c2 (h1.below hW nr_) (h2.below hW nr_) l1 l2);unfold Zc5 igV at HS;have G1:=hd_ g1;have hv:Ztt (x,d) (y,d)=(x+y,d):=by unfold Ztt;rw[if_pos rfl]
  rw[hv];clear h1 h2 g1 g2 l1 l2 m1 m2 lx ly hv
  dsimp only
  obtain⟨v,hv⟩:∃ v,Vi d d=v:=⟨_,rfl⟩;rw[hv] at HC hc;clear hv;generalize decide (x<0)=sx at *;generalize decide (y<0)=sy at *;generalize decide (x+y<0)=sz at *;generalize (x+y).natAbs=pz at *;generalize (wN x.natAbs).length=m1 at *;generalize (wN y.natAbs).length=m2 at *;obtain⟨k0,k1,k2,-⟩:=Kf H3.o.fa;obtain⟨k3,k4,k5,-⟩:=Kf H3.o.fb;go_enter Tryz.func69,Tryz.ntmps69;go_wp2_with fail;generalize ((w.alloc (.cells #[.bool sx,.slice a1 m1 c1,.slice b1 (wN d).length e1] 121)).alloc (.cells #[.bool sy,.slice a2 m2 c2,.slice b2 (wN d).length e2] 121)).alloc (.cells #[.bool false,.slice none 0 0,.slice none 0 0] 121)=W0 at *;clear k0 k1 k2 k3 k4 k5;refine cm_ (HC.o _ H3.o.bel) ?_;rintro e_ W1 ⟨rfl,hb⟩;replace H3:=hd_ (H3.o.next hb);clear hb HC;go_wp2_with fail;obtain⟨k0,k1,k2,-⟩:=Kf H3.o.fa;obtain⟨k3,k4,k5,-⟩:=Kf H3.o.fb;have q0:=NW.cell k0;have q1:=NW.cell k1;have q2:=NW.cell k2;have q3:=NW.cell k3;have q4:=NW.cell k4;have q5:=NW.cell k5;have gn:Nonempty (NW W1):=⟨⟨W1,Below.refl _ _⟩⟩;have I:Hid (Bw_ W1 W1.drew):=(Below.refl _ _).drew;clear k0 k1 k2 k3 k4 k5;refine wn_ 8 [(1,0),(1,1),(1,2),(1,3),(1,5),(1,6),(0,4),(2,7),(0,8)] I ?_;iterate 6 (refine wr_ rfl ?_;go_big_quiet_step (fail);refine wq_ ?_)
  refine wm_ rfl ?_;go_wp2_with fail;refine cm_ (HS.o _ (H3.o.bel.trans (I.o.mono H3.o.bel.size))) ?_;rintro e_ y0 ⟨ra0,rc0,rfl,hi_,hb_⟩;have J0:Hid (Bw_ W1 y0):=I.o.trans (hb_.mono I.o.size);have R0:=hd_ hi_;clear hb_ hi_;go_wp2_with fail;refine⟨⟨⟨_,J0.o⟩,rfl⟩,?_⟩;have GB:=hd_ (G1.o.below (H3.o.bel.trans (J0.o.mono H3.o.bel.size)) nr_);clear HS I G1;refine wa_ rfl ?_;go_big_quiet_step (fail);refine wq_ ?_;have H5:=hd_ (H3.o.next J0.o);obtain⟨k0_,k1_,k2_,f_⟩:=Kf H5.o.fr;have gZ:=hd_ (Zc (.bool sz) (.slice ra0 (wN pz).length rc0) (.slice b1 (wN d).length e1) k0_ k1_ k2_ (show w.heap.size<=w.heap.size+1+1 by omega) H5.o.bel);have GC:=Zbw H5.o.fr;have Et:=f_ 0;have Es:=f_ 1;have iz:=f_ 2;refine wm_ rfl ?_;go_wp2_with fail;simp only[RP.walkR];go_wp2_with fail;obtain⟨c0_,c1_,c2_,hb_⟩:=gZ.o;exact bodyPost_ret (v := .agg #[.bool sz,.slice ra0 (wN pz).length rc0,.slice b1 (wN d).length e1]) (by simp[results,Tryz.results69,go_sem,c0_,c1_,c2_]) rfl ⟨ra0,rc0,b1,e1,rfl,R0.o.set3 GC _ _ _,GB.o.set3 GC _ _ _,hb_⟩
 ·rw[decide_eq_false fY] at hc;have hv:Ztt (x,d) (y,e)=(x*e+y*d,d*e):=by unfold Ztt;rw[if_neg fY]
  have IA:=hd_ (fun W (hW:Bw_ w W)=>Zew W x (e:Int) a1 b2 c1 e2 (h1.below hW nr_) (g2.below hW nr_) l1 m2);have GZ:=hd_ (fun W (hW:Bw_ w W)=>Zew W y (d:Int) a2 b1 c2 e1 (h2.below hW nr_) (g1.below hW nr_) l2 m1);have HS:=hd_ (fun W r1 s1 r2 s2 (k1:IsX W r1 s1 (x*(e:Int)).natAbs) (k2:IsX W r2 s2 (y*(d:Int)).natAbs)=>Zlm W (x*e) (y*d) r1 r2 s1 s2 k1 k2 lx ly);have HP:=hd_ (fun W (hW:Bw_ w W)=>Zad W b1 b2 e1 e2 d e (g1.below hW nr_).1 (g2.below hW nr_).1 m1 m2);simp only[Zhq] at IA GZ;unfold Zc5 igV at IA GZ HS;unfold Ye at HP;rw[hv];clear h1 h2 g1 g2 l1 l2 m1 m2 lx ly hv fY
  dsimp only
  obtain⟨v,hv⟩:∃ v,Vi d e=v:=⟨_,rfl⟩;rw[hv] at HC hc;clear hv;obtain⟨xe,CZ⟩:∃ z,x*(e:Int)=z:=⟨_,rfl⟩;obtain⟨yd,hyd⟩:∃ z,y*(d:Int)=z:=⟨_,rfl⟩;rw[CZ] at IA HS ⊢;rw[hyd] at GZ HS ⊢;clear CZ hyd;generalize decide (x<0)=sx at *;generalize decide (y<0)=sy at *;generalize decide (xe+yd<0)=sz at *;generalize (xe+yd).natAbs=pz at *;generalize decide (xe<0)=s1 at *;generalize decide (yd<0)=s2 at *;generalize xe.natAbs=p1 at *;generalize yd.natAbs=p2 at *;generalize d*e=de at *;generalize (wN x.natAbs).length=m1 at *;generalize (wN y.natAbs).length=m2 at *;generalize (wN d).length=n1 at *;generalize (wN e).length=n2 at *;obtain⟨k0,k1,k2,-⟩:=Kf H3.o.fa;obtain⟨k3,k4,k5,-⟩:=Kf H3.o.fb;go_enter Tryz.func69,Tryz.ntmps69;go_wp2_with fail;generalize ((w.alloc (.cells #[.bool sx,.slice a1 m1 c1,.slice b1 n1 e1] 121)).alloc (.cells #[.bool sy,.slice a2 m2 c2,.slice b2 n2 e2] 121)).alloc (.cells #[.bool false,.slice none 0 0,.slice none 0 0] 121)=W0 at *;clear k0 k1 k2 k3 k4 k5;refine cm_ (HC.o _ H3.o.bel) ?_;rintro e_ W1 ⟨rfl,hb⟩;replace H3:=hd_ (H3.o.next hb);clear hb HC;go_wp2_with fail;obtain⟨k0,k1,k2,-⟩:=Kf H3.o.fa;obtain⟨k3,k4,k5,-⟩:=Kf H3.o.fb;have q0:=NW.cell k0;have q1:=NW.cell k1;have q2:=NW.cell k2;have q3:=NW.cell k3;have q4:=NW.cell k4;have q5:=NW.cell k5;have gn:Nonempty (NW W1):=⟨⟨W1,Below.refl _ _⟩⟩;have I:Hid (Bw_ W1 W1.drew):=(Below.refl _ _).drew;clear k0 k1 k2 k3 k4 k5;refine wn_ 19 [(1,0),(1,1),(1,2),(1,3),(2,4),(1,6),(1,7),(1,8),(1,9),(2,10),(1,13),(1,14),(1,15),(1,16),(0,5),(0,11),(0,12),(0,17),(2,18),(0,19)] I ?_;iterate 4 (refine wr_ rfl ?_;go_big_quiet_step (fail);refine wq_ ?_)
  refine wa_ rfl ?_;go_big_quiet_step (fail);refine wq_ ?_;iterate 4 (refine wr_ rfl ?_;go_big_quiet_step (fail);refine wq_ ?_)
  refine wa_ rfl ?_;go_big_quiet_step (fail);refine wq_ ?_;iterate 4 (refine wr_ rfl ?_;go_big_quiet_step (fail);refine wq_ ?_)
  refine wm_ rfl ?_;go_wp2_with fail;refine cm_ (IA.o _ (H3.o.bel.trans (I.o.mono H3.o.bel.size))) ?_;rintro e_ y0 ⟨ra0,rc0,rfl,hi_,hb_⟩;have J0:Hid (Bw_ W1 y0):=I.o.trans (hb_.mono I.o.size);have R0:=hd_ hi_;clear hb_ hi_;go_wp2_with fail;refine⟨⟨⟨_,J0.o⟩,rfl⟩,?_⟩;clear IA I;refine wm_ rfl ?_;go_wp2_with fail;refine cm_ (GZ.o _ (H3.o.bel.trans (J0.o.mono H3.o.bel.size))) ?_;rintro e_ y1 ⟨ek,rc1,rfl,hi_,hb_⟩;have J1:Hid (Bw_ W1 y1):=J0.o.trans (hb_.mono J0.o.size);have R1:=hd_ hi_;replace R0:=hd_ (R0.o.below hb_ nr_);clear hb_ hi_;go_wp2_with fail;refine⟨⟨⟨_,J1.o⟩,rfl⟩,?_⟩;clear GZ J0;refine wm_ rfl ?_;go_wp2_with fail;refine cm_ (HS.o _ ra0 rc0 ek rc1 R0.o R1.o) ?_;rintro e_ y2 ⟨cV,rc2,rfl,hi_,hb_⟩;have J2:Hid (Bw_ W1 y2):=J1.o.trans (hb_.mono J1.o.size);have R2:=hd_ hi_;clear hb_ hi_;go_wp2_with fail;refine⟨⟨⟨_,J2.o⟩,rfl⟩,?_⟩;clear HS J1 R0 R1;refine wm_ rfl ?_;go_wp2_with fail;refine cm_ (HP.o _ (H3.o.bel.trans (J2.o.mono H3.o.bel.size))) ?_;rintro e_ y3 ⟨ra3,rc3,rfl,hi_,hb_⟩;have J3:Hid (Bw_ W1 y3):=J2.o.trans (hb_.mono J2.o.size);have R3:=hd_ hi_;replace R2:=hd_ (R2.o.below hb_ nr_);clear hb_ hi_;go_wp2_with fail;refine⟨⟨⟨_,J3.o⟩,rfl⟩,?_⟩;clear HP J2;refine wa_ rfl ?_;go_big_quiet_step (fail);refine wq_ ?_;have H5:=hd_ (H3.o.next J3.o);obtain⟨k0_,k1_,k2_,f_⟩:=Kf H5.o.fr;have gZ:=hd_ (Zc (.bool sz) (.slice cV (wN pz).length rc2) (.slice ra3 (wN de).length rc3) k0_ k1_ k2_ (show w.heap.size<=w.heap.size+1+1 by omega) H5.o.bel);have GC:=Zbw H5.o.fr;have Et:=f_ 0;have Es:=f_ 1;have iz:=f_ 2;refine wm_ rfl ?_;go_wp2_with fail;simp only[RP.walkR];go_wp2_with fail;obtain⟨c0_,c1_,c2_,hb_⟩:=gZ.o;exact bodyPost_ret (v := .agg #[.bool sz,.slice cV (wN pz).length rc2,.slice ra3 (wN de).length rc3]) (by simp[results,Tryz.results69,go_sem,c0_,c1_,c2_]) rfl ⟨cV,rc2,ra3,rc3,rfl,R2.o.set3 GC _ _ _,R3.o.set3 GC _ _ _,hb_⟩
theorem Zy4(w:World):Zes 64 #[] w 0 1:=by
 unfold Zes frX;have N0:=hd_ (Kj w #[.bool false,.slice none 0 0,.slice none 0 0] 121 _ rfl);have B0:=hd_ ((Below.refl w.heap.size w).alloc nr_ (.cells #[.bool false,.slice none 0 0,.slice none 0 0] 121));go_enter Tryz.func64,Tryz.ntmps64
 go_upto_region 1 with fail
 generalize w.alloc (.cells #[.bool false,.slice none 0 0,.slice none 0 0] 121)=w1 at *;have C1:=hd_ ((Below.refl w1.heap.size w1).alloc nr_ (.cells #[.int .u32 1] 131));have N1:=hk_ N0 C1.o;have B1:=bt_ B0 C1.o;have R1:Hid (IsX (w1.alloc (.cells #[.int .u32 1] 131)) (some ⟨w1.heap.size,0,none⟩) 1 1):=IsX.one (Kj w1 #[.int .u32 1] 131 _ rfl);obtain⟨k0_,k1_,k2_,f_⟩:=Kf N1.o;have gZ:=hd_ (Zc (.bool false) (.slice none 0 0) (.slice (some ⟨w1.heap.size,0,none⟩) 1 1) k0_ k1_ k2_ nr_ B1.o);have GC:=Zbw N1.o;have Et:=f_ 0;have Es:=f_ 1;have iz:=f_ 2;go_wp2_with fail;obtain⟨c0_,c1_,c2_,hb_⟩:=gZ.o;exact bodyPost_ret (v := .agg #[.bool false,.slice none 0 0,.slice (some ⟨w1.heap.size,0,none⟩) 1 1]) (by simp[results,Tryz.results64,go_sem,c0_,c1_,c2_]) rfl ⟨none,0,some ⟨w1.heap.size,0,none⟩,1,by rw[show (0:Int).natAbs=0 from rfl,Va,Vd];rfl,IsX.zero _,R1.o.set3 GC _ _ _,hb_⟩
theorem Qg5(w:World)(s:ByteArray)(k:Nat)(h:k<s.size):
  (Instr.index 9 (.string s) (.int .i64 k)).run Tryz.prog w = .ok (.int .u8 ((lb s).getD k 0).toNat) w:=by
 rw[run_index_string _ _ _ _ _ Tryz.underlying9];have h2:(0:Int)<=k/\(k:Int)<s.size:=by omega
 rw[dif_pos h2];have e:(lb s).getD k 0=s[((k:Nat):Int).toNat]'(by omega):=by
  unfold lb;rw[List.getD_eq_getElem?_getD,List.getElem?_eq_getElem (show k<s.data.toList.length by rw[Array.length_toList];exact h)];rfl
 rw[e]
theorem Qde{n k:Nat}(h:k<(dec n).size):48<=((lb (dec n)).getD k 0).toNat/\((lb (dec n)).getD k 0).toNat<=57:=by
 rw[Yg];rw[Kt] at h;exact Zap n _ (by rw[List.getD_eq_getElem?_getD,List.getElem?_eq_getElem h];exact List.getElem_mem _)
theorem Qaf{n:Nat}:((lb (dec n)).getD 0 0).toNat=48->n=0/\(dec n).size=1:=by
 intro h;rw[Yg] at h;have hc:=Znc n;have hp:=Zi n;rcases hc.2.2 with h1|h1
 ·refine⟨?_,by rw[Kt];exact h1⟩
  match hl:Lib.decDigits n,h1 with
  | [c],_ =>
   have hv:=Zh n;rw[hl] at hv h;have:Vg [c]=c.toNat-48:=by simp[Vg]
   have h':c.toNat=48:=h;omega
 ·exfalso;refine h1 ?_
  match hl:Lib.decDigits n,hp with
  | c::l,_ =>
   rw[hl] at h;have h':c.toNat=48:=h;have:c=48:=UInt8.toNat_inj.1 (by rw[h'];rfl)
   rw[this];rfl
theorem Qc.set1{w:World}{g i:Nat}{a:OA_}{l:List Nat}(h:Qc w a l)(hn:Zpt w g)(x:Value):Qc (w.setCell ⟨g,i,none⟩ x) a l:=by
 rcases h.apart hn with h|⟨b,o,h1,h2,h3,h4⟩
 ·exact .inl h
 ·refine .inr ⟨b,o,h1,⟨h2.choose,by rw[Below.heap_setCell _ _ _ _ h3];exact h2.choose_spec⟩,fun j hj=>?_⟩;rw[World.cell?_setCell_other _ _ _ _ (by simp)];exact h4 j hj
theorem IsX.set1{w:World}{g i c n:Nat}{a:OA_}(h:IsX w a c n)(hn:Zpt w g)(x:Value):IsX (w.setCell ⟨g,i,none⟩ x) a c n:=⟨h.1.set1 hn x,h.2⟩
theorem Zyn{w:World}{g:Nat}{a b:Value}{t:TypeId}(h:w.heap[g]?=some (.cells #[a,b] t (0,0)))(x:Value):(w.setCell ⟨g,1,none⟩ x).heap[g]?=some (.cells #[a,x] t (0,0)):=by
 have:=heap_setCell_same w g 1 _ t x h
 exact this
theorem Zyo{w:World}{g:Nat}{a b:Value}{t:TypeId}(h:w.heap[g]?=some (.cells #[a,b] t (0,0)))(x:Value):(w.setCell ⟨g,0,none⟩ x).heap[g]?=some (.cells #[x,b] t (0,0)):=by
 have:=heap_setCell_same w g 0 _ t x h
 exact this
theorem Zga{w:World}{g g' i:Nat}{o:Obj}(h:w.heap[g]?=some o)(gj:g≠g')(x:Value):(w.setCell ⟨g',i,none⟩ x).heap[g]?=some o:=by
 exact(Below.heap_setCell _ _ _ _ gj).trans h
theorem IsX.ten{w:World}{g:Nat}(h:w.heap[g]?=some (.cells #[.int .u32 10] 131 (0,0))):IsX w (some ⟨g,0,none⟩) 1 10:=by
 have e:wN 10=[10]:=Zpw (by decide) (by decide);refine⟨.inr ⟨g,0,rfl,⟨_,h⟩,fun i hi=>?_⟩,by rw[e];exact Nat.le_refl _⟩;rw[e] at hi ⊢;have JS:i<1:=hi;obtain rfl:i=0:=by omega
 exact cell_of_row _ _ 0 _ _ _ h
structure RdX (w:World) (neg:Bool) (n k:Nat) (a:OA_) (c:Nat) (wr:World):Prop where
 res:wr.heap[w.heap.size]?=some (.cells #[.bool false,.slice none 0 0] 119 (0,0))
 o:wr.heap[w.heap.size+1]?=some (.cells #[.bool neg,.slice a (wN (Vg ((lb (dec n)).take k))).length c] 119 (0,0))
 num:IsX wr a c (Vg ((lb (dec n)).take k))
 bel:Bw_ w wr
theorem Zea(w:World)(z:Int)(hz:(dec z.natAbs).size<=400):
  Calls Tryz.prog 66 #[.string (itx z)] w fun e w'=>∃ a c,e = .returned (.tuple #[igV z a c,.bool true])/\IsX w' a c z.natAbs/\Bw_ w w':=by
 unfold igV;obtain⟨n,hn⟩:∃ n,z.natAbs=n:=⟨_,rfl⟩;rw[hn] at hz ⊢;have HD:Hid (∀ k,k<(dec n).size->∃ u:Nat,((lb (dec n)).getD k 0).toNat=u/\48<=u/\u<=57/\(∀ W,(Instr.index 9 (.string (dec n)) (.int .i64 k)).run Tryz.prog W = .ok (.int .u8 u) W)/\Vg ((lb (dec n)).take (k+1))=10*Vg ((lb (dec n)).take k)+(u-48)):=fun k hk=>by
  have h:=Qde hk;refine⟨_,rfl,h.1,h.2,fun W=>Qg5 W _ k hk,Zbq _ _ (by rw[Yg,<- Kt];exact hk)⟩
 have IQ:Hid (Qx n):=by
  have h1:n<10^400:=(Ku n 400 (by decide)).1 (by rw[<- Kt];exact hz);have h2:n<4294967296^1000:=Nat.lt_of_lt_of_le h1 (by decide +kernel);exact Nat.le_trans (Zlt h2) (by decide)
 have Ay:Hid (∀ k,Vg ((lb (dec n)).take k)<=n):=fun k=>by
  have h1:=Za6 ((lb (dec n)).take k) ((lb (dec n)).drop k);rw[List.take_append_drop,Yg,Zh] at h1;rw[Yg];have h2:Vg ((Lib.decDigits n).take k)*1<=Vg ((Lib.decDigits n).take k)*10^((Lib.decDigits n).drop k).length:=Nat.mul_le_mul_left _ (Nat.pow_pos (by decide));omega
 have eZ:Hid (Vg ((lb (dec n)).take (dec n).size)=n):=by
  show _=_
  rw[Yg,Kt,List.take_length,Zh]
 have De:=Zs n;have Hh:=hd_ (Qaf (n:=n));obtain⟨L,hL⟩:∃ L,(dec n).size=L:=⟨_,rfl⟩;rw[hL] at hz HD De Hh eZ;have HL:=hd_ hL;have gj:((dec n).toList==([]:List UInt8))=false:=by
  rw[beq_eq_false_iff_ne];intro e;have:=congrArg List.length e
  rw[ByteArray.toList_eq] at this;simp only[Array.length_toList,List.length_nil] at this;have h2:(dec n).data.size=L:=hL;omega
 have Be:(dec n).toList.isEmpty=false:=by
  cases h:(dec n).toList with
  | nil=>rw[h] at gj;exact absurd gj (by decide)
  | cons a l=>rfl
 have au:Hid ((decide (z<0)=true/\1<=n/\itx z=itx (-(n:Int)))\/(decide (z<0)=false/\itx z=dec n)):=by
  by_cases h:z<0
  ·exact .inl ⟨decide_eq_true h,by omega,by rw[<- hn];congr 1;omega⟩
  ·exact .inr ⟨decide_eq_false h,by rw[show z=(n:Int) by omega,Kh]⟩
 obtain⟨neg,Gh⟩:∃ b,decide (z<0)=b:=⟨_,rfl⟩;rw[Gh] at au ⊢;clear Gh hn;generalize itx z=s0 at *;have nk:Hid (neg=true->1<=n):=fun h=>by
  rcases au.o with h2|h2
  ·exact h2.2.1
  ·rw[h] at h2;exact absurd h2.1 (by decide)
 obtain⟨v0,hixg,hv45,hpos0⟩:∃ v0:Nat,(∀ W,(Instr.index 9 (.string s0) (.int .i64 0)).run Tryz.prog W = .ok (.int .u8 v0) W)/\((v0:Int)==45)=neg/\(0:Int)<s0.size:=by
  rcases au.o with⟨rfl,h1,rfl⟩|⟨rfl,rfl⟩
  ·have Ge:=Ve n h1;refine⟨45,fun W=>?_,rfl,by omega⟩;have:=Qg5 W (itx (-(n:Int))) 0 (by omega)
   rw[Yw n h1] at this;exact this
  ·obtain⟨u,hu,C0,bX,eB,-⟩:=HD.o 0 De;exact⟨u,eB,by rw[beq_eq_false_iff_ne];omega,by rw[hL];omega⟩
 have K0:=Kj w #[.bool false,.slice none 0 0] 119 _ rfl;have e1:(w.alloc (.cells #[.bool false,.slice none 0 0] 119)).heap.size=w.heap.size+1:=by simp
 have N1:=hd_ (Kj (w.alloc (.cells #[.bool false,.slice none 0 0] 119)) #[.bool false,.slice none 0 0] 119 _ e1);have N0:=hd_ (Ki K0 (.cells #[.bool false,.slice none 0 0] 119));have B0:=hd_ (((Below.refl w.heap.size w).alloc nr_ (.cells #[.bool false,.slice none 0 0] 119)).alloc (by rw[e1];omega) (.cells #[.bool false,.slice none 0 0] 119));clear K0 e1;go_enter Tryz.func66,Tryz.ntmps66
 go_upto_if 15 with fail
 generalize (w.alloc (.cells #[.bool false,.slice none 0 0] 119)).alloc (.cells #[.bool false,.slice none 0 0] 119)=w2 at *;clear hixg hpos0
 go_cut [4] from 16 to 18 (fun s wx=>s = .string (dec n)/\Hid (wx.heap[w.heap.size]?=some (.cells #[.bool false,.slice none 0 0] 119 (0,0)))/\Hid (wx.heap[w.heap.size+1]?=some (.cells #[.bool neg,.slice none 0 0] 119 (0,0)))/\Hid (Bw_ w wx))
 case first =>
  rcases au.o with⟨rfl,h1,rfl⟩|⟨rfl,hs0'⟩
  ·have Ge:=Ve n h1;have fw:(1:Int)<=(itx (-(n:Int))).size:=by omega
   have Hr:=hd_ (Zky n h1);clear Ge au hv45;generalize itx (-(n:Int))=s at *;obtain⟨k0,k1,f0,f1⟩:=Ka N1.o;go_wp2_with fail;refine RP.wp_region_readers 3 [(2,0),(2,1),(2,2),(0,3),(0,4)] (fun _=>True) (by kernel_rfl) (by kernel_rfl) ?_ ?_
   ·trivial
   iterate 3 (refine wa_ rfl ?_;go_big_quiet_step (fail);refine wq_ ?_)
   refine wm_ rfl ?_;go_wp2_with fail;refine wm_ rfl ?_;go_wp2_with fail;simp only[RP.walkR];go_wp2_with fail
   go_meet
   have hD:=(Below.refl w2.heap.size w2).drew;exact⟨by rw[Hr.o],Zga (hj_ N0 hD) (by omega) _,Zyo (hj_ N1 hD) _,(bu_ B0 hD).setCell (p:=⟨w.heap.size+1,0,none⟩) (by show w.heap.size<=w.heap.size+1;omega) _⟩
  ·have Ox:=hd_ hs0';clear hv45 hs0' au;go_wp2_with fail
   go_meet
   exact⟨by rw[Ox.o],N0.o,N1.o,B0.o⟩
 case rest =>
 obtain⟨rfl,M0,M1,B1⟩:=hcut;clear N0 N1 B0 au hv45;obtain⟨k0,-,-,-⟩:=Ka M1.o
 go_upto_region 5 with fail
 go_cut [39] from 19 to 39 (fun c wx=>c = .bool false/\wc=wx)
 case first =>
  obtain⟨u,hu,C0,bX,hix0,-⟩:=HD.o 0 De;have eB:∀ W,(Instr.index 9 (.string (dec n)) (.int .i64 0)).run Tryz.prog W = .ok (.int .u8 u) W:=hix0;clear hix0;have gd:¬ (400:Int)<(L:Int):=by omega
  by_cases h48:u=48
  ·obtain⟨ES,fE⟩:=Hh.o (by rw[hu];exact h48);have JA:neg=false:=by
    cases hb:neg with
    | false=>rfl
    | true=>have:=nk.o hb;omega
   subst JA;subst h48;subst fE;clear ES hu C0 bX;go_wp2_with fail
   go_meet
   exact⟨rfl,rfl⟩
  ·have CF:((u:Int)==48)=false:=by rw[beq_eq_false_iff_ne];omega
   have Oa:(u==48)=false:=by rw[beq_eq_false_iff_ne];exact h48
   clear hu C0 bX;go_wp2_with fail
   go_meet
   exact⟨rfl,rfl⟩
 case rest =>
 obtain⟨rfl,rfl⟩:=hcut;clear k0 gj Be Hh nk;have HR:Hid (RdX w neg n 0 none 0 wc):=by
  refine⟨M0.o,?_,?_,B1.o⟩
  ·rw[List.take_zero,show Vg []=0 from rfl,Va];exact M1.o
  ·rw[List.take_zero];exact IsX.zero _
 have Pg:=HL.o;clear M0 M1 B1;go_wp2_with fail
 go_loopw [43] (fun i wr=>∃ (k:Nat) (a:OA_) (c:Nat),k<=L/\i = .int .i64 k/\Hid (RdX w neg n k a c wr)) (fun i _=>L-(intOf i).toNat)
 case atStart=>exact⟨0,none,0,Nat.zero_le _,rfl,HR.o⟩
 case round =>
  obtain⟨k,a,c,hk,rfl,HI⟩:=hrel;clear HR
  by_cases H7:k<L
  ·obtain⟨x,hx⟩:∃ x,Vg ((lb (dec n)).take k)=x:=⟨_,rfl⟩;obtain⟨u,hu,C0,bX,eB,GC⟩:=HD.o k H7;have N1:=hd_ HI.o.o;have X1:=hd_ HI.o.num;have N0:=hd_ HI.o.res;have B1:=hd_ HI.o.bel;rw[hx] at N1 X1 GC;have eT:=hd_ GC;have Lx:Hid (Qx x):=(IQ.o).le (by rw[<- hx];exact Ay.o k);clear GC hx HI;obtain⟨k0,k1,f0,f1⟩:=Ka N1.o;have q0:=NW.cell k1;have gn:Nonempty (NW wr):=⟨⟨wr,Below.refl _ _⟩⟩;have I:Hid (Bw_ wr wr.drew):=(Below.refl _ _).drew;have ol:¬ u<48:=by omega
   have oB:¬ 57<u:=by omega
   have m7:¬ (u:Int)<48:=by omega
   have Mh:¬ (57:Int)<u:=by omega
   have Fm:IntKind.u8.wrap ((u:Int)-48)=((u-48:Nat):Int):=by rw[IntKind.wrap_u8];omega
   have NP:IntKind.u64.wrap ((u-48:Nat):Int)=((u-48:Nat):Int):=Qk _ (by omega);have HP:=hd_ (fun W r1 s1 r2 s2 (k1:IsX W r1 s1 x) (k2:IsX W r2 s2 10)=>Zad W r1 r2 s1 s2 x 10 k1.1 k2.1 Lx.o (show Qx 10 by unfold Qx;rw[Zpw (by decide) (by decide)];decide));have Ax:=hd_ (fun W=>Zkl W (u-48) (by omega));have D3:=hd_ (fun W r1 s1 r2 s2 (k1:IsX W r1 s1 (x*10)) (k2:IsX W r2 s2 (u-48))=>Zec W r1 r2 s1 s2 (x*10) (u-48) k1.1 k2.1 (IQ.o.le (by have:=Ay.o (k+1);rw[eT.o] at this;omega)) (IQ.o.le (by have:=Ay.o (k+1);rw[eT.o] at this;omega)));unfold Ye at HP Ax D3;rw[Zpw (show 0<10 by decide) (by decide)] at HP;clear k0 k1 f0 f1 hu C0 bX;have gi:(k:Int)<L:=by omega
   go_wp2_with fail;refine wn_ 12 [(1,0),(1,1),(2,4),(2,5),(2,6),(2,7),(2,8),(0,2),(0,3),(0,9),(0,10),(2,11),(0,12)] I ?_;iterate 2 (refine wr_ rfl ?_;go_big_quiet_step (fail);refine wq_ ?_)
   iterate 5 (refine wa_ rfl ?_;go_big_quiet_step (fail);refine wq_ ?_)
   refine wm_ rfl ?_;go_wp2_with fail;have T0:=hd_ ((I.o).alloc I.o.size (.cells #[.int .u32 10] 131));refine⟨⟨⟨_,T0.o⟩,rfl⟩,?_⟩;have XT:=hd_ (X1.o.below T0.o nr_);have MK:Hid (IsX (wr.drew.alloc (.cells #[.int .u32 10] 131)) (some ⟨wr.drew.heap.size,0,none⟩) 1 10):=IsX.ten (Kj wr.drew #[.int .u32 10] 131 _ rfl);clear X1 I gn q0;refine wm_ rfl ?_;go_wp2_with fail;refine cm_ (HP.o _ _ _ _ _ XT.o MK.o) ?_;rintro e_ y1 ⟨ek,rc1,rfl,hi_,hb_⟩;have J1:Hid (Bw_ wr y1):=T0.o.trans (hb_.mono T0.o.size);have R1:=hd_ hi_;clear hb_ hi_ HP XT MK T0;go_wp2_with fail;refine⟨⟨⟨_,J1.o⟩,rfl⟩,?_⟩;refine wm_ rfl ?_;go_wp2_with fail;refine cm_ (Ax.o _) ?_;rintro e_ y2 ⟨cV,rc2,rfl,hi_,hb_⟩;have J2:Hid (Bw_ wr y2):=J1.o.trans (hb_.mono J1.o.size);have R2:=hd_ hi_;replace R1:=hd_ (R1.o.below hb_ nr_);clear hb_ hi_ Ax J1;go_wp2_with fail;refine⟨⟨⟨_,J2.o⟩,rfl⟩,?_⟩;refine wm_ rfl ?_;go_wp2_with fail;refine cm_ (D3.o _ _ _ _ _ R1.o R2.o) ?_;rintro e_ y3 ⟨ra3,rc3,rfl,hi_,hb_⟩;have J3:Hid (Bw_ wr y3):=J2.o.trans (hb_.mono J2.o.size);have R3:=hd_ hi_;clear hb_ hi_ D3 J2 R1 R2;go_wp2_with fail;refine⟨⟨⟨_,J3.o⟩,rfl⟩,?_⟩;have M1:=hk_ N1 J3.o;have M0:=hk_ N0 J3.o;have B3:=bt_ B1 J3.o;obtain⟨k0_,k1_,Et,Es⟩:=Ka M1.o;have N9:=Zz M1.o;have Jq:x*10+(u-48)=Vg ((lb (dec n)).take (k+1)):=by rw[eT.o];omega
   have Ou:=hd_ Jq;have R4:Hid (IsX y3 ra3 rc3 (Vg ((lb (dec n)).take (k+1)))):=by rw[<- Jq];exact R3
   clear N0 N1 B1 J3 Jq eT Lx R3;refine wa_ rfl ?_;go_big_quiet_step (fail);refine wq_ ?_;refine wm_ rfl ?_;go_wp2_with fail;simp only[RP.walkR];go_wp2_with fail;rw[Ou.o];refine⟨⟨k+1,ra3,rc3,by omega,by go_num,⟨Zga M0.o (by omega) _,Zyn M1.o _,R4.o.set1 N9 _,B3.o.setCell (p:=⟨w.heap.size+1,1,none⟩) (by show w.heap.size<=w.heap.size+1;omega) _⟩⟩,by simp[intOf];omega⟩
  ·obtain rfl:k=L:=by omega
   have N1:=hd_ HI.o.o;have X1:=hd_ HI.o.num;have N0:=hd_ HI.o.res;have B1:=hd_ HI.o.bel;rw[eZ.o] at N1 X1;clear HI H7;obtain⟨k0,k1,-,-⟩:=Ka N1.o;obtain⟨k0_,k1_,Et,Es⟩:=Ka N0.o;have gZ:=hd_ (Kl (.bool neg) (.slice a (wN n).length c) k0_ k1_ nr_ B1.o);have EF:=hd_ (X1.o.set2 (Zz N0.o) (.bool neg) (.slice a (wN n).length c));go_wp2_with fail;obtain⟨c0_,c1_,hb_⟩:=gZ.o;exact bodyPost_ret (v := .tuple #[.agg #[.bool neg,.slice a (wN n).length c],.bool true]) (by simp[results,Tryz.results66,go_sem,c0_,c1_]) rfl ⟨a,c,rfl,EF.o,hb_⟩
end Go.Proofs.YtbielfplgbammaaGreatDoor

namespace Go.Proofs.YtbielfplgbammaaGreatDoor.LN
def sg (x:Rat):Int:=if 1<x then 1 else if x<1 then -1 else 0
theorem Zuz:sg 1=0:=by decide
theorem Zqe{x:Rat}:sg x=1↔1<x:=by
 unfold sg
 by_cases h:1<x
 ·simp[h]
 ·rw[if_neg h];split<;>simp[h]
theorem Zqf{x:Rat}:sg x = -1↔x<1:=by
 unfold sg
 by_cases h:1<x
 ·rw[if_pos h];constructor
  ·intro h2;cases h2
  ·intro h2;exact absurd h2 (by grind)
 ·rw[if_neg h];split<;>simp_all
theorem Qgh{x:Rat}:0<=sg x↔1<=x:=by
 constructor
 ·intro h;refine Rat.not_lt.1 fun h2=>?_
  rw[Zqf.2 h2] at h;omega
 ·intro h;unfold sg;split
  ·decide
  ·split
   ·rename_i h2;exact absurd h (Rat.not_le.2 h2)
   ·decide
theorem Qgg{x:Rat}:sg x<=0↔x<=1:=by
 constructor
 ·intro h;refine Rat.not_lt.1 fun h2=>?_
  rw[Zqe.2 h2] at h;omega
 ·intro h;unfold sg;split
  ·rename_i h2;exact absurd h (Rat.not_le.2 h2)
  ·split<;>decide
theorem Zuy{x:Rat}:sg x=0↔x=1:=by
 constructor
 ·intro h;exact Rat.le_antisymm (Qgg.1 (by omega)) (Qgh.1 (by omega))
 ·rintro rfl;exact Zuz
theorem Zyk(x:Rat):sg x=1\/sg x=0\/sg x = -1:=by
 unfold sg;split
 ·exact .inl rfl
 ·split
  ·exact .inr (.inr rfl)
  ·exact .inr (.inl rfl)
theorem Zsm{x y:Rat}(hx:1<=x)(hy:1<=y):1<=x*y:=by
 have h:=Rat.mul_le_mul_of_nonneg_left hy (show 0<=x by grind);rw[Rat.mul_one] at h;exact Rat.le_trans hx h
theorem Zsl{x y:Rat}(hx:1<x)(hy:1<=y):1<x*y:=by
 have h:=Rat.mul_le_mul_of_nonneg_left hy (show 0<=x by grind);rw[Rat.mul_one] at h
 grind
theorem Zss{x y:Rat}(h0:0<x)(hx:x<=1)(hy:y<=1):x*y<=1:=by
 have h:=Rat.mul_le_mul_of_nonneg_left hy (show 0<=x by grind);rw[Rat.mul_one] at h
 grind
theorem Zsr{x y:Rat}(h0:0<x)(hx:x<1)(hy:y<=1):x*y<1:=by
 have h:=Rat.mul_le_mul_of_nonneg_left hy (show 0<=x by grind);rw[Rat.mul_one] at h
 grind
theorem Zi8{x:Rat}(hx:1<=x):∀ m:Nat,1<=x^m
 | 0=>by rw[Rat.pow_zero];exact Rat.le_refl
 | m+1=>by rw[Rat.pow_succ];exact Zsm (Zi8 hx m) hx
theorem Zi7{x:Rat}(hx:1<x)(m:Nat)(hm:0<m):1<x^m:=by
 obtain⟨k,rfl⟩:=Nat.exists_eq_succ_of_ne_zero (by omega:m≠0);rw[Rat.pow_succ,Rat.mul_comm];exact Zsl hx (Zi8 (by grind) k)
theorem Zi9{x:Rat}(h0:0<x)(hx:x<=1):∀ m:Nat,x^m<=1
 | 0=>by rw[Rat.pow_zero];exact Rat.le_refl
 | m+1=>by rw[Rat.pow_succ];exact Zss (Rat.pow_pos h0) (Zi9 h0 hx m) hx
theorem Zsi{x:Rat}(h0:0<x)(hx:x<1)(m:Nat)(hm:0<m):x^m<1:=by
 obtain⟨k,rfl⟩:=Nat.exists_eq_succ_of_ne_zero (by omega:m≠0);rw[Rat.pow_succ,Rat.mul_comm];exact Zsr h0 hx (Zi9 h0 (by grind) k)
theorem Qev{x:Rat}(h0:0<x){m:Nat}(hm:0<m):sg (x^m)=sg x:=by
 rcases Zyk x with h|h|h
 ·rw[h];exact Zqe.2 (Zi7 (Zqe.1 h) m hm)
 ·rw[h];rw[Zuy.1 h];have:(1:Rat)^m=1:=by
   clear hm
   induction m with
   | zero=>rfl
   | succ m ih=>rw[Rat.pow_succ,ih,Rat.mul_one]
  rw[this];exact Zuz
 ·rw[h];exact Zqf.2 (Zsi h0 (Zqf.1 h) m hm)
def vp:List Int->List Int->Rat
 | p::ps,k::ks=>(p:Rat)^k*vp ps ks
 | _,_=>1
theorem Qa3:∀ (ps ks:List Int),(∀ p∈ps,0<p)->0<vp ps ks
 | [],_,_=>by simp only[vp];decide
 | _::_,[],_=>by simp only[vp];decide
 | p::ps,k::ks,h=>by
  simp only[vp];exact Rat.mul_pos (Rat.zpow_pos (by have:=h p List.mem_cons_self;exact Rat.intCast_pos.2 this)) (Qa3 ps ks fun q hq=>h q (List.mem_cons_of_mem _ hq))
theorem Qa4:∀ (ps ks ms:List Int),(∀ p∈ps,0<p)->ks.length=ms.length->vp ps (List.zipWith (· + ·) ks ms)=vp ps ks*vp ps ms
 | [],_,_,_,_=>by simp only[vp];rw[Rat.mul_one]
 | _::_,[],[],_,_=>by simp[vp]
 | p::ps,k::ks,m::ms,h,hl=>by
  have ih:=Qa4 ps ks ms (fun q hq=>h q (List.mem_cons_of_mem _ hq)) (by simpa using hl);have hp:=h p List.mem_cons_self;have GG:(p:Rat)≠0:=by have:=Rat.intCast_pos.2 hp;grind
  simp only[List.zipWith_cons_cons,vp];rw[ih,Rat.zpow_add GG]
  grind
theorem Znv:∀ (ps ks:List Int),(∀ k∈ks,k=0)->vp ps ks=1
 | [],_,_=>rfl
 | _::_,[],_=>rfl
 | p::ps,k::ks,h=>by
  simp only[vp];rw[h k List.mem_cons_self,Znv ps ks fun x hx=>h x (List.mem_cons_of_mem _ hx),Rat.zpow_zero,Rat.mul_one]
theorem Zpy(ps ks:List Int)(h:∀ p∈ps,0<p):∀ m:Nat,vp ps (ks.map fun k=>(m:Int)*k)=vp ps ks^m
 | 0=>by
  rw[Rat.pow_zero];refine Znv _ _ fun k hk=>?_
  obtain⟨x,_,rfl⟩:=List.mem_map.1 hk;simp
 | m+1=>by
  have ih:=Zpy ps ks h m;have e:=Qa4 ps (ks.map fun k=>(m:Int)*k) ks h (by simp);rw[Rat.pow_succ,<- ih,<- e];congr 1;rw[List.zipWith_map_left];refine List.ext_getElem (by simp) fun i h1 h2=>?_
  simp;rw[Int.add_mul,Int.one_mul]
def vt:List (Int×Int)->Rat
 | []=>1
 | x::l=>(x.1:Rat)^x.2*vt l
theorem natCast_pow(a n:Nat):((a^n:Nat):Rat)=(a:Rat)^n:=by
 induction n with
 | zero=>rw[Nat.pow_zero,Rat.pow_zero];rfl
 | succ n ih=>rw[Nat.pow_succ,Rat.pow_succ,Rat.natCast_mul,ih]
theorem Qeh:∀ l:List (Int×Int),(∀ x∈l,0<x.1)->((upT l:Nat):Rat)=vt l*((upT (negT l):Nat):Rat)
 | [],_=>by simp[upT,negT,vt]
 | x::l,h=>by
  have ih:=Qeh l fun y hy=>h y (List.mem_cons_of_mem _ hy)
  have hx:=h x List.mem_cons_self;have e:negT (x::l)=(x.1,-x.2)::negT l:=rfl;rw[e];simp only[upT,vt];rw[Rat.natCast_mul,Rat.natCast_mul,ih,natCast_pow,natCast_pow];have hp:((x.1.toNat:Nat):Rat)=(x.1:Rat):=by
   rw[<- Rat.intCast_natCast,Int.toNat_of_nonneg (by omega)]
  rw[hp];have GG:(x.1:Rat)≠0:=by have:=Rat.intCast_pos.2 hx;grind
  have gS:(x.1:Rat)^x.2.toNat=(x.1:Rat)^x.2*(x.1:Rat)^(-x.2).toNat:=by
   rw[<- Rat.zpow_natCast,<- Rat.zpow_natCast,<- Rat.zpow_add GG];congr 1;omega
  rw[gS]
  grind
theorem Zt4:∀ l:List (Int×Int),(∀ x∈l,0<x.1)->0<upT l
 | [],_=>by simp[upT]
 | x::l,h=>by
  have hx:=h x List.mem_cons_self;exact Nat.mul_pos (Nat.pow_pos (by omega)) (Zt4 l fun y hy=>h y (List.mem_cons_of_mem _ hy))
theorem Zyf(l:List (Int×Int))(h:∀ x∈l,0<x.1):Zkb l=sg (vt l):=by
 have e:=Qeh l h;have hd:(0:Rat)<((upT (negT l):Nat):Rat):=by
  have:=Zt4 (negT l) (by
   intro x hx;obtain⟨y,hy,rfl⟩:=List.mem_map.1 hx;exact h y hy)
  exact Rat.natCast_pos.2 this
 have c1:upT (negT l)<upT l↔1<vt l:=by
  rw[<- Rat.natCast_lt_natCast,e];constructor
  ·intro h1;refine Rat.lt_of_mul_lt_mul_right (c:=((upT (negT l):Nat):Rat)) ?_ (Rat.le_of_lt hd);rw[Rat.one_mul];exact h1
  ·intro h1;have:=Rat.mul_lt_mul_of_pos_right h1 hd
   rw[Rat.one_mul] at this;exact this
 have c2:upT l<upT (negT l)↔vt l<1:=by
  rw[<- Rat.natCast_lt_natCast,e];constructor
  ·intro h1;refine Rat.lt_of_mul_lt_mul_right (c:=((upT (negT l):Nat):Rat)) ?_ (Rat.le_of_lt hd);rw[Rat.one_mul];exact h1
  ·intro h1;have:=Rat.mul_lt_mul_of_pos_right h1 hd
   rw[Rat.one_mul] at this;exact this
 unfold Zkb sg;simp only[c1,c2]
theorem mkRat_den'(n:Int)(d:Nat)(h:d≠0):(mkRat n d).den=d/Nat.gcd n.natAbs d:=by
 rw[<- Rat.normalize_eq_mkRat h,Rat.den_normalize]
theorem Zy1{q:Rat}:0<q.num↔0<q:=by
 have h1:=@Rat.num_nonneg q;have h2:=@Rat.num_eq_zero q;constructor
 ·intro h;have:=h1.1 (by omega)
  have h3:q≠0:=fun e=>by have:=h2.2 e;omega
  grind
 ·intro h;have:=h1.2 (by grind)
  have h3:q.num≠0:=fun e=>by have:=h2.1 e;grind
  omega
theorem num_neg'{q:Rat}:q.num<0↔q<0:=by
 have h1:=@Zy1 (-q);rw[Rat.neg_num] at h1;constructor
 ·intro h;have:=h1.1 (by omega)
  grind
 ·intro h;have:=h1.2 (by grind)
  omega
theorem Zza(q:Rat):q*(q.den:Rat)=(q.num:Rat):=by
 have h:mkRat q.num q.den=(q.num:Rat)/((q.den:Nat):Rat):=Rat.mkRat_eq_div _ _;rw[Rat.mkRat_self] at h;have h2:((q.den:Nat):Rat)≠0:=by have:=Rat.natCast_pos.2 q.den_pos;grind
 have h3:=Rat.div_mul_cancel (a:=(q.num:Rat)) h2;rw[<- h] at h3;exact h3
def ex (D:Nat) (q:Rat):Int:=q.num*((D/q.den:Nat):Int)
theorem ex_eq{D:Nat}{q:Rat}(h:q.den ∣ D):(ex D q:Rat)=q*(D:Rat):=by
 obtain⟨m,rfl⟩:=h;unfold ex;rw[Nat.mul_div_cancel_left _ q.den_pos,Rat.intCast_mul,Rat.intCast_natCast,Rat.natCast_mul];have h1:=Zza q
 grind
theorem ex_mul{D m:Nat}{a:Rat}(ha:a.den ∣ D):ex (m*D) a=(m:Int)*ex D a:=by
 have:a.den ∣ m*D:=Nat.dvd_trans ha (Nat.dvd_mul_left ..)
 rw[<- Rat.intCast_inj,Rat.intCast_mul,ex_eq ha,ex_eq this,Rat.natCast_mul,Rat.intCast_natCast]
 grind
theorem Zwn{D:Nat}(a:Rat)(h:a.num=0):ex D a=0:=by unfold ex;rw[h];simp
theorem Zpx(D:Nat):∀ (ps:List Int) (l:List Rat),vt (Qo D ps l)=vp ps (l.map (ex D))
 | [],_=>rfl
 | _::_,[]=>rfl
 | p::ps,q::l=>by
  have ih:=Zpx D ps l;unfold Qo at ih ⊢;rw[List.zip_cons_cons,List.filterMap_cons]
  by_cases h:q.num=0
  ·simp only[h,if_true,List.map_cons,vp];rw[ih,Zwn q h,Rat.zpow_zero,Rat.one_mul]
  ·simp only[h,if_false,List.map_cons,vp,vt];rw[ih];rfl
theorem Qb6(l:List Rat):∀ d:Nat,d ∣ l.foldl (fun d q=>Nat.lcm d q.den) d/\∀ q∈l,q.den ∣ l.foldl (fun d q=>Nat.lcm d q.den) d:=by
 induction l with
 | nil=>intro d;exact⟨Nat.dvd_refl _,by simp⟩
 | cons a l ih =>
  intro d;obtain⟨h1,h2⟩:=ih (Nat.lcm d a.den);refine⟨Nat.dvd_trans (Nat.dvd_lcm_left ..) h1,fun q hq=>?_⟩;rcases List.mem_cons.1 hq with rfl|hq
  ·exact Nat.dvd_trans (Nat.dvd_lcm_right ..) h1
  ·exact h2 q hq
theorem tden_dvd{l:List Rat}{q:Rat}(h:q∈l):q.den ∣ Ql l:=(Qb6 l 1).2 q h
theorem Zrz(l:List Rat):∀ (D d:Nat),d ∣ D->(∀ q∈l,q.den ∣ D)->l.foldl (fun d q=>Nat.lcm d q.den) d ∣ D:=by
 induction l with
 | nil=>intro D d h _;exact h
 | cons a l ih =>
  intro D d h h2;exact ih D _ (Nat.lcm_dvd h (h2 a List.mem_cons_self)) fun q hq=>h2 q (List.mem_cons_of_mem _ hq)
theorem tden_min{l:List Rat}{D:Nat}(h:∀ q∈l,q.den ∣ D):Ql l ∣ D:=Zrz l D 1 (Nat.one_dvd _) h
theorem tden_pos'(l:List Rat):0<Ql l:=by
 have:∀ (l:List Rat) (d:Nat),0<d->0<l.foldl (fun d q=>Nat.lcm d q.den) d:=by
  intro l
  induction l with
  | nil=>intro d h;exact h
  | cons a l ih=>intro d h;exact ih _ (Nat.lcm_pos h a.den_pos)
 exact this l 1 Nat.one_pos
def sz (ps:List Int) (l:List Rat):Int:=Zkb (Qo (Ql l) ps l)
theorem Zt8{D:Nat}{ps:List Int}{l:List Rat}(hp:∀ p∈ps,0<p):∀ x∈Qo D ps l,0<x.1:=by
 intro x hx;unfold Qo at hx;obtain⟨y,hy,he⟩:=List.mem_filterMap.1 hx;have h1:=(List.of_mem_zip hy).1;split at he
 ·cases he
 ·cases he;exact hp _ h1
theorem Qeq{ps:List Int}{l:List Rat}{D:Nat}(hp:∀ p∈ps,0<p)(hD:0<D)(h:∀ q∈l,q.den ∣ D):sz ps l=sg (vp ps (l.map (ex D))):=by
 unfold sz;rw[Zyf _ (Zt8 hp),Zpx];obtain⟨m,rfl⟩:=tden_min h;have hm:0<m:=Nat.pos_of_mul_pos_left hD;have e:l.map (ex (Ql l*m))=(l.map (ex (Ql l))).map fun k=>(m:Int)*k:=by
  rw[List.map_map];refine List.map_congr_left fun q hq=>?_
  rw[Nat.mul_comm,ex_mul (tden_dvd hq)];rfl
 rw[e,Zpy _ _ hp,Qev (Qa3 _ _ hp) hm]
theorem sz_zero{ps:List Int}{l:List Rat}(hp:∀ p∈ps,0<p)(h:∀ q∈l,q=0):sz ps l=0:=by
 rw[Qeq hp (tden_pos' l) fun q hq=>tden_dvd hq,Znv,Zuz];intro k hk;obtain⟨q,hq,rfl⟩:=List.mem_map.1 hk;exact Zwn q (by rw[h q hq];rfl)
end Go.Proofs.YtbielfplgbammaaGreatDoor.LN

namespace Go.Proofs.YtbielfplgbammaaGreatDoor.LN
theorem Zcr{x:Rat}(hx:x≠0)(a:Int):∀ n:Nat,(x^a)^n=x^(a*n)
 | 0=>by simp
 | n+1=>by
  rw[Rat.pow_succ,Zcr hx a n,<- Rat.zpow_add hx];congr 1;rw[Int.natCast_add,Int.mul_add];simp
theorem Zlr{x:Rat}(hx:x≠0)(a b:Int):(x^a)^b=x^(a*b):=by
 rcases Int.eq_nat_or_neg b with⟨n,rfl|rfl⟩
 ·rw[Rat.zpow_natCast,Zcr hx]
 ·rw[Rat.zpow_neg,Rat.zpow_natCast,Zcr hx,<- Rat.zpow_neg];congr 1;rw[Int.mul_neg]
theorem Zlz:(2:Rat)≠0:=by decide
theorem Zgr{a:Int}(h:0<a):(1:Rat)<2^a:=by
 obtain⟨n,rfl⟩:=Int.eq_ofNat_of_zero_le (Int.le_of_lt h);rw[Rat.zpow_natCast];exact Zi7 (by decide) n (by omega)
theorem Zgs{a:Int}(h:a<0):(2:Rat)^a<1:=by
 have h1:=Zgr (a := -a) (by omega);have h2:(2:Rat)^a*2^(-a)=1:=by rw[<- Rat.zpow_add Zlz];simp[Int.add_right_neg]
 have h3:(0:Rat)<2^a:=Rat.zpow_pos (by decide);refine Rat.not_le.1 fun h4=>?_
 have h5:=Rat.mul_le_mul_of_nonneg_right h4 (c:=2^(-a)) (by grind)
 grind
theorem Zg8{x y:Rat}(h0:0<x)(h:x<=y):∀ n:Nat,x^n<=y^n
 | 0=>by rw[Rat.pow_zero,Rat.pow_zero];exact Rat.le_refl
 | n+1=>by
  have ih:=Zg8 h0 h n;rw[Rat.pow_succ,Rat.pow_succ];have h1:=Rat.mul_le_mul_of_nonneg_right ih (c:=x) (by grind);have h2:=Rat.mul_le_mul_of_nonneg_left h (c:=y^n) (Rat.le_of_lt (Rat.pow_pos (by grind)));exact Rat.le_trans h1 h2
theorem Ze4{x y:Rat}(h0:0<x)(h:x<=y):y⁻¹<=x⁻¹:=by
 have hy:0<y:=by grind
 have h1:=Rat.inv_pos.2 h0;have h2:=Rat.inv_pos.2 hy;have e1:=Rat.mul_inv_cancel x (by grind);have e2:=Rat.mul_inv_cancel y (by grind);have h3:=Rat.mul_le_mul_of_nonneg_right h (c:=x⁻¹ * y⁻¹) (Rat.le_of_lt (Rat.mul_pos h1 h2));have e3:x*(x⁻¹ * y⁻¹)=y⁻¹:=by rw[<- Rat.mul_assoc,e1,Rat.one_mul]
 have e4:y*(x⁻¹ * y⁻¹)=x⁻¹:=by rw[Rat.mul_comm x⁻¹,<- Rat.mul_assoc,e2,Rat.one_mul]
 rw[e3,e4] at h3;exact h3
theorem Zcl{x y:Rat}(h0:0<x)(h:x<=y){j:Int}(hj:j<=0):y^j<=x^j:=by
 obtain⟨n,hn⟩:=Int.eq_ofNat_of_zero_le (a := -j) (by omega);have e:j = -(n:Int):=by omega
 rw[e,Rat.zpow_neg,Rat.zpow_neg,Rat.zpow_natCast,Rat.zpow_natCast];exact Ze4 (Rat.pow_pos h0) (Zg8 h0 h n)
structure Btw (v:Rat) (a b:Int):Prop where
 pos:0<v
 lo:2^a<=v
 hi:v<=2^b
theorem Btw.inv{v:Rat}{a b:Int}(h:Btw v a b):Btw v⁻¹ (-b) (-a):=by
 refine⟨Rat.inv_pos.2 h.pos,?_,?_⟩
 ·rw[Rat.zpow_neg];exact Ze4 h.pos h.hi
 ·rw[Rat.zpow_neg];exact Ze4 (Rat.zpow_pos (by decide)) h.lo
theorem Btw.zpow_neg{v:Rat}{a b:Int}(h:Btw v a b){j:Int}(hj:j<=0):Btw (v^j) (j*b) (j*a):=by
 refine⟨Rat.zpow_pos h.pos,?_,?_⟩
 ·rw[Int.mul_comm,<- Zlr Zlz];exact Zcl h.pos h.hi hj
 ·rw[Int.mul_comm,<- Zlr Zlz];exact Zcl (Rat.zpow_pos (by decide)) h.lo hj
theorem Btw.mul{v u:Rat}{a b c d:Int}(h:Btw v a b)(k:Btw u c d):Btw (v*u) (a+c) (b+d):=by
 refine⟨Rat.mul_pos h.pos k.pos,?_,?_⟩
 ·rw[Rat.zpow_add Zlz];have h1:=Rat.mul_le_mul_of_nonneg_right h.lo (c:=2^c) (Rat.le_of_lt (Rat.zpow_pos (by decide)));have h2:=Rat.mul_le_mul_of_nonneg_left k.lo (c:=v) (Rat.le_of_lt h.pos);exact Rat.le_trans h1 h2
 ·rw[Rat.zpow_add Zlz];have h1:=Rat.mul_le_mul_of_nonneg_right h.hi (c:=u) (Rat.le_of_lt k.pos);have h2:=Rat.mul_le_mul_of_nonneg_left k.hi (c:=2^b) (Rat.le_of_lt (Rat.zpow_pos (by decide)));exact Rat.le_trans h1 h2
theorem Btw.lt{v:Rat}{a b:Int}(h:Btw v a b)(hb:b<0):v<1:=by
 have:=Zgs hb
 have:=h.hi
 grind
def eLo (f:Int->Nat) (l:List (Int×Int)):Int:=(l.map fun x=>if x.2<0 then x.2*(hiL f x.1:Int) else x.2*(f x.1:Int)).sum
def eHi (f:Int->Nat) (l:List (Int×Int)):Int:=(l.map fun x=>if x.2<0 then x.2*(f x.1:Int) else x.2*(hiL f x.1:Int)).sum
theorem Ziw(k:Int)(a b:Nat):(if k<0 then k*(b:Int) else k*(a:Int))=((k.toNat*a:Nat):Int)-(((-k).toNat*b:Nat):Int):=by
 by_cases h:k<0
 ·rw[if_pos h,show k.toNat=0 by omega];have e:((-k).toNat:Int) = -k:=Int.toNat_of_nonneg (by omega);rw[Int.natCast_mul,Int.natCast_mul,e]
  grind
 ·rw[if_neg h,show (-k).toNat=0 by omega];have e:(k.toNat:Int)=k:=Int.toNat_of_nonneg (by omega);rw[Int.natCast_mul,Int.natCast_mul,e]
  grind
theorem eLo_eq(f:Int->Nat):∀ l:List (Int×Int),eLo f l=(loS f l:Int)-(hiS f (negT l):Int)
 | []=>rfl
 | x::l=>by
  have ih:=eLo_eq f l;unfold eLo at ih ⊢;have e:negT (x::l)=(x.1,-x.2)::negT l:=rfl;rw[List.map_cons,List.sum_cons,ih,e,loS,hiS,Ziw]
  dsimp only
  omega
theorem eHi_eq(f:Int->Nat):∀ l:List (Int×Int),eHi f l=(hiS f l:Int)-(loS f (negT l):Int)
 | []=>rfl
 | x::l=>by
  have ih:=eHi_eq f l;unfold eHi at ih ⊢;have e:negT (x::l)=(x.1,-x.2)::negT l:=rfl;rw[List.map_cons,List.sum_cons,ih,e,hiS,loS,Ziw]
  dsimp only
  omega
end Go.Proofs.YtbielfplgbammaaGreatDoor.LN

namespace Go.Proofs.YtbielfplgbammaaGreatDoor
open Go.RowKit Go.Shelf
attribute [local go_sem] Oper.semAt_some
def lf (n:Nat):Int->Nat:=fun p=>lgN p n
structure Ztz (B:Nat) (n:Int) (slo shi:ByteArray) (W:World):Prop where
 c3:W.cell? ⟨B+1,0,none⟩=some (.int .i64 n)
 c4:W.cell? ⟨B+1+1,0,none⟩=some (.string slo)
 c5:W.cell? ⟨B+1+1+1,0,none⟩=some (.string shi)
 f4:W.frozen? ⟨B+1+1,0,none⟩=false
 f5:W.frozen? ⟨B+1+1+1,0,none⟩=false
 sz:B+4<W.heap.size
theorem Ztz.below{B:Nat}{n:Int}{slo shi:ByteArray}{W W':World}(h:Ztz B n slo shi W)(hb:Bw_ W W'):Ztz B n slo shi W' :=
 ⟨(hb.cell (block_lt_of_cell h.c3)).trans h.c3,(hb.cell (block_lt_of_cell h.c4)).trans h.c4,(hb.cell (block_lt_of_cell h.c5)).trans h.c5,
  (hb.frozen (block_lt_of_cell h.c4)).trans h.f4,(hb.frozen (block_lt_of_cell h.c5)).trans h.f5,Nat.lt_of_lt_of_le h.sz hb.size⟩
theorem Ztz.kept{B:Nat}{n:Int}{slo shi:ByteArray}{W W':World}{row:Option Nat}(h:Ztz B n slo shi W)(hg:W.grownBy W' row)(hr:∀ r,row=some r->∃ o:Obj,W.heap[r]?=some o/\o.isCells=false):Ztz B n slo shi W' :=
 ⟨cell_kept h.c3 hg hr,cell_kept h.c4 hg hr,cell_kept h.c5 hg hr,(frozen_kept h.c4 hg hr).trans h.f4,(frozen_kept h.c5 hg hr).trans h.f5,Nat.lt_of_lt_of_le h.sz hg.size⟩
theorem Ztz.stored{B:Nat}{n:Int}{slo shi:ByteArray}{W:World}(h:Ztz B n slo shi W)(s t:ByteArray):
  Ztz B n s t ((W.setCell ⟨B+1+1,0,none⟩ (.string s)).setCell ⟨B+1+1+1,0,none⟩ (.string t)):=by
 refine⟨?_,?_,?_,?_,?_,?_⟩
 ·rw[World.cell?_setCell_other _ _ _ _ (by simp),World.cell?_setCell_other _ _ _ _ (by simp)];exact h.c3
 ·rw[World.cell?_setCell_other _ _ _ _ (by simp),World.cell?_setCell_same _ _ _ h.c4]
 ·rw[World.cell?_setCell_same _ _ _ (by rw[World.cell?_setCell_other _ _ _ _ (by simp)];exact h.c5)]
 ·rw[World.frozen?_setCell,World.frozen?_setCell];exact h.f4
 ·rw[World.frozen?_setCell,World.frozen?_setCell];exact h.f5
 ·rw[World.size_setCell,World.size_setCell];exact h.sz
def PrT (tl:List (Int×Int)):Prop:=∀ x∈tl,∃ q:Nat,x.1=q/\(q=2\/q∈Zbv)
theorem Qgk{n:Nat}{p:Int}(hp:∃ q:Nat,p=q/\(q=2\/q∈Zbv))(hn:n<=1056):lf n p<2^(n+3)/\LN.hiL (lf n) p<2^(n+3):=by
 obtain⟨q,rfl,hq⟩:=hp;have h:=Zv5 hq hn;have e:2^(n+3)=8*2^n:=by rw[Nat.pow_add,Nat.mul_comm]
 have h1:=Nat.two_pow_pos n;have h2:lf n q<7*2^n:=h;refine⟨by omega,?_⟩;unfold LN.hiL;split<;>omega
theorem Ztz.cast{B:Nat}{n:Int}{s s' t t':ByteArray}{W:World}(h:Ztz B n s t W)(e1:s'=s)(e2:t'=t):Ztz B n s' t' W:=by subst e1;subst e2;exact h
end Go.Proofs.YtbielfplgbammaaGreatDoor

namespace Go.Proofs.YtbielfplgbammaaGreatDoor.LN
end Go.Proofs.YtbielfplgbammaaGreatDoor.LN

namespace Go.Proofs.YtbielfplgbammaaGreatDoor
open Go.RowKit
structure TrT (tl:List (Int×Int)):Prop where
 p:PrT tl
 nz:∀ x∈tl,x.2≠0
 nd:(tl.map Prod.fst).Nodup
def Dec (tl:List (Int×Int)):Prop:=0<=LN.eLo (lf 1024) tl\/LN.eHi (lf 1024) tl<=0
def Vj:List Int:=[2,3,5,7,11,13]
theorem Qbh{p n L:Nat}(hp:p∈Zbv)(hn:n<=1056)(h:LN.lg p p.log2 n 1120=some L):lgN p n=L:=by
 rw[Zv4] at h;obtain⟨s,hs,e⟩:=Option.map_eq_some_iff.1 h;rw[<- Zk6 hp hn (by decide) hs,e]
theorem Qcy:([3,5,7,11,13]:List Nat).map (fun p=>LN.lg p p.log2 1024 1120)=LN.certL.tail.map fun x=>some x.toNat:=by decide +kernel
theorem Ztn:LN.certL.head?=some (2^1024):=by decide +kernel
theorem Zw9:∀ x∈LN.certL,(0:Int)<=x:=by decide +kernel
theorem Qbj(n:Nat):((lf n 2:Nat):Int)=2^n:=by
 show ((lgN 2 n:Nat):Int)=_
 rw[Zcx,Int.natCast_pow];rfl
theorem Zjf{a k m:Nat}(ha:a<=100)(h:7+k<=m):a*2^k<=2^m:=by
 have:a*2^k<=2^7*2^k:=Nat.mul_le_mul_right _ (by omega)
 rw[<- Nat.pow_add] at this;exact Nat.le_trans this (Nat.pow_le_pow_right (by decide) h)
theorem Zgf:Vj.map (fun p=>((lf 1024 p:Nat):Int))=LN.certL:=by
 have h:=Qcy;have h0:=Ztn;have hp:=Zw9;obtain⟨c0,c1,c2,c3,c4,c5,e⟩:∃ c0 c1 c2 c3 c4 c5,LN.certL=[c0,c1,c2,c3,c4,c5]:=⟨_,_,_,_,_,_,rfl⟩;rw[e] at h h0 hp ⊢;have gS:∀ (p:Nat) (c:Int),p∈Zbv->0<=c->LN.lg p p.log2 1024 1120=some c.toNat->((lf 1024 (p:Int):Nat):Int)=c:=fun p c hp h0 h=>by
  have:=Qbh hp (by decide) h
  show ((lgN p 1024:Nat):Int)=c
  rw[this];omega
 simp only[List.map_cons,List.map_nil,List.tail_cons,List.cons.injEq,and_true] at h;obtain⟨h1,h2,h3,h4,h5⟩:=h;simp only[List.head?_cons,Option.some.injEq] at h0;have p1:=hp c1 (by simp);have p2:=hp c2 (by simp);have p3:=hp c3 (by simp);have p4:=hp c4 (by simp);have p5:=hp c5 (by simp);have k1:=gS 3 c1 (by decide) p1 h1;have k2:=gS 5 c2 (by decide) p2 h2;have k3:=gS 7 c3 (by decide) p3 h3;have k4:=gS 11 c4 (by decide) p4 h4;have k5:=gS 13 c5 (by decide) p5 h5;have k0:((lf 1024 2:Nat):Int)=c0:=by
  rw[h0];exact Qbj 1024
 show [((lf 1024 2:Nat):Int),((lf 1024 3:Nat):Int),((lf 1024 5:Nat):Int),((lf 1024 7:Nat):Int),((lf 1024 11:Nat):Int),((lf 1024 13:Nat):Int)]=_
 rw[k0];rw[show ((lf 1024 3:Nat):Int)=c1 from k1,show ((lf 1024 5:Nat):Int)=c2 from k2,show ((lf 1024 7:Nat):Int)=c3 from k3,show ((lf 1024 11:Nat):Int)=c4 from k4,show ((lf 1024 13:Nat):Int)=c5 from k5]
def Kb:Nat:=2^100
theorem Zpe{tl:List (Int×Int)}(h1:∀ x∈tl,x.1∈Vj)(h0:∀ x∈tl,x.2≠0)(hd:(tl.map Prod.fst).Nodup)(hk:∀ x∈tl,x.2.natAbs<=Kb)(hl:tl.length<=100)(gj:tl≠[]):Dec tl:=by
 have hc:=LN.cert_ok;rw[<- Zgf] at hc;have hS:=@Zjf tl.length 100 503 hl (by decide);have:=LN.ends_decide hc (by decide) tl hS gj (fun x hx=>⟨h1 x hx,h0 x hx,hk x hx⟩) hd
 unfold Dec;rw[LN.eLo_eq,LN.eHi_eq];omega
def Zia:List Int:=[2,3,5,7,11,13,17,19,23,29,31,37,41,43,47,53,59,61,67,71,73,79,83,89,97]
structure Qbv (ps:List Int) (l:List Rat):Prop where
 pr:∀ p∈ps,p∈Zia
 nd:ps.Nodup
 kb:∀ x∈tlQ ps l,x.2.natAbs<=Kb
 dc:ps.length<=100->tlQ ps l≠[]->Dec (tlQ ps l)
theorem Zbu(D:Nat):∀ (ps:List Int) (l:List Rat),((Qo D ps l).map Prod.fst).Sublist ps
 | [],_=>by simp[Qo]
 | _::_,[]=>by simp[Qo]
 | p::ps,q::l=>by
  have ih:=Zbu D ps l;unfold Qo at ih ⊢;rw[List.zip_cons_cons,List.filterMap_cons]
  by_cases h:q.num=0
  ·simp only[h,if_true];exact ih.cons _
  ·simp only[h,if_false];exact ih.cons_cons _
theorem Zp3{ps:List Int}{l:List Rat}{x:Int×Int}(h:x∈tlQ ps l):x.2≠0:=by
 obtain⟨_,q,hq,hn,he⟩:=Zac h;rw[he];refine Int.mul_ne_zero hn ?_;have h1:=LN.tden_dvd hq;have h2:=LN.tden_pos' l;have h3:0<Ql l/q.den:=Nat.div_pos (Nat.le_of_dvd h2 h1) q.den_pos;omega
theorem Zrp:Zia=2::Zbv.map (fun p=>((p:Nat):Int)):=by decide +kernel
theorem Zfh{p:Int}(h:p∈Zia):∃ q:Nat,p=q/\(q=2\/q∈Zbv):=by
 rw[Zrp] at h;rcases List.mem_cons.1 h with rfl|h
 ·exact⟨2,rfl,.inl rfl⟩
 ·obtain⟨q,hq,rfl⟩:=List.mem_map.1 h;exact⟨q,rfl,.inr hq⟩
theorem Zax{p:Int}(h:p∈Vj):p∈Zia:=by
 have:∀ p∈Vj,p∈Zia:=by decide
 exact this p h
theorem Zp2{ps:List Int}{l:List Rat}(h1:∀ p∈ps,p∈Zia)(h2:ps.Nodup):TrT (tlQ ps l) :=
 ⟨fun _ hx=>Zfh (h1 _ (Zac hx).1),fun _ hx=>Zp3 hx,(Zbu _ ps l).nodup h2⟩
theorem Qbv.lt{ps:List Int}{l:List Rat}(h:Qbv ps l):∀ x∈tlQ ps l,x.2.natAbs<2^101:=fun x hx=>Nat.lt_of_le_of_lt (h.kb x hx) (by decide)
theorem Qbv.dec{ps:List Int}{l:List Rat}(h:Qbv ps l)(hn:ps.length<=100)(gj:tlQ ps l≠[]):Dec (tlQ ps l):=h.dc hn gj
theorem Ziv{ps:List Int}{l:List Rat}(hn:ps.length<=100):(tlQ ps l).length<=100 :=
 Nat.le_trans (by have:=(Zbu (Ql l) ps l).length_le;rw[List.length_map] at this;exact this) hn
theorem Qbv.small{ps:List Int}{l:List Rat}(h1:∀ p∈ps,p∈Vj)(h2:ps.Nodup)(hk:∀ x∈tlQ ps l,x.2.natAbs<=Kb):Qbv ps l :=
 ⟨fun p hp=>Zax (h1 p hp),h2,hk,fun hn gj=>Zpe (fun _ hx=>h1 _ (Zac hx).1) (Zp2 (fun p hp=>Zax (h1 p hp)) h2).nz (Zp2 (fun p hp=>Zax (h1 p hp)) h2).nd hk (Ziv hn) gj⟩
theorem Zao:∀ k,k<10->(∀ p∈Ko k,p∈Vj)/\(Ko k).Nodup:=by decide +kernel
theorem Zr4{ps:List Int}(h:∀ p∈ps,p∈Vj):∀ p∈ps,0<p:=fun p hp=>by
 have gS:∀ q∈Vj,0<q:=by decide
 exact gS p (h p hp)
def Sml (N M:Nat) (l:List Rat):Prop:=∀ q∈l,q.den ∣ M/\(LN.ex M q).natAbs<=N
theorem Sml.le{N K M:Nat}{l:List Rat}(h:Sml N M l)(hK:N<=K):Sml K M l:=fun q hq=>⟨(h q hq).1,Nat.le_trans (h q hq).2 hK⟩
theorem Zwo{M:Nat}{q:Rat}(z:Int)(hM:0<M)(h:q*(M:Rat)=(z:Rat)):q.den ∣ M/\LN.ex M q=z:=by
 have oW:(M:Rat)≠0:=by have:=Rat.natCast_pos.2 hM;grind
 have e:q=mkRat z M:=by
  rw[Rat.mkRat_eq_div];have:=Rat.mul_div_cancel (a:=q) oW
  rw[<- h];exact this.symm
 have hd:q.den ∣ M:=by
  rw[e,LN.mkRat_den' _ _ (by omega)];exact Nat.div_dvd_of_dvd (Nat.gcd_dvd_right _ _)
 refine⟨hd,?_⟩;rw[<- Rat.intCast_inj,LN.ex_eq hd,h]
theorem Sml.comb{N K M:Nat}{la lb:List Rat}(hM:0<M)(ha:Sml N M la)(hb:Sml K M lb)(f g:Int):Sml (N*f.natAbs+K*g.natAbs) M (Vl la lb (f:Rat) (g:Rat)):=by
 intro q hq;obtain⟨i,hi,rfl⟩:=List.mem_iff_getElem.1 hq;have EW:i<la.length/\i<lb.length:=by simp[Vl] at hi;omega
 simp only[Vl,List.getElem_zipWith];obtain⟨d1,n1⟩:=ha _ (List.getElem_mem EW.1);obtain⟨d2,n2⟩:=hb _ (List.getElem_mem EW.2);have h:(la[i]'EW.1*(f:Rat)+lb[i]'EW.2*(g:Rat))*(M:Rat)=((LN.ex M (la[i]'EW.1)*f+LN.ex M (lb[i]'EW.2)*g:Int):Rat):=by
  rw[Rat.intCast_add,Rat.intCast_mul,Rat.intCast_mul,LN.ex_eq d1,LN.ex_eq d2]
  grind
 obtain⟨r1,r2⟩:=Zwo _ hM h;refine⟨r1,?_⟩;rw[r2];refine Nat.le_trans (Int.natAbs_add_le _ _) ?_;rw[Int.natAbs_mul,Int.natAbs_mul];exact Nat.add_le_add (Nat.mul_le_mul_right _ n1) (Nat.mul_le_mul_right _ n2)
def Ze9 (la lb:List Rat):List Rat:=Vl la lb ((1:Int):Rat) ((-1:Int):Rat)
theorem Zk7(la lb:List Rat)(i:Nat)(h1:i<la.length)(h2:i<lb.length)(h:i<(Ze9 la lb).length):(Ze9 la lb)[i]=la[i]-lb[i]:=by
 simp only[Ze9,Vl,List.getElem_zipWith]
 grind
theorem Zcg(la lb:List Rat)(h:la.length=lb.length):(Ze9 la lb).length=la.length:=Za7 _ _ _ _ h
theorem Zb9(z:Int)(d:Nat)(hd:0<d):mkRat z d*(d:Rat)=(z:Rat):=by
 rw[Rat.mkRat_eq_div];exact Rat.div_mul_cancel (by have:=Rat.natCast_pos.2 hd;grind)
structure Qaw (w:World) (s t s' t':ByteArray) (W0:World):Prop where
 fa:W0.heap[w.heap.size]?=some (.cells #[.string s,.string t] 101 (0,0))
 fb:W0.heap[w.heap.size+1]?=some (.cells #[.string s',.string t'] 101 (0,0))
 bel:Bw_ w W0
theorem Qaw.mk'(w:World)(s t s' t':ByteArray):Qaw w s t s' t' ((w.alloc (.cells #[.string s,.string t] 101)).alloc (.cells #[.string s',.string t'] 101)):=by
 have hA:=heap_alloc_new w (.cells #[.string s,.string t] 101);have hB:=heap_alloc_new (w.alloc (.cells #[.string s,.string t] 101)) (.cells #[.string s',.string t'] 101);have e1:(w.alloc (.cells #[.string s,.string t] 101)).heap.size=w.heap.size+1:=by simp
 refine⟨?_,?_,?_⟩
 ·exact Kg hA ((Below.refl _ _).alloc nr_ _)
 ·rw[e1] at hB;exact hB
 ·exact((Below.refl _ _).alloc nr_ _).alloc (by simp) _
theorem Qaw.next{w W0 W:World}{s t s' t':ByteArray}(h:Qaw w s t s' t' W0)(hb:Bw_ W0 W):Qaw w s t s' t' W :=
 ⟨Kg h.fa hb,Kg h.fb hb,h.bel.trans (hb.mono h.bel.size)⟩
theorem Qak{n m:Int}{d:Nat}(h:0<d):Zfd (n*d) (m*d)=Zfd n m:=by
 have h':(0:Int)<d:=by omega
 unfold Zfd;have e1:n*(d:Int)<m*d↔n<m:=Int.mul_lt_mul_right h';have e2:n*(d:Int)=m*d↔n=m:=⟨fun h1=>Int.eq_of_mul_eq_mul_right (by omega) h1,fun h1=>by rw[h1]⟩
 by_cases h1:n<m
 ·rw[if_pos h1,if_pos (e1.2 h1)]
 ·rw[if_neg h1,if_neg (fun h=>h1 (e1.1 h))]
  by_cases h2:n=m
  ·rw[if_pos h2,if_pos (e2.2 h2)]
  ·rw[if_neg h2,if_neg (fun h=>h2 (e2.1 h))]
theorem Qbr{d e:Nat}(h:d≠e):((dec d).toList==(dec e).toList)=false:=by
 rw[beq_eq_false_iff_ne];intro h1;refine h (Zpf ?_);rw[<- Yg,<- Yg];rw[<- Vq,<- Vq];exact h1
theorem Znd(w:World)(n m:Int)(d e:Nat)(hn:Zbj n)(hm:Zbj m)(hd:Num d)(he:Num e)(GS:0<d)
  (gj:Num (n*e).natAbs) (Cx:Num (m*d).natAbs) (L:Qe w) :
  Kc Tryz.prog 261 #[fv n d,fv m e] w (.int .i64 (Zfd (n*e) (m*d))):=by
 have H3:=hd_ (Qaw.mk' w (itx n) (dec d) (itx m) (dec e));have HL:=hd_ (L.below H3.o.bel);clear L;obtain⟨v,hv⟩:∃ v,Zfd (n*e) (m*d)=v:=⟨_,rfl⟩;have Hv:=hd_ hv;rw[hv];unfold Kc;have fN:Hid (∀ W,Below ((w.alloc (.cells #[.string (itx n),.string (dec d)] 101)).alloc (.cells #[.string (itx m),.string (dec e)] 101)).heap.size ((w.alloc (.cells #[.string (itx n),.string (dec d)] 101)).alloc (.cells #[.string (itx m),.string (dec e)] 101)) W->∀ d' os,Calls Tryz.prog 14 #[.string (itx n),.string (dec e)] (Go.Sort.grow (redrawn W d') os) fun e' w'=>e' = .returned (.string (itx (n*e)))/\∃ p:Regrown,w'=Go.Sort.grow (redrawn W p.d) p.os):=fun W hW d' os=>by
  have:=Zf (Go.Sort.grow (redrawn W d') os) n (e:Int) hn (show Num _ from he) gj ((HL.o.below hW).below (below_regrown W d' os))
  rw[Kh] at this;exact Calls.regrown_of this
 have fM:Hid (∀ W,Below ((w.alloc (.cells #[.string (itx n),.string (dec d)] 101)).alloc (.cells #[.string (itx m),.string (dec e)] 101)).heap.size ((w.alloc (.cells #[.string (itx n),.string (dec d)] 101)).alloc (.cells #[.string (itx m),.string (dec e)] 101)) W->∀ d' os,Calls Tryz.prog 14 #[.string (itx m),.string (dec d)] (Go.Sort.grow (redrawn W d') os) fun e' w'=>e' = .returned (.string (itx (m*d)))/\∃ p:Regrown,w'=Go.Sort.grow (redrawn W p.d) p.os):=fun W hW d' os=>by
  have:=Zf (Go.Sort.grow (redrawn W d') os) m (d:Int) hm (show Num _ from hd) Cx ((HL.o.below hW).below (below_regrown W d' os))
  rw[Kh] at this;exact Calls.regrown_of this
 have fL:Hid (∀ W d' os,Calls Tryz.prog 17 #[.string (itx (n*e)),.string (itx (m*d))] (Go.Sort.grow (redrawn W d') os) fun e' w'=>e' = .returned (.int .i64 v)/\∃ p:Regrown,w'=Go.Sort.grow (redrawn W p.d) p.os):=fun W d' os=>by
  have:=Zc1 (Go.Sort.grow (redrawn W d') os) (n*e) (m*d) gj Cx
  rw[hv] at this;exact Calls.regrown_of this
 have eh:Hid (d=e->∀ W,Kc Tryz.prog 17 #[.string (itx n),.string (itx m)] W (.int .i64 v)):=fun h W=>by
  have:=Zc1 W n m hn hm
  rw[<- Qak GS,show ((d:Nat):Int)=d from rfl] at this;subst h;rw[hv] at this;exact this
 clear hv
 by_cases h1:(itx n).size<=9/\(dec d).size<=9
 ·have gF:=hd_ (Yx n d hn hd h1)
  by_cases h2:(itx m).size<=9/\(dec e).size<=9
  ·have gP:=hd_ (Yx m e hm he h2);have q1:=Yq n 9 (by decide) h1.1;have q2:=Yq m 9 (by decide) h2.1;have q3:=(Ku d 9 (by decide)).1 (by rw[<- Kt];exact h1.2);have q4:=(Ku e 9 (by decide)).1 (by rw[<- Kt];exact h2.2);have q5:(n*e).natAbs<=1000000000*1000000000:=by rw[Int.natAbs_mul];exact Nat.mul_le_mul (by omega) (by omega)
   have q7:(m*d).natAbs<=1000000000*1000000000:=by rw[Int.natAbs_mul];exact Nat.mul_le_mul (by omega) (by omega)
   have fh:IntKind.i64.wrap (n*e)=n*e:=iw_ _ (by omega);have Dc:IntKind.i64.wrap (m*d)=m*d:=iw_ _ (by omega);have Gt:n*e<m*d->v = -1:=fun h=>by rw[<- Hv.o];unfold Zfd;rw[if_pos h]
   have FL:m*d<n*e->v=1:=fun h=>by rw[<- Hv.o];unfold Zfd;rw[if_neg (by omega),if_neg (by omega)]
   have es:n*e=m*d->v=0:=fun h=>by rw[<- Hv.o];unfold Zfd;rw[if_neg (by omega),if_pos h]
   unfold fv at gF gP ⊢;have BZ:=hd_ Gt;have Ij:=hd_ FL;have iS:=hd_ es;clear fN fM fL eh q1 q2 q3 q4 q5 q7 h1 h2 gj Cx Gt FL es Hv;go_enter Tryz.func261,Tryz.ntmps261;obtain⟨k0,k1,-,-⟩:=Ka H3.o.fa;obtain⟨k2,k3,-,-⟩:=Ka H3.o.fb;go_wp2_with fail;generalize (w.alloc (.cells #[.string (itx n),.string (dec d)] 101)).alloc (.cells #[.string (itx m),.string (dec e)] 101)=W0 at *;clear k0 k1 k2 k3;refine cm_ (gF.o _) ?_;rintro e_ w1 ⟨rfl,hZ⟩;have H6:=hd_ hZ;clear hZ gF;obtain⟨k0,k1,-,-⟩:=Ka (H3.o.next H6.o).fa;obtain⟨k2,k3,-,-⟩:=Ka (H3.o.next H6.o).fb;go_wp2_with fail;clear k0 k1 k2 k3;refine cm_ (gP.o _) ?_;rintro e_ w2 ⟨rfl,HU⟩;have H9:=bt_ H6 HU;clear HU H6 gP;have B5:=hd_ (H3.o.bel.trans (H9.o.mono H3.o.bel.size))
   by_cases c1:n*(e:Int)<m*(d:Int)
   ·go_wp2_with fail;go_ret;exact⟨by rw[BZ.o c1];rfl,B5.o⟩
   ·by_cases c2:m*(d:Int)<n*(e:Int)
    ·go_wp2_with fail;go_ret;exact⟨by rw[Ij.o c2];rfl,B5.o⟩
    ·go_wp2_with fail;go_ret;exact⟨by rw[iS.o (by omega)];rfl,B5.o⟩
  ·obtain⟨x,y,gR⟩:=Yy m e hm he h2;have gP:=hd_ gR;unfold fv at gF gP ⊢;clear h1 h2 gR gj Cx;go_enter Tryz.func261,Tryz.ntmps261;obtain⟨k0,k1,-,-⟩:=Ka H3.o.fa;obtain⟨k2,k3,-,-⟩:=Ka H3.o.fb;go_wp2_with fail;generalize (w.alloc (.cells #[.string (itx n),.string (dec d)] 101)).alloc (.cells #[.string (itx m),.string (dec e)] 101)=W0 at *;clear k0 k1 k2 k3;refine cm_ (gF.o _) ?_;rintro e_ w1 ⟨rfl,hZ⟩;have H6:=hd_ hZ;clear hZ gF;obtain⟨k0,k1,-,-⟩:=Ka (H3.o.next H6.o).fa;obtain⟨k2,k3,-,-⟩:=Ka (H3.o.next H6.o).fb;go_wp2_with fail;clear k0 k1 k2 k3;refine cm_ (gP.o _) ?_;rintro e_ w2 ⟨rfl,HU⟩;have H9:=bt_ H6 HU;clear HU H6 gP
   by_cases fY:d=e
   ·have Hq:=hd_ (eh.o fY);obtain⟨k0,k1,-,-⟩:=Ka (H3.o.next H9.o).fa;obtain⟨k2,k3,-,-⟩:=Ka (H3.o.next H9.o).fb;subst fY;clear fN fM fL eh;go_wp2_with fail;clear k0 k1 k2 k3;refine cm_ (Hq.o _) ?_;rintro e_ w5 ⟨rfl,hb_⟩;have B5:=hd_ (H3.o.bel.trans ((bu_ H9 hb_).mono H3.o.bel.size));clear hb_ Hq;go_wp2_with fail;go_ret;exact⟨rfl,B5.o⟩
   ·have hq:=Qbr fY;obtain⟨k0,k1,-,-⟩:=Ka (H3.o.next H9.o).fa;obtain⟨k2,k3,-,-⟩:=Ka (H3.o.next H9.o).fb;have q0:=cell_regrown k0;have q1:=cell_regrown k1;have q2:=cell_regrown k2;have q3:=cell_regrown k3;have gO:=fN.o w2 H9.o;have gQ:=fM.o w2 H9.o;have Gl:=fL.o w2;clear fN fM fL eh fY;go_wp2_with fail;clear k0 k1 k2 k3;refine wp_region_quiet_below (by kernel_rfl) (by kernel_rfl) ?_
    repeat (first | go_big_quiet_step (first | with_reducible exact gO _ _ | with_reducible exact gQ _ _ | with_reducible exact Gl _ _) | quiet_step (first | with_reducible exact gO _ _ | with_reducible exact gQ _ _ | with_reducible exact Gl _ _))
    refine wq_ ?_;intro w8 Fm;obtain⟨⟨dq,osq⟩,rfl⟩:=Fm;have B5:=hd_ (H3.o.bel.trans ((H9.o.trans ((below_regrown w2 dq osq).mono H9.o.size)).mono H3.o.bel.size));generalize Go.Sort.grow (redrawn w2 dq) osq=w8 at *;clear gO gQ Gl q0 q1 q2 q3;go_wp2;go_ret;exact⟨rfl,B5.o⟩
 ·obtain⟨x,y,gC⟩:=Yy n d hn hd h1;have gF:=hd_ gC;unfold fv at gF ⊢;clear h1 gC gj Cx;go_enter Tryz.func261,Tryz.ntmps261;obtain⟨k0,k1,-,-⟩:=Ka H3.o.fa;obtain⟨k2,k3,-,-⟩:=Ka H3.o.fb;go_wp2_with fail;generalize (w.alloc (.cells #[.string (itx n),.string (dec d)] 101)).alloc (.cells #[.string (itx m),.string (dec e)] 101)=W0 at *;clear k0 k1 k2 k3;refine cm_ (gF.o _) ?_;rintro e_ w1 ⟨rfl,hZ⟩;have H6:=hd_ hZ;clear hZ gF
  by_cases fY:d=e
  ·have Hq:=hd_ (eh.o fY);obtain⟨k0,k1,-,-⟩:=Ka (H3.o.next H6.o).fa;obtain⟨k2,k3,-,-⟩:=Ka (H3.o.next H6.o).fb;subst fY;clear fN fM fL eh;go_wp2_with fail;clear k0 k1 k2 k3;refine cm_ (Hq.o _) ?_;rintro e_ w5 ⟨rfl,hb_⟩;have B5:=hd_ (H3.o.bel.trans ((bu_ H6 hb_).mono H3.o.bel.size));clear hb_ Hq;go_wp2_with fail;go_ret;exact⟨rfl,B5.o⟩
  ·have hq:=Qbr fY;obtain⟨k0,k1,-,-⟩:=Ka (H3.o.next H6.o).fa;obtain⟨k2,k3,-,-⟩:=Ka (H3.o.next H6.o).fb;have q0:=cell_regrown k0;have q1:=cell_regrown k1;have q2:=cell_regrown k2;have q3:=cell_regrown k3;have gO:=fN.o w1 H6.o;have gQ:=fM.o w1 H6.o;have Gl:=fL.o w1;clear fN fM fL eh fY;go_wp2_with fail;clear k0 k1 k2 k3;refine wp_region_quiet_below (by kernel_rfl) (by kernel_rfl) ?_
   repeat (first | go_big_quiet_step (first | with_reducible exact gO _ _ | with_reducible exact gQ _ _ | with_reducible exact Gl _ _) | quiet_step (first | with_reducible exact gO _ _ | with_reducible exact gQ _ _ | with_reducible exact Gl _ _))
   refine wq_ ?_;intro w8 Fm;obtain⟨⟨dq,osq⟩,rfl⟩:=Fm;have B5:=hd_ (H3.o.bel.trans ((H6.o.trans ((below_regrown w1 dq osq).mono H6.o.size)).mono H3.o.bel.size));generalize Go.Sort.grow (redrawn w1 dq) osq=w8 at *;clear gO gQ Gl q0 q1 q2 q3;go_wp2;go_ret;exact⟨rfl,B5.o⟩
def Zii (a b:Rat):Rat:=if b<a then b else a
def Zij (a b:Rat):Rat:=if a<b then b else a
theorem Zrg(w:World)(a b:Rat)(D E:Nat)(ha:Sm D a)(hb:Sm E b)(h6:D+E+2<=1000000)(L:Qe w):
  Kc Tryz.prog 261 #[fr a,fr b] w (.int .i64 (Zfd (a.num*b.den) (b.num*a.den))):=by
 have p1:=ha.pos;have p2:=hb.pos;have h1:(a.num*(b.den:Int)).natAbs<10^(D+E):=by rw[Int.natAbs_mul,Int.natAbs_natCast];exact Qd ha.1 hb.2
 have h2:(b.num*(a.den:Int)).natAbs<10^(D+E):=by rw[Int.natAbs_mul,Int.natAbs_natCast,Nat.add_comm];exact Qd hb.1 ha.2
 exact Znd w a.num b.num a.den b.den (Kq ha.1 p1 (by omega)) (Kq hb.1 p2 (by omega)) (Kq ha.2 p1 (by omega)) (Kq hb.2 p2 (by omega)) a.den_pos
  (Kq h1 (by omega) (by omega)) (Kq h2 (by omega) (by omega)) L
theorem Qbf(a b:Rat):a<b↔a.num*b.den<b.num*a.den:=Rat.lt_iff a b
theorem Zw5(a b:Rat):(Zfd (a.num*b.den) (b.num*a.den)<0↔a<b)/\(0<Zfd (a.num*b.den) (b.num*a.den)↔b<a):=by
 rw[Qbf,Qbf];unfold Zfd;split
 ·constructor<;>omega
 ·split
  ·constructor<;>omega
  ·constructor<;>omega
theorem Zkp(w:World)(a b:Rat)(D E:Nat)(ha:Sm D a)(hb:Sm E b)(h6:D+E+2<=1000000)(L:Qe w):
  Kc Tryz.prog 208 #[fr a,fr b] w (fr (Zii a b)):=by
 obtain⟨v,hv⟩:∃ v,Zfd (b.num*a.den) (a.num*b.den)=v:=⟨_,rfl⟩;have H3:=hd_ (Zio.mk' w (itx a.num) (dec a.den) (itx b.num) (dec b.den));have HC:=hd_ (fun W hW=>Zrg W b a E D hb ha (by omega) (L.below (H3.o.next (W:=W) hW).bel));rw[hv] at HC;have H7:=(Zw5 b a).1;rw[hv] at H7;have F2:Hid (Zii a b=if v<0 then b else a):=by
  show _=_
  unfold Zii
  by_cases h:v<0
  ·rw[if_pos h,if_pos (H7.1 h)]
  ·rw[if_neg h,if_neg fun hc=>h (H7.2 hc)]
 clear hv H7 L ha hb h6;unfold Kc;unfold fr fv at HC ⊢;go_enter Tryz.func208,Tryz.ntmps208;obtain⟨k0,k1,-,-⟩:=Ka H3.o.fa;obtain⟨k2,k3,-,-⟩:=Ka H3.o.fb;go_wp2_with fail;generalize ((w.alloc (.cells #[.string (itx a.num),.string (dec a.den)] 101)).alloc (.cells #[.string (itx b.num),.string (dec b.den)] 101)).alloc (.cells #[.string ⟨#[]⟩,.string ⟨#[]⟩] 101)=W0 at *;clear k0 k1 k2 k3;refine cm_ (HC.o _ (Below.refl _ _)) ?_;rintro e w1 ⟨rfl,hZ⟩;have H4:=hd_ (H3.o.next hZ);clear hZ HC H3;obtain⟨k0,k1,-,-⟩:=Ka H4.o.fa;obtain⟨k2,k3,-,-⟩:=Ka H4.o.fb;obtain⟨k4,k5,f4,f5⟩:=Ka H4.o.fr;have gK:=hd_ H4.o.bel;clear H4
 by_cases c1:v<0
 ·have hm:Zii a b=b:=by rw[F2.o,if_pos c1]
  have Hm:=hd_ hm;clear hm F2;go_wp2;obtain⟨c0,c1,hb3⟩:=Kl (B:=w.heap.size) (.string (itx b.num)) (.string (dec b.den)) k4 k5 (by omega) gK.o;generalize (w1.setCell ⟨w.heap.size+1+1,0,none⟩ (.string (itx b.num))).setCell ⟨w.heap.size+1+1,1,none⟩ (.string (dec b.den))=w9 at *;exact bodyPost_ret (v := .agg #[.string (itx b.num),.string (dec b.den)]) (by simp[results,Tryz.results208,go_sem,c0,c1]) rfl ⟨by rw[Hm.o],hb3⟩
 ·have hm:Zii a b=a:=by rw[F2.o,if_neg c1]
  have Hm:=hd_ hm;clear hm F2;go_wp2;obtain⟨c0,c1,hb3⟩:=Kl (B:=w.heap.size) (.string (itx a.num)) (.string (dec a.den)) k4 k5 (by omega) gK.o;generalize (w1.setCell ⟨w.heap.size+1+1,0,none⟩ (.string (itx a.num))).setCell ⟨w.heap.size+1+1,1,none⟩ (.string (dec a.den))=w9 at *;exact bodyPost_ret (v := .agg #[.string (itx a.num),.string (dec a.den)]) (by simp[results,Tryz.results208,go_sem,c0,c1]) rfl ⟨by rw[Hm.o],hb3⟩
theorem Zkq(w:World)(a b:Rat)(D E:Nat)(ha:Sm D a)(hb:Sm E b)(h6:D+E+2<=1000000)(L:Qe w):
  Kc Tryz.prog 209 #[fr a,fr b] w (fr (Zij a b)):=by
 obtain⟨v,hv⟩:∃ v,Zfd (b.num*a.den) (a.num*b.den)=v:=⟨_,rfl⟩;have H3:=hd_ (Zio.mk' w (itx a.num) (dec a.den) (itx b.num) (dec b.den));have HC:=hd_ (fun W hW=>Zrg W b a E D hb ha (by omega) (L.below (H3.o.next (W:=W) hW).bel));rw[hv] at HC;have H7:=(Zw5 b a).2;rw[hv] at H7;have F2:Hid (Zij a b=if 0<v then b else a):=by
  show _=_
  unfold Zij
  by_cases h:0<v
  ·rw[if_pos h,if_pos (H7.1 h)]
  ·rw[if_neg h,if_neg fun hc=>h (H7.2 hc)]
 clear hv H7 L ha hb h6;unfold Kc;unfold fr fv at HC ⊢;go_enter Tryz.func209,Tryz.ntmps209;obtain⟨k0,k1,-,-⟩:=Ka H3.o.fa;obtain⟨k2,k3,-,-⟩:=Ka H3.o.fb;go_wp2_with fail;generalize ((w.alloc (.cells #[.string (itx a.num),.string (dec a.den)] 101)).alloc (.cells #[.string (itx b.num),.string (dec b.den)] 101)).alloc (.cells #[.string ⟨#[]⟩,.string ⟨#[]⟩] 101)=W0 at *;clear k0 k1 k2 k3;refine cm_ (HC.o _ (Below.refl _ _)) ?_;rintro e w1 ⟨rfl,hZ⟩;have H4:=hd_ (H3.o.next hZ);clear hZ HC H3;obtain⟨k0,k1,-,-⟩:=Ka H4.o.fa;obtain⟨k2,k3,-,-⟩:=Ka H4.o.fb;obtain⟨k4,k5,f4,f5⟩:=Ka H4.o.fr;have gK:=hd_ H4.o.bel;clear H4
 by_cases c1:0<v
 ·have hm:Zij a b=b:=by rw[F2.o,if_pos c1]
  have Hm:=hd_ hm;clear hm F2;go_wp2;obtain⟨c0,c1,hb3⟩:=Kl (B:=w.heap.size) (.string (itx b.num)) (.string (dec b.den)) k4 k5 (by omega) gK.o;generalize (w1.setCell ⟨w.heap.size+1+1,0,none⟩ (.string (itx b.num))).setCell ⟨w.heap.size+1+1,1,none⟩ (.string (dec b.den))=w9 at *;exact bodyPost_ret (v := .agg #[.string (itx b.num),.string (dec b.den)]) (by simp[results,Tryz.results209,go_sem,c0,c1]) rfl ⟨by rw[Hm.o],hb3⟩
 ·have hm:Zij a b=a:=by rw[F2.o,if_neg c1]
  have Hm:=hd_ hm;clear hm F2;go_wp2;obtain⟨c0,c1,hb3⟩:=Kl (B:=w.heap.size) (.string (itx a.num)) (.string (dec a.den)) k4 k5 (by omega) gK.o;generalize (w1.setCell ⟨w.heap.size+1+1,0,none⟩ (.string (itx a.num))).setCell ⟨w.heap.size+1+1,1,none⟩ (.string (dec a.den))=w9 at *;exact bodyPost_ret (v := .agg #[.string (itx a.num),.string (dec a.den)]) (by simp[results,Tryz.results209,go_sem,c0,c1]) rfl ⟨by rw[Hm.o],hb3⟩
def Zsq (a:Rat):Int:=(a+1/2).floor
theorem Zwh:Sm 1 (1/2:Rat):=⟨by decide +kernel,by decide +kernel⟩
theorem Qdc:fr (1/2:Rat) = .agg #[.string ⟨#[49]⟩,.string ⟨#[50]⟩]:=by
 have h1:(1/2:Rat).num=1:=by decide +kernel
 have h2:(1/2:Rat).den=2:=by decide +kernel
 unfold fr fv;rw[h1,h2,show itx 1=dec 1 from Kh 1,Zt,Zpd]
theorem Zy8(w:World)(a:Rat)(D:Nat)(ha:Sm D a)(h6:D+5<=1000000)(L:Qe w):
  Kc Tryz.prog 249 #[fr a] w (.string (itx (Zsq a))):=by
 have gl:=hd_ ((Below.refl w.heap.size w).alloc nr_ (.cells #[.string (itx a.num),.string (dec a.den)] 101));have ge:Hid ((w.alloc (.cells #[.string (itx a.num),.string (dec a.den)] 101)).heap[w.heap.size]?=some (.cells #[.string (itx a.num),.string (dec a.den)] 101 (0,0))):=heap_alloc_new w _;have HA:=hd_ (Zxx (w.alloc (.cells #[.string (itx a.num),.string (dec a.den)] 101)) a (1/2) D 1 ha Zwh (by omega) (L.below gl.o));rw[Qdc] at HA;have HF:=hd_ (fun W (hW:Bw_ w W)=>Qfu W (a+1/2) (D+1+1) (ha.add Zwh) (by omega) (L.below hW));clear L ha h6;unfold Kc;unfold Zsq;generalize a+1/2=s at *;unfold fr fv at HA HF ⊢;go_enter Tryz.func249,Tryz.ntmps249;obtain⟨k0,k1,-,-⟩:=Ka ge.o;go_wp2_with fail;generalize w.alloc (.cells #[.string (itx a.num),.string (dec a.den)] 101)=W0 at *;clear k0 k1;refine cm_ HA.o ?_;rintro e w1 ⟨rfl,hZ⟩;have B1:=bt_ gl hZ;clear hZ HA;go_wp2_with fail;refine cm_ (HF.o _ B1.o) ?_;rintro e w2 ⟨rfl,HU⟩;have B2:=bt_ B1 HU;clear HU HF;go_wp2_with fail;go_ret;exact⟨rfl,B2.o⟩
theorem Zs3{p N a b:Nat}(h1:Qed p N a)(h2:Qed p (2*N) b):b=2*a\/b=2*a+1:=by
 have hP:p^(2*N)=p^N*p^N:=by rw[Nat.two_mul,Nat.pow_add]
 have e1:2^(2*a)<=p^(2*N):=by
  rw[hP,Nat.two_mul,Nat.pow_add];exact Nat.mul_le_mul h1.1 h1.1
 have e2:p^(2*N)<2^(2*a+2):=by
  rw[hP,show 2*a+2=(a+1)+(a+1) by omega,Nat.pow_add];exact Nat.mul_lt_mul'' h1.2 h1.2
 have f1:=(Nat.pow_lt_pow_iff_right (by decide)).1 (Nat.lt_of_le_of_lt e1 h2.2);have f2:=(Nat.pow_lt_pow_iff_right (by decide)).1 (Nat.lt_of_le_of_lt h2.1 e2);omega
theorem Zku{p n:Nat}(hp:p∈Zbv)(hn:n+1<=1056):lgN p (n+1)=2*lgN p n\/lgN p (n+1)=2*lgN p n+1:=by
 have h2:=Zqz hp hn;rw[Nat.pow_succ,Nat.mul_comm] at h2;exact Zs3 (Zqz hp (by omega)) h2
theorem Zhl{p n:Nat}(hp:p=2\/p∈Zbv):∀ d,n+d<=1056->lgN p (n+d)/2^d=lgN p n
 | 0,_=>by simp
 | d+1,h=>by
  have ih:=Zhl hp d (n:=n) (by omega);rw[<- Nat.add_assoc,Nat.pow_succ,Nat.mul_comm,<- Nat.div_div_eq_div_mul];have e:lgN p (n+d+1)/2=lgN p (n+d):=by
   rcases hp with rfl|hp
   ·rw[show ((2:Nat):Int)=2 from rfl,Zcx,Zcx,Nat.pow_succ];omega
   ·rcases Zku hp (n:=n+d) (by omega) with e | e<;>rw[e]<;>omega
  rw[e,ih]
def xE (p:Int) (n:Nat):Rat:=if p=2 then 1 else mkRat ((lgN p n:Nat):Int) (2^n)
def yE (p:Int) (n:Nat):Rat:=if p=2 then 1 else mkRat ((lgN p n+1:Nat):Int) (2^n)
def loE (n:Nat):List Int->List Rat->Rat
 | p::ps,c::l=>Zii (c*xE p n) (c*yE p n)+loE n ps l
 | _,_=>0
def hiE (n:Nat):List Int->List Rat->Rat
 | p::ps,c::l=>Zij (c*xE p n) (c*yE p n)+hiE n ps l
 | _,_=>0
theorem Zb4(n:Nat):((2^n:Nat):Rat)=2^n:=by
 rw[LN.natCast_pow];rfl
theorem Zb(n:Nat):(0:Rat)<2^n:=Rat.pow_pos (by decide)
theorem Zit(p:Int)(n:Nat):xE p n*2^n=((lgN p n:Nat):Rat):=by
 unfold xE
 by_cases h:p=2
 ·rw[if_pos h,h,Zcx,Zb4,Rat.one_mul]
 ·rw[if_neg h,<- Zb4,<- Rat.intCast_natCast (lgN p n),Zb9 _ _ (Nat.two_pow_pos n)]
theorem Zis(p:Int)(n:Nat):yE p n*2^n=((LN.hiL (lf n) p:Nat):Rat):=by
 unfold yE LN.hiL
 by_cases h:p=2
 ·rw[if_pos h,if_pos h,h];unfold lf;rw[Zcx,Zb4,Rat.one_mul]
 ·rw[if_neg h,if_neg h];unfold lf;rw[<- Zb4,<- Rat.intCast_natCast (lgN p n+1),Zb9 _ _ (Nat.two_pow_pos n)]
theorem Zcd{a b:Rat}{n:Nat}(h:a*2^n<=b*2^n):a<=b:=Rat.le_of_mul_le_mul_right h (Zb n)
theorem Za9(p:Int)(n:Nat):xE p n<=yE p n:=by
 refine Zcd (n:=n) ?_;rw[Zit,Zis];refine Rat.natCast_le_natCast.2 ?_;unfold LN.hiL lf;split<;>omega
theorem Zds{c x y:Rat}(h:x<=y)(hc:c<0):Zii (c*x) (c*y)=c*y/\Zij (c*x) (c*y)=c*x:=by
 have h1:c*y<=c*x:=by
  have:=Rat.mul_le_mul_of_nonneg_left h (c := -c) (by grind)
  grind
 unfold Zii Zij;refine⟨?_,?_⟩
 ·split
  ·rfl
  ·grind
 ·split
  ·grind
  ·rfl
theorem Za1{c x y:Rat}(h:x<=y)(hc:0<=c):Zii (c*x) (c*y)=c*x/\Zij (c*x) (c*y)=c*y:=by
 have h1:c*x<=c*y:=Rat.mul_le_mul_of_nonneg_left h hc;unfold Zii Zij;refine⟨?_,?_⟩
 ·split
  ·grind
  ·rfl
 ·split
  ·rfl
  ·grind
theorem Znx(D:Nat)(p:Int)(ps:List Int)(c:Rat)(l:List Rat):Qo D (p::ps) (c::l)=if c.num=0 then Qo D ps l else (p,LN.ex D c)::Qo D ps l:=by
 unfold Qo LN.ex;rw[List.zip_cons_cons,List.filterMap_cons]
 by_cases h:c.num=0
 ·simp[h]
 ·simp[h]
theorem Zz6(f:Int->Nat)(x:Int×Int)(l:List (Int×Int)):LN.eLo f (x::l)=(if x.2<0 then x.2*(LN.hiL f x.1:Int) else x.2*(f x.1:Int))+LN.eLo f l:=by
 unfold LN.eLo;rw[List.map_cons,List.sum_cons]
theorem Zz7(f:Int->Nat)(x:Int×Int)(l:List (Int×Int)):LN.eHi f (x::l)=(if x.2<0 then x.2*(f x.1:Int) else x.2*(LN.hiL f x.1:Int))+LN.eHi f l:=by
 unfold LN.eHi;rw[List.map_cons,List.sum_cons]
theorem Zq8{D:Nat}(hD:0<D)(n:Nat):∀ (ps:List Int) (l:List Rat),(∀ q∈l,q.den ∣ D) ->
  ((LN.eLo (lf n) (Qo D ps l):Int):Rat)=loE n ps l*D*2^n/\((LN.eHi (lf n) (Qo D ps l):Int):Rat)=hiE n ps l*D*2^n
 | [],_,_=>by
  simp[Qo,LN.eLo,LN.eHi,loE,hiE,Rat.zero_mul]
 | _::_,[],_=>by
  simp[Qo,LN.eLo,LN.eHi,loE,hiE,Rat.zero_mul]
 | p::ps,c::l,h=>by
  obtain⟨i1,i2⟩:=Zq8 hD n ps l fun q hq=>h q (List.mem_cons_of_mem _ hq)
  have hc:=LN.ex_eq (h c List.mem_cons_self);have hx:xE p n*2^n=((lf n p:Nat):Rat):=Zit p n;have hy:=Zis p n;have fB:=Za9 p n;rw[Znx];simp only[loE,hiE]
  by_cases h0:c.num=0
  ·rw[if_pos h0,i1,i2];have c0:c=0:=Rat.num_eq_zero.1 h0;obtain⟨m1,m2⟩:=Za1 fB (show (0:Rat)<=c by rw[c0];decide);rw[m1,m2,c0,Rat.zero_mul,Rat.zero_mul,Rat.zero_add,Rat.zero_add];exact⟨rfl,rfl⟩
  ·rw[if_neg h0,Zz6,Zz7]
   dsimp only
   have jJ:(0:Rat)<(D:Rat):=Rat.natCast_pos.2 hD
   by_cases hn:LN.ex D c<0
   ·have cn:c<0:=by
     have:((LN.ex D c:Int):Rat)<0:=by rw[<- Rat.intCast_zero];exact Rat.intCast_lt_intCast.2 hn
     rw[hc] at this;refine Rat.not_le.1 fun h=>?_
     have:=Rat.mul_nonneg h (Rat.le_of_lt jJ)
     grind
    obtain⟨m1,m2⟩:=Zds fB cn;rw[if_pos hn,if_pos hn,m1,m2,Rat.intCast_add,Rat.intCast_add,i1,i2,Rat.intCast_mul,Rat.intCast_mul,hc,Rat.intCast_natCast,Rat.intCast_natCast,<- hx,<- hy];constructor<;>grind
   ·have cp:0<=c:=by
     refine Rat.not_lt.1 fun h=>hn ?_
     have h1:c*D<0:=by
      have:=Rat.mul_pos (show (0:Rat) < -c by grind) jJ
      grind
     rw[<- hc,<- Rat.intCast_zero] at h1;exact Rat.intCast_lt_intCast.1 h1
    obtain⟨m1,m2⟩:=Za1 fB cp;rw[if_neg hn,if_neg hn,m1,m2,Rat.intCast_add,Rat.intCast_add,i1,i2,Rat.intCast_mul,Rat.intCast_mul,hc,Rat.intCast_natCast,Rat.intCast_natCast,<- hx,<- hy];constructor<;>grind
theorem Qga{p n:Nat}(hp:p=2\/p∈Zbv)(hn:n+1<=1056):xE p n<=xE p (n+1)/\yE p (n+1)<=yE p n:=by
 rcases hp with rfl|hp
 ·unfold xE yE;rw[show ((2:Nat):Int)=2 from rfl];simp only[if_true];exact⟨Rat.le_refl,Rat.le_refl⟩
 ·have h2:=(Zbe hp).2.1;have gj:¬ ((p:Nat):Int)=2:=by have:=(Zbe hp).1;omega
  have e1:=Zit p n;have e2:=Zis p n;have e3:=Zit p (n+1);have e4:=Zis p (n+1);unfold LN.hiL lf at e2 e4;rw[if_neg gj] at e2 e4;have hs:(2:Rat)^(n+1)=2^n*2:=Rat.pow_succ ..;constructor
  ·refine Zcd (n:=n+1) ?_;rw[e3,hs,<- Rat.mul_assoc,e1];have h3:((2*lgN p n:Nat):Rat)<=((lgN p (n+1):Nat):Rat):=Rat.natCast_le_natCast.2 (by rcases Zku hp hn with e | e<;>omega);rw[Rat.natCast_mul] at h3;have:((2:Nat):Rat)=2:=rfl
   grind
  ·refine Zcd (n:=n+1) ?_;rw[e4,hs,<- Rat.mul_assoc,e2];have h3:((lgN p (n+1)+1:Nat):Rat)<=((2*(lgN p n+1):Nat):Rat):=Rat.natCast_le_natCast.2 (by rcases Zku hp hn with e | e<;>omega);rw[Rat.natCast_mul] at h3;have:((2:Nat):Rat)=2:=rfl
   grind
theorem Zwq{n:Nat}(hn:n+1<=1056):∀ (ps:List Int) (l:List Rat),(∀ p∈ps,∃ q:Nat,p=q/\(q=2\/q∈Zbv))->loE n ps l<=loE (n+1) ps l/\hiE (n+1) ps l<=hiE n ps l
 | [],_,_=>by simp[loE,hiE]
 | _::_,[],_=>by simp[loE,hiE]
 | p::ps,c::l,h=>by
  obtain⟨i1,i2⟩:=Zwq hn ps l fun q hq=>h q (List.mem_cons_of_mem _ hq)
  obtain⟨q,rfl,hq⟩:=h p List.mem_cons_self;obtain⟨u1,u2⟩:=Qga hq hn;simp only[loE,hiE];rcases Decidable.em (c<0) with hc|hc
  ·obtain⟨m1,m2⟩:=Zds (Za9 q n) hc;obtain⟨m3,m4⟩:=Zds (Za9 q (n+1)) hc;rw[m1,m2,m3,m4];have a1:=Rat.mul_le_mul_of_nonneg_left u1 (c := -c) (by grind);have a2:=Rat.mul_le_mul_of_nonneg_left u2 (c := -c) (by grind);constructor<;>grind
  ·have hc:=Rat.not_lt.1 hc;obtain⟨m1,m2⟩:=Za1 (Za9 q n) hc;obtain⟨m3,m4⟩:=Za1 (Za9 q (n+1)) hc;rw[m1,m2,m3,m4];have a1:=Rat.mul_le_mul_of_nonneg_left u1 hc;have a2:=Rat.mul_le_mul_of_nonneg_left u2 hc;constructor<;>grind
theorem Zwt(n:Nat):∀ (ps:List Int) (l:List Rat),loE n ps l<=hiE n ps l
 | [],_=>by simp[loE,hiE]
 | _::_,[]=>by simp[loE,hiE]
 | p::ps,c::l=>by
  have ih:=Zwt n ps l;simp only[loE,hiE];have h1:Zii (c*xE p n) (c*yE p n)<=Zij (c*xE p n) (c*yE p n):=by
   unfold Zii Zij;split<;>split<;>grind
  grind
theorem Zk2{n:Nat}{ps:List Int}{l:List Rat}(h:∀ p∈ps,∃ q:Nat,p=q/\(q=2\/q∈Zbv)):∀ d,n+d<=1056->loE n ps l<=loE (n+d) ps l/\hiE (n+d) ps l<=hiE n ps l
 | 0,_=>⟨Rat.le_refl,Rat.le_refl⟩
 | d+1,hd=>by
  obtain⟨i1,i2⟩:=Zk2 h (n:=n) (l:=l) d (by omega);obtain⟨j1,j2⟩:=Zwq (n:=n+d) (by omega) ps l h;exact⟨Rat.le_trans i1 j1,Rat.le_trans j2 i2⟩
def Zat (n:Nat) (ps:List Int) (l:List Rat):Int:=if 0<=loE n ps l then 1 else if hiE n ps l<=0 then -1 else 0
theorem Zsy{n:Nat}(hn:n<=1056){p:Int}(hp:p∈Zia):LN.LogAt n p (lgN p n):=by
 obtain⟨q,rfl,hq⟩:=Zfh hp;exact Qe4 hq hn
theorem Zt9{n:Nat}(hn:n<=1056){ps:List Int}{l:List Rat}(h1:∀ p∈ps,p∈Zia):∀ x∈tlQ ps l,LN.LogAt n x.1 ((lf n) x.1):=fun x hx=>by
 have h:=(Zbu (Ql l) ps l).subset (List.mem_map.2 ⟨x,hx,rfl⟩);exact Zsy hn (h1 _ h)
theorem Zgu{ps:List Int}{l:List Rat}(h2:ps.Nodup):((tlQ ps l).map Prod.fst).Nodup:=(Zbu (Ql l) ps l).nodup h2
theorem Zk3(n:Nat)(ps:List Int)(l:List Rat):(0<=loE n ps l↔0<=LN.eLo (lf n) (tlQ ps l))/\(hiE n ps l<=0↔LN.eHi (lf n) (tlQ ps l)<=0):=by
 have hD:=LN.tden_pos' l;obtain⟨e1,e2⟩:=Zq8 hD n ps l fun q hq=>LN.tden_dvd hq
 have jJ:(0:Rat)<(Ql l:Rat):=Rat.natCast_pos.2 hD;have h2:=Zb n;have hc:(0:Rat)<(Ql l:Rat)*2^n:=Rat.mul_pos jJ h2;rw[Rat.mul_assoc] at e1 e2;unfold tlQ;generalize (Ql l:Rat)*2^n=c at *;refine⟨⟨fun h=>?_,fun h=>?_⟩,⟨fun h=>?_,fun h=>?_⟩⟩
 ·have h3:=Rat.mul_nonneg h (Rat.le_of_lt hc);rw[<- e1,<- Rat.intCast_zero] at h3;exact Rat.intCast_le_intCast.1 h3
 ·refine Rat.not_lt.1 fun h3=>?_
  have h4:=Rat.mul_pos (show 0 < -loE n ps l by grind) hc;have h5:((0:Int):Rat)<=_:=Rat.intCast_le_intCast.2 h;rw[e1,Rat.intCast_zero] at h5
  grind
 ·have h3:=Rat.mul_nonneg (show 0 <= -hiE n ps l by grind) (Rat.le_of_lt hc);have h4:hiE n ps l*c<=0:=by grind
  rw[<- e2,<- Rat.intCast_zero] at h4;exact Rat.intCast_le_intCast.1 h4
 ·refine Rat.not_lt.1 fun h3=>?_
  have h4:=Rat.mul_pos h3 hc;have h5:_<=((0:Int):Rat):=Rat.intCast_le_intCast.2 h;rw[e2,Rat.intCast_zero] at h5
  grind
theorem Zqx{n:Nat}(hn:n<=1056){ps:List Int}{l:List Rat}(h1:∀ p∈ps,p∈Zia)(h2:ps.Nodup)(gj:tlQ ps l≠[])(h:0<=loE n ps l):LN.sz ps l=1:=by
 have h3:=(Zk3 n ps l).1.1 h;rw[LN.eLo_eq] at h3;exact LN.sign_low n _ (tlQ ps l) (Zt9 hn h1) (fun x hx=>Zp3 hx) gj (Zgu h2) (by omega)
theorem Zq3{n:Nat}(hn:n<=1056){ps:List Int}{l:List Rat}(h1:∀ p∈ps,p∈Zia)(h2:ps.Nodup)(gj:tlQ ps l≠[])(h:hiE n ps l<=0):LN.sz ps l = -1:=by
 have h3:=(Zk3 n ps l).2.1 h;rw[LN.eHi_eq] at h3;exact LN.sign_high n _ (tlQ ps l) (Zt9 hn h1) (fun x hx=>Zp3 hx) gj (Zgu h2) (by omega)
theorem Zw3{n:Nat}(hn:n<=1056){ps:List Int}{l:List Rat}(h1:∀ p∈ps,p∈Zia)(h2:ps.Nodup)(gj:tlQ ps l≠[])(h:Zat n ps l≠0):Zat n ps l=LN.sz ps l:=by
 unfold Zat at h ⊢;split at h
 ·rename_i c
  rw[if_pos c,Zqx hn h1 h2 gj c]
 ·rename_i c
  rw[if_neg c];split at h
  ·rename_i c2
   rw[if_pos c2,Zq3 hn h1 h2 gj c2]
  ·exact absurd rfl h
theorem Zpg{n d:Nat}{ps:List Int}{l:List Rat}(h1:∀ p∈ps,p∈Zia)(hd:n+d<=1056)(h:Zat n ps l≠0):Zat (n+d) ps l≠0:=by
 obtain⟨u1,u2⟩:=Zk2 (n:=n) (ps:=ps) (l:=l) (fun p hp=>Zfh (h1 p hp)) d hd;unfold Zat at h ⊢;split
 ·decide
 ·split
  ·decide
  ·rename_i c1 c2
   split at h
   ·rename_i c3
    exact absurd (Rat.le_trans c3 u1) c1
   ·split at h
    ·rename_i c4
     exact absurd (Rat.le_trans u2 c4) c2
    ·exact h
end Go.Proofs.YtbielfplgbammaaGreatDoor

namespace Go.Proofs.YtbielfplgbammaaGreatDoor.LN
end Go.Proofs.YtbielfplgbammaaGreatDoor.LN

namespace Go.Proofs.YtbielfplgbammaaGreatDoor
open Go.RowKit
end Go.Proofs.YtbielfplgbammaaGreatDoor

namespace Go.Proofs.YtbielfplgbammaaGreatDoor
open Go.RowKit
end Go.Proofs.YtbielfplgbammaaGreatDoor

namespace Go.Proofs.YtbielfplgbammaaGreatDoor
open Go.RowKit
theorem Zws(f:Int->Nat)(K:Nat)(l:List (Int×Int))(h:∀ x∈l,x.2.natAbs<=K):
  LN.eLo f l<=LN.sumT f l/\LN.sumT f l<=LN.eHi f l/\LN.eHi f l<=LN.sumT f l+(l.length*K:Nat)/\LN.sumT f l<=LN.eLo f l+(l.length*K:Nat):=by
 have h1:=LN.hiS_le f K l h;have h2:=LN.hiS_le f K (LN.negT l) (by
  intro x hx;obtain⟨y,hy,rfl⟩:=List.mem_map.1 hx;have:=h y hy
  show (-y.2).natAbs<=K
  omega)
 have e:(LN.negT l).length=l.length:=by simp[LN.negT]
 rw[e] at h2;have h3:∀ l:List (Int×Int),LN.loS f l<=LN.hiS f l:=by
  intro l
  induction l with
  | nil=>exact Nat.le_refl _
  | cons x l ih =>
   rw[LN.loS,LN.hiS];refine Nat.add_le_add (Nat.mul_le_mul_left _ ?_) ih;unfold LN.hiL;split<;>omega
 have h4:=h3 l;have h5:=h3 (LN.negT l);rw[LN.eLo_eq,LN.eHi_eq,LN.sumT_eq];omega
theorem Zp6{n d K:Nat}(hd:n+d<=1056):∀ tl:List (Int×Int),(∀ x∈tl,x.1∈Zia)->(∀ x∈tl,x.2.natAbs<=K) ->
  (LN.sumT (lf (n+d)) tl-2^d*LN.sumT (lf n) tl).natAbs<=tl.length*(K*2^d)
 | [],_,_=>by simp[LN.sumT]
 | x::tl,h,hk=>by
  have ih:=Zp6 hd tl (fun y hy=>h y (List.mem_cons_of_mem _ hy)) (fun y hy=>hk y (List.mem_cons_of_mem _ hy));have hx:=hk x List.mem_cons_self;obtain⟨q,hq,fk⟩:=Zfh (h x List.mem_cons_self);have hc:=Zhl fk d (n:=n) hd;have hm:=Nat.div_add_mod (lgN (q:Int) (n+d)) (2^d);have H7:=Nat.mod_lt (lgN (q:Int) (n+d)) (Nat.two_pow_pos d);rw[hc] at hm;generalize hr:lgN (q:Int) (n+d)%2^d=r at *;have e:LN.sumT (lf (n+d)) (x::tl)-2^d*LN.sumT (lf n) (x::tl)=x.2*(r:Int)+(LN.sumT (lf (n+d)) tl-2^d*LN.sumT (lf n) tl):=by
   simp only[LN.sumT];have e1:((lf (n+d) x.1:Nat):Int)=2^d*((lf n x.1:Nat):Int)+(r:Int):=by
    unfold lf;rw[hq,<- hm,Int.natCast_add,Int.natCast_mul,Int.natCast_pow];rfl
   rw[e1]
   grind
  rw[e,List.length_cons,Nat.succ_mul];have h1:(x.2*(r:Int)).natAbs<=K*2^d:=by
   rw[Int.natAbs_mul,Int.natAbs_natCast];exact Nat.mul_le_mul hx (Nat.le_of_lt H7)
  have h2:=Int.natAbs_add_le (x.2*(r:Int)) (LN.sumT (lf (n+d)) tl-2^d*LN.sumT (lf n) tl);omega
theorem Zsp{T1 T0:Int}{m W K:Nat}(h:(T1-m*T0).natAbs<=W)(h0:T0.natAbs<=K):T1.natAbs<=W+m*K:=by
 have h1:((m:Int)*T0).natAbs<=m*K:=by
  rw[Int.natAbs_mul,Int.natAbs_natCast];exact Nat.mul_le_mul_left _ h0
 have h2:T1.natAbs<=(T1-m*T0).natAbs+((m:Int)*T0).natAbs:=by
  have:=Int.natAbs_add_le (T1-m*T0) (m*T0)
  rwa [Int.sub_add_cancel] at this
 omega
def stC (W:Nat) (s:Nat×Nat×Nat):Option (Nat×Nat×Nat) :=
 let l:=s.1*s.1/2^W
 let q:=s.2.1*s.2.1
 let h:=if q/2^W*2^W=q then q/2^W else q/2^W+1
 if 2^(W+1)<=l then some (l/2,(h+1)/2,2*s.2.2+1) else if 2^(W+1)<=h then none else some (l,h,2*s.2.2)
def Zif (W p:Nat):Nat->Option (Nat×Nat×Nat)
 | 0=>some (p*2^(W-(blN p-1)),p*2^(W-(blN p-1)),blN p-1)
 | n+1=>(Zif W p n).bind (stC W)
def hiC (W g:Nat):Nat:=if g*g/2^W*2^W=g*g then g*g/2^W else g*g/2^W+1
theorem Zg4{W:Nat}{s t:Nat×Nat×Nat}(h:stC W s=some t):
  (2^(W+1)<=s.1*s.1/2^W/\t=(s.1*s.1/2^W/2,(hiC W s.2.1+1)/2,2*s.2.2+1))\/(¬ 2^(W+1)<=s.1*s.1/2^W/\¬ 2^(W+1)<=hiC W s.2.1/\t=(s.1*s.1/2^W,hiC W s.2.1,2*s.2.2)):=by
 have e:stC W s=if 2^(W+1)<=s.1*s.1/2^W then some (s.1*s.1/2^W/2,(hiC W s.2.1+1)/2,2*s.2.2+1) else if 2^(W+1)<=hiC W s.2.1 then none else some (s.1*s.1/2^W,hiC W s.2.1,2*s.2.2):=rfl
 rw[e] at h
 by_cases c1:2^(W+1)<=s.1*s.1/2^W
 ·rw[if_pos c1] at h;exact .inl ⟨c1,(Option.some.inj h).symm⟩
 ·rw[if_neg c1] at h
  by_cases c2:2^(W+1)<=hiC W s.2.1
  ·rw[if_pos c2] at h;cases h
  ·rw[if_neg c2] at h;exact .inr ⟨c1,c2,(Option.some.inj h).symm⟩
theorem Zkh{W p:Nat}{s:Nat×Nat×Nat}:∀ {n:Nat} (d:Nat),Zif W p (n+d)=some s->∃ t,Zif W p n=some t/\t.2.2=s.2.2/2^d
 | n,0,h=>⟨s,h,by simp⟩
 | n,d+1,h=>by
  have h2:(Zif W p (n+d)).bind (stC W)=some s:=h;obtain⟨u,hu,hs⟩:=Option.bind_eq_some_iff.1 h2;obtain⟨t,ht,he⟩:=Zkh d hu;refine⟨t,ht,?_⟩;have h3:u.2.2=s.2.2/2:=by
   rcases Zg4 hs with⟨-,rfl⟩|⟨-,-,rfl⟩<;>dsimp only<;>omega
  rw[he,h3,Nat.div_div_eq_div_mul,Nat.pow_succ,Nat.mul_comm]
theorem Zu4{W p:Nat}{n:Nat}{s:Nat×Nat×Nat}(h:Zif W p (n+1)=some s):∃ t,Zif W p n=some t/\stC W t=some s:=Option.bind_eq_some_iff.1 h
theorem Zu3{W p:Nat}(hp:0<p)(hW:blN p<=W+1):∀ (n:Nat) (s:Nat×Nat×Nat),Zif W p n=some s->s.1<=2^(W+1)/\s.2.1<=2^(W+1)
 | 0,s,h=>by
  simp only[Zif,Option.some.injEq] at h;subst h;have h1:=Zjt p;have h2:0<blN p:=by unfold blN;rw[if_neg (by omega)];omega
  have h3:p*2^(W-(blN p-1))<=2^blN p*2^(W-(blN p-1)):=Nat.mul_le_mul_right _ (Nat.le_of_lt h1);rw[<- Nat.pow_add,show blN p+(W-(blN p-1))=W+1 by omega] at h3;exact⟨h3,h3⟩
 | n+1,s,h=>by
  obtain⟨t,ht,hs⟩:=Zu4 h;obtain⟨h1,h2⟩:=Zu3 hp hW n t ht;obtain⟨l,g,o⟩:=t
  dsimp only at h1 h2
  have h0:=Nat.two_pow_pos W;have e1:(2:Nat)^(W+1)=2*2^W:=by rw[Nat.pow_succ,Nat.mul_comm]
  have sq:∀ x,x<=2^(W+1)->x*x<=4*2^W*2^W:=fun x hx=>by
   have:=Nat.mul_le_mul hx hx
   rw[e1] at this;refine Nat.le_trans this (Nat.le_of_eq ?_);rw[Nat.mul_mul_mul_comm,<- Nat.mul_assoc]
  have dv:∀ x,x<=2^(W+1)->x*x/2^W<=4*2^W/\(x*x/2^W*2^W≠x*x->x*x/2^W+1<=4*2^W):=fun x hx=>by
   have h3:=sq x hx;have h4:x*x/2^W<=4*2^W:=Nat.div_le_of_le_mul (by rw[Nat.mul_comm (2^W)];exact h3);refine⟨h4,fun gj=>?_⟩;rcases Nat.lt_or_ge (x*x/2^W) (4*2^W) with h5|h5
   ·exact h5
   ·have h6:x*x/2^W=4*2^W:=Nat.le_antisymm h4 h5;have h7:=Nat.div_mul_le_self (x*x) (2^W);rw[h6] at h7 gj;exact absurd (Nat.le_antisymm h7 h3) gj
  obtain⟨dl,-⟩:=dv l h1;obtain⟨dg,dg2⟩:=dv g h2;have hh:hiC W g<=4*2^W:=by
   unfold hiC;split
   ·exact dg
   ·rename_i gj;exact dg2 gj
  rcases Zg4 hs with⟨c1,rfl⟩|⟨c1,c2,rfl⟩<;>dsimp only at * <;> rw[e1] at * <;> omega
theorem Zsa:∀ p∈Vj,((Zif 160 p.toNat 64).map fun s=>s.2.2)=some (lgN p 64):=by decide +kernel
theorem Qch{p:Int}(hp:p∈Vj){n:Nat}(hn:n<=64):∃ s,Zif 160 p.toNat n=some s/\s.2.2=lgN p n:=by
 have h:=Zsa p hp;obtain⟨s,hs,he⟩:=Option.map_eq_some_iff.1 h;obtain⟨d,hd⟩:∃ d,64=n+d:=⟨64-n,by omega⟩;rw[hd] at hs he;obtain⟨t,ht,e⟩:=Zkh d hs;obtain⟨q,rfl,hq⟩:=Zfh (Zax hp);refine⟨t,ht,?_⟩;rw[e,he,Zhl hq d (by omega)]
theorem Zgc{n m:Nat}(h:n<2^(32*m))(hm:m<=1000000):Qx n:=by
 rw[Nat.pow_mul] at h;exact Nat.le_trans (Zlt h) hm
theorem Zqg{W p:Nat}:∀ (n:Nat) (s:Nat×Nat×Nat),Zif W p n=some s->s.2.2<2^(n+blN p)
 | 0,s,h=>by
  simp only[Zif,Option.some.injEq] at h;subst h;have:blN p<2^blN p:=Nat.lt_two_pow_self
  rw[Nat.zero_add]
  show blN p-1<_
  omega
 | n+1,s,h=>by
  obtain⟨t,ht,hs⟩:=Zu4 h;have ih:=Zqg n t ht;rw[show n+1+blN p=n+blN p+1 by omega,Nat.pow_succ];rcases Zg4 hs with⟨-,rfl⟩|⟨-,-,rfl⟩<;>dsimp only<;>omega
theorem Zu2{W p n k:Nat}{s:Nat×Nat×Nat}(h:Zif W p n=some s)(hk:k<=n):∃ t,Zif W p k=some t:=by
 obtain⟨d,rfl⟩:∃ d,n=k+d:=⟨n-k,by omega⟩;obtain⟨t,ht,-⟩:=Zkh d h;exact⟨t,ht⟩
structure StL (W l g o:Nat):Prop where
 l1:Qx l
 l2:Qx g
 l3:Qx o
 l4:Qx (l*l)
 l5:Qx (g*g)
 l6:Qx (l*l/2^W)
 l7:Qx (g*g/2^W)
 l8:Qx (g*g/2^W*2^W)
 l9:Qx (hiC W g)
 la:Qx (o*2^1)
 lb:Qx (hiC W g+1)
theorem stL{W l g o q:Nat}(hW:W<=10000)(h1:l<=2^(W+1))(h2:g<=2^(W+1))(h3:o<2^q)(hq:q<=1000):StL W l g o:=by
 obtain⟨m,hm⟩:∃ m,m=1000:=⟨_,rfl⟩;have aW:∀ x,x<=2^(W+1)->x*x<=2^(2*W+2):=fun x hx=>by
  have:=Nat.mul_le_mul hx hx
  rwa [<- Nat.pow_add,show W+1+(W+1)=2*W+2 by omega] at this
 have hp:∀ a,a<=31999->2^a<2^(32*m):=fun a ha=>Nat.pow_lt_pow_right (by decide) (by omega)
 have p1:=hp (W+1) (by omega);have p2:=hp (2*W+2) (by omega);have p3:=hp (q+1) (by omega);have q1:=aW l h1;have q2:=aW g h2;have d1:=Nat.div_le_self (l*l) (2^W);have d2:=Nat.div_le_self (g*g) (2^W);have d3:=Nat.div_mul_le_self (g*g) (2^W);have d4:hiC W g<=g*g+1:=by unfold hiC;split<;>omega
 have p4:2^(2*W+2)+2<2^(32*m):=by
  have:=hp (2*W+3) (by omega)
  have h4:2^(2*W+3)=2^(2*W+2)*2:=Nat.pow_succ ..;have h5:2^2<=2^(2*W+2):=Nat.pow_le_pow_right (by decide) (by omega);omega
 have h6:o*2^1<2^(q+1):=by rw[Nat.pow_succ 2 q];omega
 have f:∀ x,x<2^(32*m)->Qx x:=fun x hx=>Zgc hx (by omega)
 generalize (2:Nat)^(32*m)=Z at *;generalize (2:Nat)^(q+1)=Z1 at *;generalize (2:Nat)^q=Z2 at *;refine⟨f _ (by omega),f _ (by omega),f _ (by omega),f _ (by omega),f _ (by omega),f _ (by omega),f _ (by omega),f _ (by omega),f _ (by omega),f _ (by omega),f _ (by omega)⟩
theorem Qfs{W g:Nat}(h:g*g/2^W*2^W=g*g):hiC W g=g*g/2^W:=by unfold hiC;rw[if_pos h]
theorem Qfr{W g:Nat}(h:¬ g*g/2^W*2^W=g*g):hiC W g=g*g/2^W+1:=by unfold hiC;rw[if_neg h]
theorem Qet(W l g o:Nat):stC W (l,g,o)=if 2^(W+1)<=l*l/2^W then some (l*l/2^W/2,(hiC W g+1)/2,2*o+1) else if 2^(W+1)<=hiC W g then none else some (l*l/2^W,hiC W g,2*o):=rfl
theorem Zzz(x:Nat):x/2^1=x/2:=by rw[Nat.pow_one]
theorem Zzh(w:World)(p n W:Nat)(hp:0<p)(Gk:p<128)(hn:n<=900)(hW:blN p<=W+1)(hW0:0<W)(ip:W<=10000)(sF:Nat×Nat×Nat)(hs:Zif W p n=some sF):
  Calls Tryz.prog 147 #[.int .i64 p,.int .i64 n,.int .i64 W] w fun e w'=>∃ a c,e = .returned (.tuple #[.slice a (wN sF.2.2).length c,.bool true])/\IsX w' a c sF.2.2/\Bw_ w w':=by
 have Cl:=hd_ (fun V r1 s1 r2 s2 x y (k1:IsX V r1 s1 x) (k2:IsX V r2 s2 y) (l1:Qx x) (l2:Qx y)=>Zad V r1 r2 s1 s2 x y k1.1 k2.1 l1 l2);have D3:=hd_ (fun V r1 s1 r2 s2 x y (k1:IsX V r1 s1 x) (k2:IsX V r2 s2 y) (l1:Qx x) (l2:Qx y)=>Zec V r1 r2 s1 s2 x y k1.1 k2.1 l1 l2);have II:=hd_ (fun V r1 s1 r2 s2 x y (k1:IsX V r1 s1 x) (k2:IsX V r2 s2 y) (l1:Qx x)=>Zar V r1 r2 s1 s2 x y k1.1 k2.1 (Nat.le_trans l1 (by decide)));have ID:=hd_ (fun V r1 s1 x b (hb:b<=20000) (k1:IsX V r1 s1 x) (l1:Qx x)=>Zkc V r1 s1 x b (b/32) (b%32) (by omega) (Nat.mod_lt _ (by decide)) k1.1 l1 (by omega));have j8:=hd_ (fun V r1 s1 x b (hb:b<=20000) (h0:0<b) (k1:IsX V r1 s1 x) (l1:Qx x)=>Zyh V r1 s1 x b (b/32) (b%32) (by omega) (Nat.mod_lt _ (by decide)) h0 (by omega) k1.1 k1.2 l1);have At:=hd_ (fun V r1 s1 x (k1:IsX V r1 s1 x) (l1:Qx x)=>ID.o V r1 s1 x 1 (by decide) k1 l1);have IS:=hd_ (fun V r1 s1 x (k1:IsX V r1 s1 x) (l1:Qx x)=>j8.o V r1 s1 x 1 (by decide) (by decide) k1 l1);simp only[Zzz] at IS;rw[show (-((1:Nat):Int)) = -1 from rfl] at IS;rw[show ((1:Nat):Int)=1 from rfl] at At;unfold Ye at Cl D3 ID j8 At IS;have ec:blN p<=7:=Zxg (by omega);have Gj:0<blN p:=by unfold blN;rw[if_neg (by omega)];omega
 have bR:=hd_ (fun k (hk:k<=n)=>Zu2 hs hk);have j9:=hd_ (fun k s t (h1:Zif W p k=some s) (h2:Zif W p (k+1)=some t)=>by
  have h3:(Zif W p k).bind (stC W)=some t:=h2;rw[h1] at h3;exact(show stC W s=some t from h3))
 have IQ:Hid (∀ k s,k<=n->Zif W p k=some s->StL W s.1 s.2.1 s.2.2):=fun k s hk h=>by
  have h1:=Zu3 hp hW k s h;have h2:=Zqg k s h;exact stL ip h1.1 h1.2 h2 (by omega)
 have lx:Qx p:=Zgc (m:=1) (Nat.lt_of_lt_of_le Gk (by decide)) (by decide);have l1:Qx 1:=lx.le hp;have lT:Hid (Qx (2^(W+1))):=Zgc (m:=W+1) (Nat.pow_lt_pow_right (by decide) (by omega)) (by omega);have H0:Hid (Zif W p 0=some (p*2^(W-(blN p-1)),p*2^(W-(blN p-1)),blN p-1)):=rfl;have IW:=hd_ hs;have fO:=hd_ (fun V=>Zkl V p (by omega));have Fx:=hd_ (fun V=>Zkl V (blN p-1) (by omega));unfold Ye at fO Fx;have Ng:=hd_ (fun V r1 s1 (k1:IsX V r1 s1 p)=>Zh4 V r1 s1 p k1.1 lx);have fh:IntKind.u64.wrap (p:Int)=p:=Qk _ (by omega);obtain⟨k0,Ee⟩:∃ k,blN p-1=k:=⟨_,rfl⟩;have fX:IntKind.i64.wrap ((blN p:Int)-1)=k0:=by rw[show (blN p:Int)-1=(k0:Int) by omega];exact iw_ _ (by omega)
 have Dc:IntKind.u64.wrap (k0:Int)=k0:=Qk _ (by omega);have f8:IntKind.i64.wrap ((W:Int)-k0)=((W-k0:Nat):Int):=by rw[show (W:Int)-k0=((W-k0:Nat):Int) by omega];exact iw_ _ (by omega)
 have Jn:IntKind.i64.wrap ((W:Int)+1)=((W+1:Nat):Int):=by rw[<- Int.natCast_succ];exact iw_ _ (by omega)
 have jt:IntKind.i64.wrap (-(W:Int)) = -(W:Int):=iw_ _ (by omega);have hZ:W-k0<=20000:=by omega
 rw[Ee] at H0 Fx;have B:=hd_ (Below.refl w.heap.size w);clear hs Ee hW ec Gk Gj;go_enter Tryz.func147,Tryz.ntmps147;go_wp2_with fail;refine cm_ (fO.o _) ?_;rintro e_ v2_1 ⟨aXX,cXX,rfl,hi_,hb_⟩;have XX:=hd_ hi_;replace B:=bt_ B hb_;clear hb_ hi_;go_wp2_with fail;refine cm_ (Ng.o _ _ _ XX.o) ?_;rintro e_ v2_2 ⟨rfl,hb_⟩;replace XX:=hd_ (XX.o.below hb_ nr_);replace B:=bt_ B hb_;clear hb_;clear Ng;go_wp2_with fail;refine cm_ (Fx.o _) ?_;rintro e_ v2_3 ⟨aXO,cXO,rfl,hi_,hb_⟩;have XO:=hd_ hi_;replace XX:=hd_ (XX.o.below hb_ nr_);replace B:=bt_ B hb_;clear hb_ hi_;clear fO Fx;go_wp2_with fail;refine cm_ (ID.o _ _ _ _ _ hZ XX.o lx) ?_;rintro e_ v2_4 ⟨aXL,cXL,rfl,hi_,hb_⟩;have XL:=hd_ hi_;replace XX:=hd_ (XX.o.below hb_ nr_);replace XO:=hd_ (XO.o.below hb_ nr_);replace B:=bt_ B hb_;clear hb_ hi_;clear XX;go_wp2_with fail;have gX:=(Below.refl v2_4.heap.size v2_4).alloc nr_ (.cells #[.int .u32 1] 131);have X1:=hd_ (IsX.one (Kj v2_4 #[.int .u32 1] 131 _ rfl));replace XO:=hd_ (XO.o.below gX nr_);replace XL:=hd_ (XL.o.below gX nr_);replace B:=bt_ B gX;clear gX;have LM:=hd_ (ID.o _ _ _ 1 (W+1) (by omega) X1.o l1);rw[Vd,Nat.one_mul] at LM;refine cm_ (LM.o) ?_;rintro e_ v2_5 ⟨aXT,cXT,rfl,hi_,hb_⟩;have XT:=hd_ hi_;replace XO:=hd_ (XO.o.below hb_ nr_);replace XL:=hd_ (XL.o.below hb_ nr_);replace X1:=hd_ (X1.o.below hb_ nr_);replace B:=bt_ B hb_;clear hb_ hi_;clear X1;clear LM;go_wp2_with fail;clear fh fX Dc f8 Jn lx l1 hZ;generalize p*2^(W-k0)=l0 at *
 go_loopw [10,11,12,35] (fun ov lv hv iv wr=>∃ (i l g o:Nat) (oa la ga:OA_) (oc lc gc:Nat),i<=n/\ov = .slice oa (wN o).length oc/\lv = .slice la (wN l).length lc/\hv = .slice ga (wN g).length gc/\iv = .int .i64 i/\Hid (Zif W p i=some (l,g,o))/\Hid (IsX wr oa oc o)/\Hid (IsX wr la lc l)/\Hid (IsX wr ga gc g)/\Hid (IsX wr aXT cXT (2^(W+1)))/\Hid (Bw_ w wr)) (fun _ _ _ iv _=>n-(intOf iv).toNat)
 case atStart=>exact⟨0,l0,l0,k0,_,_,_,_,_,_,Nat.zero_le _,rfl,rfl,rfl,rfl,H0,XO,XL,XL,XT,B⟩
 case round =>
  obtain⟨i,l,g,o,oa,la,ga,oc,lc,gc,hi,rfl,rfl,rfl,rfl,HR,YO,YL,YG,YT,D⟩:=hrel;clear XO XL XT B H0;have B:=D;clear D
  by_cases H7:i<n
  ·have gi:(i:Int)<n:=by omega
   obtain⟨t,ht⟩:=bR.o (i+1) H7;have GH:=j9.o i _ _ HR.o ht;have Ht:=hd_ ht;have HL:=hd_ (IQ.o i _ hi HR.o);rw[Qet] at GH;have gZ:=hd_ GH;clear ht GH HR;have dj:IntKind.i64.wrap ((i:Int)+1)=((i+1:Nat):Int):=by rw[<- Int.natCast_succ];exact iw_ _ (by omega)
   go_wp2_with fail;refine cm_ (Cl.o _ _ _ _ _ _ _ YL.o YL.o HL.o.l1 HL.o.l1) ?_;rintro e_ v6_1 ⟨aZ1,cZ1,rfl,hi_,hb_⟩;have Z1:=hd_ hi_;replace YO:=hd_ (YO.o.below hb_ nr_);replace YL:=hd_ (YL.o.below hb_ nr_);replace YG:=hd_ (YG.o.below hb_ nr_);replace YT:=hd_ (YT.o.below hb_ nr_);replace B:=bt_ B hb_;clear hb_ hi_;go_wp2_with fail;refine cm_ (j8.o _ _ _ _ W (by omega) hW0 Z1.o HL.o.l4) ?_;rintro e_ v6_2 ⟨aZL,cZL,rfl,hi_,hb_⟩;have ZL:=hd_ hi_;replace YO:=hd_ (YO.o.below hb_ nr_);replace YL:=hd_ (YL.o.below hb_ nr_);replace YG:=hd_ (YG.o.below hb_ nr_);replace YT:=hd_ (YT.o.below hb_ nr_);replace Z1:=hd_ (Z1.o.below hb_ nr_);replace B:=bt_ B hb_;clear hb_ hi_;clear Z1;clear YL;go_wp2_with fail;refine cm_ (Cl.o _ _ _ _ _ _ _ YG.o YG.o HL.o.l2 HL.o.l2) ?_;rintro e_ v6_3 ⟨aZQ,cZQ,rfl,hi_,hb_⟩;have ZQ:=hd_ hi_;replace YO:=hd_ (YO.o.below hb_ nr_);replace YG:=hd_ (YG.o.below hb_ nr_);replace YT:=hd_ (YT.o.below hb_ nr_);replace ZL:=hd_ (ZL.o.below hb_ nr_);replace B:=bt_ B hb_;clear hb_ hi_;clear YG;go_wp2_with fail;refine cm_ (j8.o _ _ _ _ W (by omega) hW0 ZQ.o HL.o.l5) ?_;rintro e_ v6_4 ⟨aZH,cZH,rfl,hi_,hb_⟩;have ZH:=hd_ hi_;replace YO:=hd_ (YO.o.below hb_ nr_);replace YT:=hd_ (YT.o.below hb_ nr_);replace ZL:=hd_ (ZL.o.below hb_ nr_);replace ZQ:=hd_ (ZQ.o.below hb_ nr_);replace B:=bt_ B hb_;clear hb_ hi_;go_wp2_with fail;refine cm_ (ID.o _ _ _ _ W (by omega) ZH.o HL.o.l7) ?_;rintro e_ v6_5 ⟨aZ2,cZ2,rfl,hi_,hb_⟩;have Z2:=hd_ hi_;replace YO:=hd_ (YO.o.below hb_ nr_);replace YT:=hd_ (YT.o.below hb_ nr_);replace ZL:=hd_ (ZL.o.below hb_ nr_);replace ZQ:=hd_ (ZQ.o.below hb_ nr_);replace ZH:=hd_ (ZH.o.below hb_ nr_);replace B:=bt_ B hb_;clear hb_ hi_;go_wp2_with fail;refine cm_ (II.o _ _ _ _ _ _ _ Z2.o ZQ.o HL.o.l8) ?_;rintro e_ v6_6 ⟨rfl,hb_⟩;replace YO:=hd_ (YO.o.below hb_ nr_);replace YT:=hd_ (YT.o.below hb_ nr_);replace ZL:=hd_ (ZL.o.below hb_ nr_);replace ZQ:=hd_ (ZQ.o.below hb_ nr_);replace ZH:=hd_ (ZH.o.below hb_ nr_);replace Z2:=hd_ (Z2.o.below hb_ nr_);replace B:=bt_ B hb_;clear hb_;clear Z2;clear ZQ;have fc:=Zw7 (x:=g*g/2^W*2^W) (y:=g*g);generalize GX:Vi (g*g/2^W*2^W) (g*g)=cv at *;clear GX
   go_upto_if 55 with fail
   go_cut [12] from 36 to 80 (fun hv wx=>∃ (ga:OA_) (gc:Nat),hv = .slice ga (wN (hiC W g)).length gc/\Hid (IsX wx ga gc (hiC W g))/\Hid (Bw_ v6_6 wx))
   case first =>
    by_cases heq:g*g/2^W*2^W=g*g
    ·rw[decide_eq_true heq] at fc;have gC:cv=0:=eq_of_beq fc;have He:=hd_ (Qfs heq);subst gC;clear heq fc;go_wp2_with fail
     go_meet
     exact⟨_,_,by rw[He.o],by rw[He.o];exact ZH,Below.refl _ _⟩
    ·rw[decide_eq_false heq] at fc;have gC:(cv != 0)=true:=by rw[bne,fc];rfl
     have gR:¬ cv=0:=fun h=>by rw[h] at fc;exact absurd fc (by decide)
     have He:=hd_ (Qfr heq);have l1:Qx 1:=HL.o.lb.le (by omega);clear heq;go_wp2_with fail;have gX:=(Below.refl v6_6.heap.size v6_6).alloc nr_ (.cells #[.int .u32 1] 131);have X1:=hd_ (IsX.one (Kj v6_6 #[.int .u32 1] 131 _ rfl));have MJ:=hd_ (ZH.o.below gX nr_);have HP:=hd_ (D3.o _ _ _ _ _ _ _ MJ.o X1.o HL.o.l7 l1);rw[Vd] at HP;refine cm_ HP.o ?_;rintro e_ y1 ⟨a1,c1,rfl,hi_,hb_⟩;have Hx:=hd_ hi_;have Hb:=hd_ (bv_ gX hb_);clear hi_ hb_ gX HP X1 MJ;go_wp2_with fail
     go_meet
     exact⟨_,_,by rw[He.o],by rw[He.o];exact Hx,Hb⟩
   case rest =>
   obtain⟨ga2,gc2,rfl,ZG,hBc⟩:=hcut;have YO:=hd_ (YO.o.below hBc.o nr_);have YT:=hd_ (YT.o.below hBc.o nr_);have ZL:=hd_ (ZL.o.below hBc.o nr_);have B:=bt_ B hBc.o;clear hBc ZH fc;go_wp2_with fail;refine cm_ (At.o _ _ _ _ YO.o HL.o.l3) ?_;rintro e_ v6_21 ⟨aZO,cZO,rfl,hi_,hb_⟩;have ZO:=hd_ hi_;replace YO:=hd_ (YO.o.below hb_ nr_);replace YT:=hd_ (YT.o.below hb_ nr_);replace ZL:=hd_ (ZL.o.below hb_ nr_);replace ZG:=hd_ (ZG.o.below hb_ nr_);replace B:=bt_ B hb_;clear hb_ hi_;clear YO;go_wp2_with fail;refine cm_ (II.o _ _ _ _ _ _ _ ZL.o YT.o HL.o.l6) ?_;rintro e_ v6_22 ⟨rfl,hb_⟩;replace YT:=hd_ (YT.o.below hb_ nr_);replace ZL:=hd_ (ZL.o.below hb_ nr_);replace ZG:=hd_ (ZG.o.below hb_ nr_);replace ZO:=hd_ (ZO.o.below hb_ nr_);replace B:=bt_ B hb_;clear hb_;generalize GX:Vi (l*l/2^W) (2^(W+1))=cv at *;have CA:=Zch (x:=l*l/2^W) (y:=2^(W+1));rw[GX] at CA;clear GX;have GH:=gZ.o;clear gZ
   by_cases h1:2^(W+1)<=l*l/2^W
   ·rw[if_pos h1] at GH;obtain rfl:=Option.some.inj GH;have gC:0<=cv:=CA.2 h1;have l1:Qx 1:=HL.o.lb.le (by omega);clear GH h1 CA;go_wp2_with fail;have gX:=(Below.refl v6_22.heap.size v6_22).alloc nr_ (.cells #[.int .u32 1] 131);have X1:=hd_ (IsX.one (Kj v6_22 #[.int .u32 1] 131 _ rfl));replace YT:=hd_ (YT.o.below gX nr_);replace ZL:=hd_ (ZL.o.below gX nr_);replace ZG:=hd_ (ZG.o.below gX nr_);replace ZO:=hd_ (ZO.o.below gX nr_);replace B:=bt_ B gX;clear gX;have HP:=hd_ (D3.o _ _ _ _ _ _ _ ZO.o X1.o HL.o.la l1);rw[Vd] at HP;refine cm_ (HP.o) ?_;rintro e_ v8_41 ⟨aZP,cZP,rfl,hi_,hb_⟩;have ZP:=hd_ hi_;replace YT:=hd_ (YT.o.below hb_ nr_);replace ZL:=hd_ (ZL.o.below hb_ nr_);replace ZG:=hd_ (ZG.o.below hb_ nr_);replace ZO:=hd_ (ZO.o.below hb_ nr_);replace X1:=hd_ (X1.o.below hb_ nr_);replace B:=bt_ B hb_;clear hb_ hi_;clear X1;clear ZO;clear HP;go_wp2_with fail;refine cm_ (IS.o _ _ _ _ ZL.o HL.o.l6) ?_;rintro e_ v8_42 ⟨aZM,cZM,rfl,hi_,hb_⟩;have ZM:=hd_ hi_;replace YT:=hd_ (YT.o.below hb_ nr_);replace ZL:=hd_ (ZL.o.below hb_ nr_);replace ZG:=hd_ (ZG.o.below hb_ nr_);replace ZP:=hd_ (ZP.o.below hb_ nr_);replace B:=bt_ B hb_;clear hb_ hi_;clear ZL;go_wp2_with fail;have gX:=(Below.refl v8_42.heap.size v8_42).alloc nr_ (.cells #[.int .u32 1] 131);have X1:=hd_ (IsX.one (Kj v8_42 #[.int .u32 1] 131 _ rfl));replace YT:=hd_ (YT.o.below gX nr_);replace ZG:=hd_ (ZG.o.below gX nr_);replace ZP:=hd_ (ZP.o.below gX nr_);replace ZM:=hd_ (ZM.o.below gX nr_);replace B:=bt_ B gX;clear gX;have HP:=hd_ (D3.o _ _ _ _ _ _ _ ZG.o X1.o HL.o.l9 l1);rw[Vd] at HP;refine cm_ (HP.o) ?_;rintro e_ v8_43 ⟨aZN,cZN,rfl,hi_,hb_⟩;have ZN:=hd_ hi_;replace YT:=hd_ (YT.o.below hb_ nr_);replace ZG:=hd_ (ZG.o.below hb_ nr_);replace ZP:=hd_ (ZP.o.below hb_ nr_);replace ZM:=hd_ (ZM.o.below hb_ nr_);replace X1:=hd_ (X1.o.below hb_ nr_);replace B:=bt_ B hb_;clear hb_ hi_;clear X1;clear ZG;clear HP;go_wp2_with fail;refine cm_ (IS.o _ _ _ _ ZN.o HL.o.lb) ?_;rintro e_ v8_44 ⟨aZK,cZK,rfl,hi_,hb_⟩;have ZK:=hd_ hi_;replace YT:=hd_ (YT.o.below hb_ nr_);replace ZP:=hd_ (ZP.o.below hb_ nr_);replace ZM:=hd_ (ZM.o.below hb_ nr_);replace ZN:=hd_ (ZN.o.below hb_ nr_);replace B:=bt_ B hb_;clear hb_ hi_;clear ZN;go_wp2_with fail;have ho:o*2^1+1=2*o+1:=by rw[Nat.pow_one];omega
    rw[ho] at ZP ⊢
    go_roundw
    case rel=>exact⟨i+1,l*l/2^W/2,(hiC W g+1)/2,2*o+1,_,_,_,_,_,_,by omega,rfl,rfl,rfl,by go_num,Ht,ZP,ZM,ZK,YT,B⟩
    case measure=>simp[intOf];omega
   ·rw[if_neg h1] at GH
    by_cases h2:2^(W+1)<=hiC W g
    ·rw[if_pos h2] at GH;cases GH
    rw[if_neg h2] at GH;obtain rfl:=Option.some.inj GH;have gC:¬ 0<=cv:=fun h=>h1 (CA.1 h)
    clear GH h1 CA;go_wp2_with fail;refine cm_ (II.o _ _ _ _ _ _ _ ZG.o YT.o HL.o.l9) ?_;rintro e_ v8_61 ⟨rfl,hb_⟩;replace YT:=hd_ (YT.o.below hb_ nr_);replace ZL:=hd_ (ZL.o.below hb_ nr_);replace ZG:=hd_ (ZG.o.below hb_ nr_);replace ZO:=hd_ (ZO.o.below hb_ nr_);replace B:=bt_ B hb_;clear hb_;generalize GX:Vi (hiC W g) (2^(W+1))=CG at *;have CA:=Zch (x:=hiC W g) (y:=2^(W+1));rw[GX] at CA;have gR:¬ 0<=CG:=fun h=>h2 (CA.1 h)
    clear GX CA h2;go_wp2_with fail;have ho:o*2^1=2*o:=by rw[Nat.pow_one];omega
    rw[ho] at ZO ⊢
    go_roundw
    case rel=>exact⟨i+1,l*l/2^W,hiC W g,2*o,_,_,_,_,_,_,by omega,rfl,rfl,rfl,by go_num,Ht,ZO,ZL,ZG,YT,B⟩
    case measure=>simp[intOf];omega
  ·obtain rfl:i=n:=by omega
   have dt:=IW.o;rw[HR.o] at dt;obtain rfl:=Option.some.inj dt;clear dt IW H7;go_wp2_with fail
   go_ret2
   exact⟨_,_,rfl,YO.o,B.o⟩
theorem Zcc{n:Nat}(h:n<10^400):Qx n:=by
 have h2:n<4294967296^1000:=Nat.lt_of_lt_of_le h (by decide +kernel);exact Nat.le_trans (Zlt h2) (by decide)
theorem Zf7{n:Nat}(h:n<10^400):(dec n).size<=400:=by
 rw[Kt];exact(Ku n 400 (by decide)).2 h
theorem Zja(w:World)(q:Rat)(hq:Sm 400 q):
  Calls Tryz.prog 145 #[fr q] w fun e w'=>∃ a c b d,e = .returned (.tuple #[frX q.num a c q.den b d,.bool true])/\IsX w' a c q.num.natAbs/\IsX w' b d q.den/\Bw_ w w':=by
 unfold frX fr fv;have LU:=hd_ (fun V=>Zea V q.num (Zf7 hq.1));have bT:=hd_ (fun V=>Zea V (q.den:Int) (by rw[Int.natAbs_natCast];exact Zf7 hq.2));simp only[Zhq,Int.natAbs_natCast,Kh] at bT;unfold igV at LU;have hg:Nat.gcd q.num.natAbs q.den=1:=q.reduced;have GS:=Zl.2 q.den_pos;have l1:Qx q.num.natAbs:=Zcc hq.1;have l2:Qx q.den:=Zcc hq.2;have HC:=hd_ (fun V r1 s1 r2 s2 (k1:IsX V r1 s1 q.num.natAbs) (k2:IsX V r2 s2 q.den)=>Zpi V r1 r2 s1 s2 _ _ k1 k2 l1 l2);rw[hg] at HC;unfold Ye at HC;have HO:=hd_ (fun V r1 s1 r2 s2 (k1:IsX V r1 s1 1) (k2:IsX V r2 s2 1)=>Zar V r1 r2 s1 s2 1 1 k1.1 k2.1 (by rw[Vd];decide));rw[show Vi 1 1=0 from rfl,Vd] at HO;rw[Vd] at HC;have Mj:(((wN q.den).length:Int)==0)=false:=by rw[beq_eq_false_iff_ne];omega
 clear hg l1 l2 hq GS;generalize decide (q.num<0)=s at *;generalize q.num.natAbs=n at *;generalize q.den=d at *;generalize itx q.num=sn at *;generalize dec d=sd at *;have K0:=Kj w #[.string sn,.string sd] 101 _ rfl;have e1:(w.alloc (.cells #[.string sn,.string sd] 101)).heap.size=w.heap.size+1:=by simp
 have NB:=hd_ (Ki K0 (.cells #[.bool false,.slice none 0 0,.slice none 0 0] 121));have NR:=hd_ (Kj (w.alloc (.cells #[.string sn,.string sd] 101)) #[.bool false,.slice none 0 0,.slice none 0 0] 121 _ e1);have B:=hd_ (((Below.refl w.heap.size w).alloc nr_ (.cells #[.string sn,.string sd] 101)).alloc (by rw[e1];omega) (.cells #[.bool false,.slice none 0 0,.slice none 0 0] 121));obtain⟨k0,k1,-,-⟩:=Ka NB.o;clear K0 e1;go_enter Tryz.func145,Tryz.ntmps145;go_wp2_with fail;generalize (w.alloc (.cells #[.string sn,.string sd] 101)).alloc (.cells #[.bool false,.slice none 0 0,.slice none 0 0] 121)=W0 at *;clear k0 k1;refine cm_ (LU.o _) ?_;rintro e w1 ⟨a,c,rfl,hi,hb⟩;have gH:=hb.trans (((Below.refl w1.heap.size w1).alloc nr_ (.cells #[.bool s,.slice a (wN n).length c] 119)).mono hb.size);have T4:=hd_ (Kj w1 #[.bool s,.slice a (wN n).length c] 119 _ rfl);have X1:=hd_ (hi.below ((Below.refl w1.heap.size w1).alloc nr_ (.cells #[.bool s,.slice a (wN n).length c] 119)) nr_);replace NB:=hk_ NB gH;replace NR:=hk_ NR gH;replace B:=bt_ B gH;obtain⟨k0,k1,-,-⟩:=Ka NB.o;clear gH hi hb LU;go_wp2_with fail;generalize hg4:w1.heap.size=g4 at *;generalize w1.alloc (.cells #[.bool s,.slice a (wN n).length c] 119)=W1 at *;clear k0 k1 hg4;refine cm_ (bT.o _) ?_;rintro e w2 ⟨b,d',rfl,hi,hb⟩;have gH:=hb.trans (((Below.refl w2.heap.size w2).alloc nr_ (.cells #[.bool false,.slice b (wN d).length d'] 119)).mono hb.size);have T6:=hd_ (Kj w2 #[.bool false,.slice b (wN d).length d'] 119 _ rfl);have X2:=hd_ (hi.below ((Below.refl w2.heap.size w2).alloc nr_ (.cells #[.bool false,.slice b (wN d).length d'] 119)) nr_);replace X1:=hd_ (X1.o.below gH nr_);replace T4:=hk_ T4 gH;replace NR:=hk_ NR gH;replace B:=bt_ B gH;obtain⟨k0,k1,-,-⟩:=Ka T4.o;obtain⟨k2,k3,-,-⟩:=Ka T6.o;clear gH hi hb bT NB;go_wp2_with fail;generalize hg6:w2.heap.size=g6 at *;generalize w2.alloc (.cells #[.bool false,.slice b (wN d).length d'] 119)=W2 at *;clear k0 k1 k2 k3 hg6;refine cm_ (HC.o _ _ _ _ _ X1.o X2.o) ?_;rintro e w3 ⟨r,rc,rfl,hi,hb⟩;have gH:=hb.trans (((Below.refl w3.heap.size w3).alloc nr_ (.cells #[.int .u32 1] 131)).mono hb.size);have O1:=hd_ (IsX.one (Kj w3 #[.int .u32 1] 131 _ rfl));have X3:=hd_ (hi.below ((Below.refl w3.heap.size w3).alloc nr_ (.cells #[.int .u32 1] 131)) nr_);replace X1:=hd_ (X1.o.below gH nr_);replace X2:=hd_ (X2.o.below gH nr_);replace T4:=hk_ T4 gH;replace T6:=hk_ T6 gH;replace NR:=hk_ NR gH;replace B:=bt_ B gH;clear gH hi hb HC;go_wp2_with fail;generalize hg7:w3.heap.size=g7 at *;generalize w3.alloc (.cells #[.int .u32 1] 131)=W3 at *;clear hg7;refine cm_ (HO.o _ _ _ _ _ X3.o O1.o) ?_;rintro e w4 ⟨rfl,hb⟩;replace X1:=hd_ (X1.o.below hb nr_);replace X2:=hd_ (X2.o.below hb nr_);replace T4:=hk_ T4 hb;replace T6:=hk_ T6 hb;replace NR:=hk_ NR hb;replace B:=bt_ B hb;obtain⟨k0,k1,-,-⟩:=Ka T4.o;obtain⟨k2,k3,-,-⟩:=Ka T6.o;obtain⟨k0_,k1_,k2_,f_⟩:=Kf NR.o;have gZ:=hd_ (Zc (.bool s) (.slice a (wN n).length c) (.slice b (wN d).length d') k0_ k1_ k2_ (show w.heap.size<=w.heap.size+1 by omega) B.o);have GC:=Zbw NR.o;have Et:=f_ 0;have Es:=f_ 1;have iz:=f_ 2;clear hb HO X3 O1;go_wp2_with fail;obtain⟨c0_,c1_,c2_,hb_⟩:=gZ.o;exact bodyPost_ret (v := .tuple #[.agg #[.bool s,.slice a (wN n).length c,.slice b (wN d).length d'],.bool true]) (by simp[results,Tryz.results145,go_sem,c0_,c1_,c2_]) rfl ⟨a,c,b,d',rfl,X1.o.set3 GC _ _ _,X2.o.set3 GC _ _ _,hb_⟩
theorem Zy2(w:World)(q:Rat)(hq:Sm 400 q):Kc Tryz.prog 144 #[fr q] w (.bool true):=by
 unfold Kc;have HP:=hd_ (fun V=>Zja V q hq);unfold frX fr fv at HP;unfold fr fv;generalize decide (q.num<0)=s at *;generalize itx q.num=sn at *;generalize dec q.den=sd at *;have N0:=Kj w #[.string sn,.string sd] 101 _ rfl;have B:=hd_ ((Below.refl w.heap.size w).alloc nr_ (.cells #[.string sn,.string sd] 101));obtain⟨k0,k1,-,-⟩:=Ka N0;clear N0;go_enter Tryz.func144,Tryz.ntmps144;go_wp2_with fail;refine cm_ (HP.o _) ?_;rintro e w1 ⟨a,c,b,d,rfl,-,-,hb⟩;have B1:=hd_ ((bu_ B hb).alloc (bu_ B hb).size (.cells #[.bool s,.slice a (wN q.num.natAbs).length c,.slice b (wN q.den).length d] 121));clear hb HP B k0 k1;go_wp2_with fail;go_ret;exact⟨rfl,B1.o⟩
theorem Qc.same{w w':World}{a:OA_}{l:List Nat}(h:Qc w a l)(hh:∀ k,k<w.heap.size->w'.heap[k]?=w.heap[k]?):Qc w' a l:=by
 rcases h with h|⟨b,off,h1,⟨c2,h2⟩,h3⟩
 ·exact .inl h
 ·have H7:=Zqv h2;refine .inr ⟨b,off,h1,⟨c2,(hh b H7).trans h2⟩,fun i hi=>?_⟩;rw[<- h3 i hi];simp only[World.cell?,hh b H7]
theorem IsX.grown{w w':World}{base size n c m:Nat}{e:TypeId}{v:Value}{xs:List Value}{a:OA_}(h:IsX w a c m)(ho:w.ownsRow base e size v n xs)(he:e≠131)(hg:w.grownBy w' v.ownBlock):IsX w' a c m:=by
 refine⟨?_,h.2⟩;rcases ho.2 with⟨rfl,-⟩|⟨g,cap,cur,rfl,-,h2,-⟩
 ·exact h.1.same fun k hk=>hg.block k hk (by simp[Value.ownBlock])
 ·exact h.1.other h2 he fun k hk gj=>hg.block k hk (by simp only[Value.ownBlock,ne_eq,Option.some.injEq];exact gj)
def Ziq (w:World) (V:List Value) (l:List Rat):Prop:=∀ i,i<l.length->∃ a c b d,V[i*3]?=some (.bool (decide ((l.getD i 0).num<0)))/\V[i*3+1]?=some (.slice a (wN (l.getD i 0).num.natAbs).length c)/\V[i*3+2]?=some (.slice b (wN (l.getD i 0).den).length d)/\IsX w a c (l.getD i 0).num.natAbs/\IsX w b d (l.getD i 0).den
theorem Ziq.map{w w':World}{V:List Value}{l:List Rat}(h:Ziq w V l)(hh:∀ a c n,IsX w a c n->IsX w' a c n):Ziq w' V l:=fun i hi=>by
 obtain⟨a,c,b,d,h1,h2,h3,h4,h5⟩:=h i hi;exact⟨a,c,b,d,h1,h2,h3,hh _ _ _ h4,hh _ _ _ h5⟩
theorem Ziq.push{w:World}{V:List Value}{l:List Rat}{q:Rat}{a b:OA_}{c d:Nat}(h:Ziq w V l)(hV:V.length=l.length*3)(h1:IsX w a c q.num.natAbs)(h2:IsX w b d q.den):
  Ziq w (V++[.bool (decide (q.num<0)),.slice a (wN q.num.natAbs).length c,.slice b (wN q.den).length d]) (l++[q]):=fun i hi=>by
 rw[List.length_append,List.length_singleton] at hi;rcases Nat.lt_or_ge i l.length with H7|Bm
 ·obtain⟨a',c',b',d',g1,g2,g3,g4,g5⟩:=h i H7;have e:(l++[q]).getD i 0=l.getD i 0:=by rw[List.getD_eq_getElem?_getD,List.getElem?_append_left H7,<- List.getD_eq_getElem?_getD]
  rw[e,List.getElem?_append_left (by omega),List.getElem?_append_left (by omega),List.getElem?_append_left (by omega)];exact⟨a',c',b',d',g1,g2,g3,g4,g5⟩
 ·obtain rfl:i=l.length:=by omega
  have e:(l++[q]).getD l.length 0=q:=by rw[List.getD_eq_getElem?_getD,List.getElem?_append_right nr_,Nat.sub_self];rfl
  rw[e,List.getElem?_append_right (by omega),List.getElem?_append_right (by omega),List.getElem?_append_right (by omega),hV,Nat.sub_self,show l.length*3+1-l.length*3=1 by omega,show l.length*3+2-l.length*3=2 by omega];exact⟨a,c,b,d,rfl,rfl,rfl,h1,h2⟩
theorem Qfo:(Tryz.prog.info? 121).map (fun i=>(i.zero,i.size,i.bytes))=some (some (.agg #[.bool false,.slice none 0 0,.slice none 0 0]),3,56):=by kernel_rfl
theorem Qhn:Zal Tryz.prog 113 121 (.agg #[.bool false,.slice none 0 0,.slice none 0 0]) 3 56:=⟨Tryz.underlying113,info_parts Qfo,rfl,by decide⟩
theorem Zmy(w:World)(a:OA_)(c:Nat)(l:List Rat)(hr:Rd w a (Kk l))(hs:∀ q∈l,Sm 400 q)(hl:l.length<=1000):
  Calls Tryz.prog 62 #[.slice a l.length c] w fun e w'=>∃ r rc V,e = .returned (.tuple #[.slice r l.length rc,.bool true])/\w'.ownsRow w.heap.size 121 3 (.slice r l.length rc) l.length V/\Ziq w' V l/\Bw_ w w':=by
 have Hr:=hd_ hr;have Hs:=hd_ hs;clear hr hs;obtain⟨n,hn⟩:∃ n,l.length=n:=⟨_,rfl⟩;have Hn:=hd_ hn;rw[hn] at hl ⊢;clear hn;go_enter Tryz.func62,Tryz.ntmps62;go_wp2_with fail
 go_loopw [4,11] (fun ov iv wr=>∃ (k:Nat) (r:OA_) (rc:Nat) (V:List Value),k<=n/\ov = .slice r k rc/\iv = .int .i64 k/\Hid (wr.ownsRow w.heap.size 121 3 (.slice r k rc) k V)/\Hid (Ziq wr V (l.take k))/\Hid (Bw_ w wr)) (fun _ iv _=>n-(intOf iv).toNat)
 case atStart=>exact⟨0,none,0,[],Nat.zero_le _,rfl,rfl,World.ownsRow_nil ..,fun i hi=>by simp at hi,Below.refl _ _⟩
 case round =>
  obtain⟨k,r,rc,V,hk,rfl,rfl,HO,HF,B⟩:=hrel
  by_cases H7:k<n
  ·have Ga:k<l.length:=by rw[Hn.o];exact H7
   obtain⟨b,off,rfl,hb,hcells⟩:=Hr.o.open (by rw[Ks,Hn.o];omega);obtain⟨x0,x1⟩:=Qf hcells k (by rw[List.length_map];exact Ga);rw[<- B.o.cell (p:=⟨b,off+k*2,none⟩) hb,Qb _ k Ga] at x0;rw[<- B.o.cell (p:=⟨b,off+k*2+1,none⟩) hb,Qb _ k Ga] at x1;have hq:=Hs.o _ (List.getElem_mem Ga);have ef:Hid (l.take (k+1)=l.take k++[l[k]]):=by show _=_;rw[List.take_succ_eq_append_getElem Ga]
   have jV:Hid ((l.take k).length=k):=by show _=_;rw[List.length_take,Hn.o];omega
   generalize l[k]=q at *;have HP:=hd_ (fun W=>Zja W q hq);unfold frX fr fv at HP;simp only[qs] at x0 x1;have gi:(k:Int)<n:=by omega
   clear hcells hq Ga;obtain⟨sq,aW⟩:∃ s,decide (q.num<0)=s:=⟨_,rfl⟩;rw[aW] at HP;have Ov:=hd_ aW;clear aW;have gH:=(Below.refl wr.heap.size wr).alloc nr_ (.cells #[.string (itx q.num),.string (dec q.den)] 101);have N6:=hd_ (Kj wr #[.string (itx q.num),.string (dec q.den)] 101 _ rfl);obtain⟨k0,k1,-,-⟩:=Ka N6.o;have fO:=hd_ (Kv HO.o gH nr_);have Nd:=hd_ (HF.o.map fun _ _ _ h=>h.below gH nr_);have B1:=bt_ B gH;clear HO HF B gH N6;go_wp2_with fail;generalize wr.alloc (.cells #[.string (itx q.num),.string (dec q.den)] 101)=W1 at *;clear x0 x1 k0 k1;refine cm_ (HP.o W1) ?_;rintro e w2 ⟨ra,ca,rb,cb,rfl,h1,h2,HU⟩;have gH:=HU.trans (((Below.refl w2.heap.size w2).alloc nr_ (.cells #[.bool sq,.slice ra (wN q.num.natAbs).length ca,.slice rb (wN q.den).length cb] 121)).mono HU.size);have BE:=(Below.refl w2.heap.size w2).alloc nr_ (.cells #[.bool sq,.slice ra (wN q.num.natAbs).length ca,.slice rb (wN q.den).length cb] 121);have N7:=hd_ (Kj w2 #[.bool sq,.slice ra (wN q.num.natAbs).length ca,.slice rb (wN q.den).length cb] 121 _ rfl);obtain⟨k0,k1,k2,-⟩:=Kf N7.o;have Fx:=hd_ (Kv fO.o gH nr_);have Nc:=hd_ (Nd.o.map fun _ _ _ h=>h.below gH nr_);have X1:=hd_ (h1.below BE nr_);have X2:=hd_ (h2.below BE nr_);have B2:=bt_ B1 gH;clear fO Nd B1 gH BE h1 h2 HU HP N7;generalize jB:(wN q.num.natAbs).length=m1 at *;generalize El:(wN q.den).length=m2 at *;have OO:=hd_ jB;have Lf:=hd_ El;clear jB El;generalize ip:w2.alloc (.cells #[.bool sq,.slice ra m1 ca,.slice rb m2 cb] 121)=W2 at *;have fy:=hd_ B2.o.size
   go_wp2_with (at_builtin;refine Kw rfl (.tmp 22) (.tmp 24) 113 rfl Qhn _ 1 [.bool sq,.slice ra m1 ca,.slice rb m2 cb] rfl rfl Fx.o fy.o rfl (by simp[Value.oneCell']) (by omega) (by omega) ?_)
   intro v' w5 gk gL GD;obtain⟨a3,d3,rfl⟩:=Qj gk;have Dv:=(Below.refl W2.heap.size W2).alloc nr_ (.cells #[.bool sq,.slice ra m1 ca,.slice rb m2 cb] 121);have li:=Kv Fx.o Dv nr_;have Cy:∀ a c n,IsX W2 a c n->IsX w5 a c n:=fun a c n h=>(h.below Dv nr_).grown li (by decide) gL
   have OZ:Hid (Ziq w5 (V++[.bool sq,.slice ra m1 ca,.slice rb m2 cb]) (l.take (k+1))):=by
    have h:=(Nc.o.map Cy).push (q:=q) (by rw[jV.o];exact Fx.o.1) (Cy _ _ _ X1.o) (Cy _ _ _ X2.o);rw[Ov.o,OO.o,Lf.o,<- ef.o] at h;exact h
   have LX:=hd_ gk;have B5:=hd_ ((bu_ B2 Dv).grown gL (Nat.le_trans B2.o.size Dv.size) (fun j hj=>(li.lt j hj).1));clear gk gL GD Dv li Cy Nc Fx X1 X2 B2;go_wp2_with fail;refine⟨⟨k+1,a3,d3,_,by omega,rfl,by go_num,LX,OZ,B5⟩,by simp[intOf];omega⟩
  ·obtain rfl:k=n:=by omega
   have ef:Hid (Ziq wr V l):=by have:=HF.o;rwa [List.take_of_length_le (by rw[Hn.o];exact Nat.le_refl _)] at this
   clear HF;go_wp2_with fail
   go_ret2
   exact⟨r,rc,V,rfl,HO.o,ef.o,B.o⟩
theorem Ziy(w:World)(z:Int)(hz:(dec z.natAbs).size<=30):Kc Tryz.prog 143 #[.string (itx z)] w (.bool true):=by
 unfold Kc
 by_cases h:z<0
 ·obtain⟨n,rfl⟩:∃ n:Nat,z = -(n:Int):=⟨z.natAbs,by omega⟩;have hn:1<=n:=by omega
  have Ge:=Ve n hn;have eB:∀ W,(Instr.index 38 (.string (itx (-(n:Int)))) (.int .i64 0)).run Tryz.prog W = .ok (.int .u8 45) W:=fun W=>by
   rw[Qbo W _ (by omega),Yw n hn];rfl
  rw[show (-(n:Int)).natAbs=n by omega] at hz;obtain⟨m,hm⟩:∃ m,(itx (-(n:Int))).size=m+1:=⟨(dec n).size,Ge⟩;have Cb:m<=30:=by omega
  have Gs:(0:Int)<((m+1:Nat):Int):=by omega
  have G9:((m+1:Nat):Int)-1<=30:=by omega
  have hw:IntKind.i64.wrap (m:Int)=m:=iw_ _ (by omega);have JJ:(m:Int)<=30:=by omega
  clear hz Ge h;generalize itx (-(n:Int))=s at *;go_enter Tryz.func143,Tryz.ntmps143;go_wp2;go_ret;exact⟨by first | rfl | simp,Below.refl _ _⟩
 ·obtain⟨n,rfl⟩:∃ n:Nat,z=(n:Int):=⟨z.natAbs,by omega⟩;have eB:∀ W,(Instr.index 38 (.string (dec n)) (.int .i64 0)).run Tryz.prog W = .ok (.int .u8 ((lb (dec n)).getD 0 0).toNat) W:=fun W=>Qbo W _ (Zs n)
  have hf:=Zc0 n;have Gs:=Zs n;rw[Int.natAbs_natCast] at hz;rw[Kh];obtain⟨m,hm⟩:∃ m,(dec n).size=m:=⟨_,rfl⟩;rw[hm] at hz Gs;have mV:(0:Int)<m:=by omega
  have G9:(m:Int)<=30:=by omega
  clear h Gs;generalize dec n=s at *;generalize ((lb s).getD 0 0).toNat=c at *;have hc:((c:Int)==45)=false:=by rw[beq_eq_false_iff_ne];omega
  go_enter Tryz.func143,Tryz.ntmps143;go_wp2;go_ret;exact⟨by first | rfl | simp,Below.refl _ _⟩
theorem Zuk:∀ p∈Vj,∀ d,2<=d->d<p.toNat->p.toNat%d≠0:=by
 have h:∀ p∈Vj,∀ d,d<14->2<=d->d<p.toNat->p.toNat%d≠0:=by decide
 intro p hp d h2 hd;have Oc:∀ p∈Vj,p.toNat<=13:=by decide
 exact h p hp d (by have:=Oc p hp;omega) h2 hd
theorem Zka:∀ p∈Vj,2<=p/\p<=13:=by decide
theorem Zfs(w:World)(p:Int)(hp:p∈Vj):Kc Tryz.prog 146 #[.int .i64 p] w (.bool true):=by
 unfold Kc;have Hm:=hd_ (Zuk p hp);have hl:=Zka p hp;obtain⟨n,rfl⟩:=Int.eq_ofNat_of_zero_le (show 0<=p by omega);rw[Int.toNat_natCast] at Hm;have Ca:2<=n:=by omega
 have og:n<=13:=by omega
 have h1:¬ ((n:Nat):Int)<2:=by omega
 have h2:¬ (97:Int)<n:=by omega
 clear hp hl;go_enter Tryz.func146,Tryz.ntmps146;go_wp2_with fail
 go_loop [3] (fun dv=>∃ d:Nat,2<=d/\d<=n/\dv = .int .i64 d) (fun dv=>n-(intOf dv).toNat)
 case atStart=>exact⟨2,Nat.le_refl _,Ca,rfl⟩
 case round =>
  obtain⟨d,fT,hdn,rfl⟩:=hrel
  by_cases H7:d<n
  ·have hm:Int.tmod (n:Int) d=((n%d:Nat):Int):=by rw[Int.tmod_eq_emod_of_nonneg (by omega)];rfl
   have Cb:(n:Int)%d=((n%d:Nat):Int):=rfl;have gj:=Hm.o d fT H7;have hz:(((n%d:Nat):Int)==0)=false:=by rw[beq_eq_false_iff_ne];omega
   have GS:((d:Int)==0)=false:=by rw[beq_eq_false_iff_ne];omega
   have oK:¬ (d:Int)=0:=by omega
   have Bf:n%d<n:=Nat.lt_of_lt_of_le (Nat.mod_lt _ (by omega)) hdn;generalize n%d=r at *;go_wp2
   go_round
   case rel=>exact⟨d+1,by omega,by omega,by go_num⟩
   case measure=>simp[intOf];omega
  ·obtain rfl:d=n:=by omega
   go_wp2;go_ret;exact⟨rfl,Below.refl _ _⟩
theorem Zoe(w:World)(a:OA_)(c:Nat)(ps:List Int)(hr:Rd w a (Vk ps))(hs:∀ p∈ps,p∈Vj)(ho:∀ i,0<i->i<ps.length->ps.getD (i-1) 0<ps.getD i 0)(h0:0<ps.length)(h6:ps.length<=6):
  Kc Tryz.prog 142 #[.slice a ps.length c] w (.bool true):=by
 unfold Kc;obtain⟨b,o,rfl,hb,hc⟩:=hr.open (by rw[Qp];exact h0);have Hc:Hid (∀ i,i<ps.length->w.cell? ⟨b,o+i,none⟩=some (.int .i64 (ps.getD i 0))):=fun i hi=>hc i _ (by rw[Ym ps i hi,List.getD_eq_getElem?_getD,List.getElem?_eq_getElem hi];rfl)
 have HP:=hd_ (fun W i (hi:i<ps.length)=>Zfs W (ps.getD i 0) (hs _ (by rw[List.getD_eq_getElem?_getD,List.getElem?_eq_getElem hi];exact List.getElem_mem hi)));have HB:=hd_ (fun i (hi:i<ps.length)=>Zka (ps.getD i 0) (hs _ (by rw[List.getD_eq_getElem?_getD,List.getElem?_eq_getElem hi];exact List.getElem_mem hi)));have HO:=hd_ ho;clear hs ho hc hr;obtain⟨n,hn⟩:∃ n,ps.length=n:=⟨_,rfl⟩;rw[hn] at h0 h6 HO HP Hc HB ⊢;clear hn;have ES:(0:Int)<n:=by omega
 have pJ:(n:Int)<=6:=by omega
 go_enter Tryz.func142,Tryz.ntmps142;go_wp2_with fail
 go_loopw [7] (fun iv wr=>∃ k:Nat,k<=n/\iv = .int .i64 k/\Hid (Bw_ w wr)) (fun iv _=>n-(intOf iv).toNat)
 case atStart=>exact⟨0,Nat.zero_le _,rfl,Below.refl _ _⟩
 case round =>
  obtain⟨k,hk,rfl,B⟩:=hrel
  by_cases H7:k<n
  ·have gi:(k:Int)<n:=by omega
   have ck:=Hc.o k H7;rw[<- B.o.cell (p:=⟨b,o+k,none⟩) hb] at ck;have hp:=hd_ (HP.o wr k H7);have Mp:=HB.o k H7;rcases Nat.eq_zero_or_pos k with Ee|Ee
   ·subst Ee;generalize ps.getD 0 0=x at *;rw[Nat.add_zero] at ck;have m8:¬ (0:Int)<((0:Nat):Int):=by omega
    go_wp2_with fail;refine cm_ hp.o ?_;rintro e w2 ⟨rfl,HU⟩;have B2:=bt_ B HU;clear HU hp B ck;go_wp2_with fail
    go_roundw
    case rel=>exact⟨1,by omega,by go_num,B2⟩
    case measure=>simp[intOf];omega
   ·obtain⟨j,rfl⟩:∃ j,k=j+1:=⟨k-1,by omega⟩;have cj:=Hc.o j (by omega);have dh:=HO.o (j+1) Ee H7;rw[Nat.add_sub_cancel] at dh;generalize ps.getD j 0=y at *;generalize ps.getD (j+1) 0=x at *;have m8:(0:Int)<((j+1:Nat):Int):=by omega
    have pN:IntKind.i64.wrap (((j+1:Nat):Int)-1)=(j:Int):=by rw[show ((j+1:Nat):Int)-1=(j:Int) by omega];exact iw_ _ (by omega)
    have fB:¬ x<=y:=by omega
    go_wp2_with fail;refine cm_ hp.o ?_;rintro e w2 ⟨rfl,HU⟩;have B2:=bt_ B HU;have Pp:w2.cell? ⟨b,o+j,none⟩=some (.int .i64 y):=by rw[B2.o.cell (p:=⟨b,o+j,none⟩) hb];exact cj
    clear HU hp B ck cj;go_wp2_with fail
    go_roundw
    case rel=>exact⟨j+1+1,by omega,by go_num,B2⟩
    case measure=>simp[intOf];omega
  ·obtain rfl:k=n:=by omega
   go_wp2_with fail;go_ret;exact⟨rfl,B.o⟩
theorem Zl8(w:World)(a0 a:OA_)(c0 c:Nat)(ps:List Int)(l:List Rat)(hp:Rd w a0 (Vk ps))(hr:Rd w a (Kk l))(hs:∀ p∈ps,p∈Vj)(ho:∀ i,0<i->i<ps.length->ps.getD (i-1) 0<ps.getD i 0)(h0:0<ps.length)(h6:ps.length<=6)(hl:l.length=ps.length)(hq:∀ q∈l,Sm 30 q):
  Kc Tryz.prog 61 #[.slice a0 ps.length c0,.slice a l.length c] w (.bool true):=by
 unfold Kc;have HP:=hd_ (Zoe w a0 c0 ps hp hs ho h0 h6);have Hr:=hd_ hr;have Hq:=hd_ hq;clear hp hr hs ho hq;rw[<- hl] at HP h0 h6 ⊢;clear hl;obtain⟨n,hn⟩:∃ n,l.length=n:=⟨_,rfl⟩;have Hn:=hd_ hn;rw[hn] at HP h0 h6 ⊢;clear hn;have FK:((n:Int) != n)=false:=by simp
 go_enter Tryz.func61,Tryz.ntmps61;go_wp2_with fail;refine cm_ HP.o ?_;rintro e w1 ⟨rfl,hb⟩;have B1:=hd_ hb;clear hb HP;go_wp2_with fail
 go_loopw [19] (fun iv wr=>∃ k:Nat,k<=n/\iv = .int .i64 k/\Hid (Bw_ w wr)) (fun iv _=>n-(intOf iv).toNat)
 case atStart=>exact⟨0,Nat.zero_le _,rfl,B1⟩
 case round =>
  obtain⟨k,hk,rfl,B⟩:=hrel;clear B1
  by_cases H7:k<n
  ·have Ga:k<l.length:=by rw[Hn.o];exact H7
   obtain⟨b,off,rfl,hb,hcells⟩:=Hr.o.open (by rw[Ks,Hn.o];omega);obtain⟨x0,x1⟩:=Qf hcells k (by rw[List.length_map];exact Ga);rw[<- B.o.cell (p:=⟨b,off+k*2,none⟩) hb,Qb _ k Ga] at x0;rw[<- B.o.cell (p:=⟨b,off+k*2+1,none⟩) hb,Qb _ k Ga] at x1;have hq:=Hq.o _ (List.getElem_mem Ga);generalize l[k]=q at *;have S1:=hd_ (fun W=>Ziy W q.num (by rw[Kt];exact(Ku _ 30 (by decide)).2 hq.1));have S2:=hd_ (fun W=>Ziy W (q.den:Int) (by rw[Int.natAbs_natCast,Kt];exact(Ku _ 30 (by decide)).2 hq.2));have S3:=hd_ (fun W=>Zy2 W q (hq.le (by decide)));simp only[Kh] at S2;unfold fr fv at S3;simp only[qs] at x0 x1;have gi:(k:Int)<n:=by omega
   clear hcells hq Ga;generalize itx q.num=sn at *;generalize dec q.den=sd at *;have gH:=(Below.refl wr.heap.size wr).alloc nr_ (.cells #[.string sn,.string sd] 101);have N6:=hd_ (Kj wr #[.string sn,.string sd] 101 _ rfl);obtain⟨k0,k1,-,-⟩:=Ka N6.o;have B1:=bt_ B gH;clear B gH;go_wp2_with fail;generalize wr.alloc (.cells #[.string sn,.string sd] 101)=W1 at *;generalize wr.heap.size=g at *;clear x0 x1 k0 k1;refine cm_ (S1.o W1) ?_;rintro e w2 ⟨rfl,HU⟩;replace N6:=hk_ N6 HU;replace B1:=bt_ B1 HU;obtain⟨k0,k1,-,-⟩:=Ka N6.o;clear HU;go_wp2_with fail;clear k0 k1;refine cm_ (S2.o w2) ?_;rintro e w3 ⟨rfl,HU⟩;replace N6:=hk_ N6 HU;replace B1:=bt_ B1 HU;obtain⟨k0,k1,-,-⟩:=Ka N6.o;clear HU;go_wp2_with fail;clear k0 k1;refine cm_ (S3.o w3) ?_;rintro e w4 ⟨rfl,HU⟩;replace B1:=bt_ B1 HU;clear HU S1 S2 S3 N6;go_wp2_with fail
   go_roundw
   case rel=>exact⟨k+1,by omega,by go_num,B1⟩
   case measure=>simp[intOf];omega
  ·obtain rfl:k=n:=by omega
   go_wp2_with fail;go_ret;exact⟨rfl,B.o⟩
def Qbw (w w':World) (B R P:Nat) (st:Option (Bool×Nat×Nat)) (e:Ending):Prop :=
 w.grownBy w' (some R)/\match st with
  | none=>e = .returned (.tuple #[.bool false,.bool false])
  | some x=>e = .returned (.tuple #[.bool x.1,.bool true])/\Zxs w' B R P x.2.1 x.2.2
theorem Za4{w w':World}{R:Nat}(h:Bw_ w w'):w.grownBy w' (some R):=⟨h.os,h.tape,h.output,h.size,fun k hk _=>h.block k hk⟩
theorem Zm4(W:World)(R j:Nat)(v:Value):W.grownBy (W.setCell ⟨R,j,none⟩ v) (some R) :=
 ⟨rfl,rfl,rfl,(KeepsWalks.setCell W _ v).size,fun k _ hk=>Below.heap_setCell _ _ _ k (fun e=>hk (by rw[e]))⟩
theorem Qv.grown{w w':World}{B R:Nat}{a:OA_}{c:Nat}{l:List Nat}(h:Qv w B a c l)(hg:w.grownBy w' (some R))(hR:R<B):Qv w' B a c l:=by
 refine World.ownsRow.kept h hg ?_;cases hv:(Value.slice a l.length c).ownBlock with
 | none=>simp
 | some k =>
  have:=(World.ownsRow.lt h k hv).1
  exact .inr (fun e=>by cases e;omega)
theorem Zl0{w:World}{R:Nat}{x y z x' y':Value}{t:TypeId}(h:w.heap[R]?=some (.cells #[x,y,z] t (0,0))):
  ((w.setCell ⟨R,0,none⟩ x').setCell ⟨R,1,none⟩ y').heap[R]?=some (.cells #[x',y',z] t (0,0)):=by
 have H7:=lt_of_block h;have h':w.heap[R] = .cells #[x,y,z] t (0,0):=by simpa [Array.getElem?_eq_getElem H7] using h
 have e1:(w.setCell ⟨R,0,none⟩ x').heap[R]?=some (.cells #[x',y,z] t (0,0)):=by
  show (w.heap.modify R _)[R]?=_
  rw[Array.getElem?_eq_getElem (by simpa using H7),Array.getElem_modify_self,h'];rfl
 have Gc:=lt_of_block e1;have EZ:(w.setCell ⟨R,0,none⟩ x').heap[R] = .cells #[x',y,z] t (0,0):=by simpa [Array.getElem?_eq_getElem Gc] using e1
 show ((w.setCell ⟨R,0,none⟩ x').heap.modify R _)[R]?=_
 rw[Array.getElem?_eq_getElem (by simpa using Gc),Array.getElem_modify_self,EZ];rfl
theorem MaS.put{w w0:World}{B R P C:Nat}{a1 a2 b1 b2:OA_}{c1 c2 d1 d2:Nat}{L H L' H':List Nat}(h:MaS w B R P a1 c1 L a2 c2 H)(hC:R<C)(o1:Qv w C b1 d1 L')(o2:Qv w C b2 d2 H')(p1:Wds L')(p2:Wds H')(hg:w0.grownBy w (some R)):
  MaS ((w.setCell ⟨R,0,none⟩ (.slice b1 L'.length d1)).setCell ⟨R,1,none⟩ (.slice b2 H'.length d2)) C R P b1 d1 L' b2 d2 H'/\w0.grownBy ((w.setCell ⟨R,0,none⟩ (.slice b1 L'.length d1)).setCell ⟨R,1,none⟩ (.slice b2 H'.length d2)) (some R):=by
 have g2:=Qi (Zm4 w R 0 (.slice b1 L'.length d1)) (Zm4 _ R 1 (.slice b2 H'.length d2));exact⟨⟨Zl0 h.ob,o1.grown g2 hC,o2.grown g2 hC,p1,p2⟩,Qi hg g2⟩
theorem MaS.mono{w:World}{B C R P:Nat}{a1 a2:OA_}{c1 c2:Nat}{L H:List Nat}(h:MaS w C R P a1 c1 L a2 c2 H)(hB:B<=C):MaS w B R P a1 c1 L a2 c2 H :=
 ⟨h.ob,h.o1.mono hB,h.o2.mono hB,h.p1,h.p2⟩
theorem Qdt(w:World)(B R P lo hi:Nat)(M:Zxs w B R P lo hi)(hP:P<=2000)(hB:B<=w.heap.size)(G9:lo<=hi)
  (dp:∀ x,Zf3 (2^P) lo hi=some x->x.2.1<18446744073709551616^(P/64+2)/\x.2.2<18446744073709551616^(P/64+2)) :
  Calls Tryz.prog 293 #[.pointer (some ⟨R,0,none⟩)] w fun e w'=>Qbw w w' B R P (Zf3 (2^P) lo hi) e:=by
 obtain⟨a1,c1,L,a2,c2,H,S,jL,l1,l2,v1,v2⟩:=M;obtain⟨wo,hwo⟩:∃ wo,P/64=wo:=⟨_,rfl⟩;obtain⟨r,hr⟩:∃ r,P%64=r:=⟨_,rfl⟩;have jI:P=64*wo+r:=by omega
 have Cr:r<64:=by omega
 have Ad:R<w.heap.size:=(Array.getElem?_eq_some_iff.1 S.ob).1;obtain⟨k0,k1,k2,kf⟩:=Kf S.ob;rw[l1] at k0;rw[l2] at k1;rw[hwo] at k0 k1 l1 l2 dp;have HP:=hd_ jI;have NJ:wo<=40:=by omega
 have jU:=hd_ hwo;have IG:Hid (∀ W,Bw_ w W->Calls Tryz.prog 306 #[.slice a1 (wo+2) c1] W fun e w'=>∃ a c LL,e = .returned (.slice a (2*(wo+2)+1) c)/\LL.length=2*(wo+2)+1/\Qv w' W.heap.size a c LL/\Wds LL/\vW LL=lo*lo/\Bw_ W w'):=fun W hW=>by
  have:=Zix W a1 c1 L (S.o1.reads.below hW nr_) S.p1 (by omega)
  rw[l1,v1] at this;exact this
 have Aw:Hid (∀ W,Bw_ w W->Calls Tryz.prog 306 #[.slice a2 (wo+2) c2] W fun e w'=>∃ a c LL,e = .returned (.slice a (2*(wo+2)+1) c)/\LL.length=2*(wo+2)+1/\Qv w' W.heap.size a c LL/\Wds LL/\vW LL=hi*hi/\Bw_ W w'):=fun W hW=>by
  have:=Zix W a2 c2 H (S.o2.reads.below hW nr_) S.p2 (by omega)
  rw[l2,v2] at this;exact this
 have HS:=hd_ S;have EG:=hd_ dp
 -- the shifts
 have IE:Hid (∀ W a c (LL:List Nat) v,Kx W a LL->Wds LL->LL.length=2*(wo+2)+1->vW LL=v->Calls Tryz.prog 307 #[.slice a (2*(wo+2)+1) c,.int .i64 P] W fun e w'=>∃ a c S,e = .returned (.slice a (wo+5) c)/\S.length=wo+5/\Qv w' W.heap.size a c S/\Wds S/\vW S=v/2^P/\Bw_ W w'):=fun W a c LL v h1 h2 h3 h4=>by
  have:=Zg5 W a c LL P wo r jI Cr h1 h2 (by omega) (by omega)
  rw[h3,show 2*(wo+2)+1-wo=wo+5 by omega] at this;refine this.mono ?_;rintro e w' ⟨a',c',rfl,ho,hb⟩;refine⟨a',c',_,rfl,Vc ..,ho,Zn6 h2 Cr,?_,hb⟩;rw[Zn7 h2 Cr (by omega),h4,<- jI]
 have j9:Hid (∀ W a c (LL:List Nat) k v,Kx W a LL->Wds LL->LL.length=k->0<k->k<=1000->vW LL=v->Calls Tryz.prog 308 #[.slice a k c] W fun e w'=>∃ a c S,e = .returned (.slice a (k+1) c)/\S.length=k+1/\Qv w' W.heap.size a c S/\Wds S/\vW S=v+1/\Bw_ W w'):=fun W a c LL k v h1 h2 h3 h0 hk h4=>by
  have:=Zy6 W a c LL h1 h2 (by omega) (by omega)
  rw[h3,h4] at this;exact this
 have LS:Hid (∀ W a c (LL:List Nat) k v,Kx W a LL->Wds LL->LL.length=k->wo+2<k->k<=1000->vW LL=v->Kc Tryz.prog 309 #[.slice a k c,.int .i64 ((P:Int)+1)] W (.bool (decide (2*2^P<=v)))):=fun W a c LL k v h1 h2 h3 h0 hk h4=>by
  have:=Zoc W a c LL (P+1) ((P+1)/64) ((P+1)%64) (by omega) (Nat.mod_lt _ (by decide)) h1 h2 (by omega) (by omega)
  rw[h3,h4,Nat.pow_succ,Nat.mul_comm] at this;exact this
 have Mv:IntKind.i64.wrap ((P:Int)+1)=(P:Int)+1:=iw_ _ (by omega);have At:Hid (∀ W a c (LL:List Nat) k v,Kx W a LL->Wds LL->LL.length=k->0<k->k<=1000->vW LL=v->Calls Tryz.prog 307 #[.slice a k c,.int .i64 1] W fun e w'=>∃ a c S,e = .returned (.slice a k c)/\S.length=k/\Qv w' W.heap.size a c S/\Wds S/\vW S=v/2/\Bw_ W w'):=fun W a c LL k v h1 h2 h3 h0 hk h4=>by
  have:=Zg5 W a c LL 1 0 1 rfl (by decide) h1 h2 (by omega) (by omega)
  rw[h3,Nat.sub_zero] at this;refine this.mono ?_;rintro e w' ⟨a',c',rfl,ho,hb⟩;refine⟨a',c',_,rfl,Vc ..,ho,Zn6 h2 (by decide),?_,hb⟩;rw[Zn7 h2 (by decide) (by omega),h4]
 have hq:Int.tdiv (P:Int) 64=(wo:Nat):=by rw[Int.tdiv_eq_ediv_of_nonneg (by omega)];omega
 have AN:(P:Int)/64=(wo:Nat):=by omega
 have Ct:IntKind.i64.wrap ((wo:Int)+2)=(wo:Int)+2:=iw_ _ (by omega);have OK:Hid (lo*lo/2^P<=hi*hi/2^P+1):=Nat.le_succ_of_le (Nat.div_le_div_right (Nat.mul_le_mul G9 G9));have gZ:Hid (Zf3 (2^P) lo hi=if 2*2^P<=lo*lo/2^P then some (true,lo*lo/2^P/2,(hi*hi/2^P+1)/2+1) else if 2*2^P<=hi*hi/2^P+1 then none else some (false,lo*lo/2^P,hi*hi/2^P+1)):=rfl;generalize Zf3 (2^P) lo hi=st at *;clear S dp l1 l2 v1 v2 jI hwo hr;have q0:=NW.cell k0;have q1:=NW.cell k1;have q2:=NW.cell k2;have gn:Nonempty (NW w):=⟨⟨w,Below.refl _ _⟩⟩;have I:Hid (Bw_ w w.drew):=(Below.refl _ _).drew;go_enter Tryz.func293,Tryz.ntmps293;go_wp2_with fail;refine wn_ 25 [(2,0),(2,1),(2,2),(2,3),(2,4),(1,5),(2,7),(2,8),(2,9),(1,10),(2,12),(2,13),(2,14),(1,15),(2,17),(2,18),(2,19),(1,20),(0,6),(0,11),(0,16),(0,21),(0,22),(2,23),(2,24),(0,25),(2,26),(2,27),(0,28)] I ?_;iterate 5 (refine wa_ rfl ?_;go_big_quiet_step (fail);refine wq_ ?_)
 refine wr_ rfl ?_;go_big_quiet_step (fail);refine wq_ ?_;iterate 3 (refine wa_ rfl ?_;go_big_quiet_step (fail);refine wq_ ?_)
 refine wr_ rfl ?_;go_big_quiet_step (fail);refine wq_ ?_;iterate 3 (refine wa_ rfl ?_;go_big_quiet_step (fail);refine wq_ ?_)
 refine wr_ rfl ?_;go_big_quiet_step (fail);refine wq_ ?_;iterate 3 (refine wa_ rfl ?_;go_big_quiet_step (fail);refine wq_ ?_)
 refine wr_ rfl ?_;go_big_quiet_step (fail);refine wq_ ?_;clear gn q0 q1 q2 k0 k1 k2;refine wm_ rfl ?_;go_wp2_with fail;refine cm_ (IG.o _ I.o) ?_;rintro e w1 ⟨b1,d1,L1,rfl,hl,ho,hp,hv,hb⟩;have I1:Hid (Bw_ w w1):=I.o.trans (hb.mono I.o.size);have Cm:=hd_ (And.intro hl hv);have O1:=hd_ ho;have P1:=hd_ hp;clear hl ho hp hv hb IG I;go_wp2_with fail;refine⟨⟨⟨_,I1.o⟩,rfl⟩,?_⟩;refine wm_ rfl ?_;go_wp2_with fail;refine cm_ (IE.o _ _ _ L1 (lo*lo) O1.o.reads P1.o Cm.o.1 Cm.o.2) ?_;rintro e w2 ⟨b2,d2,L2,rfl,hl,ho,hp,hv,hb⟩;have I2:Hid (Bw_ w w2):=I1.o.trans (hb.mono I1.o.size);have FR:=hd_ (And.intro hl hv);have O2:=hd_ (ho.mono I1.o.size);have P2:=hd_ hp;clear hl ho hp hv hb Cm O1 P1 I1;go_wp2_with fail;refine⟨⟨⟨_,I2.o⟩,rfl⟩,?_⟩;refine wm_ rfl ?_;go_wp2_with fail;refine cm_ (Aw.o _ I2.o) ?_;rintro e w3 ⟨b3,d3,L3,rfl,hl,ho,hp,hv,hb⟩;have I3:Hid (Bw_ w w3):=I2.o.trans (hb.mono I2.o.size);have iD:=hd_ (O2.o.below hb nr_);have mc:=hd_ (And.intro hl hv);have O3:=hd_ ho;have P3:=hd_ hp;clear hl ho hp hv hb Aw I2 O2;go_wp2_with fail;refine⟨⟨⟨_,I3.o⟩,rfl⟩,?_⟩;refine wm_ rfl ?_;go_wp2_with fail;refine cm_ (IE.o _ _ _ L3 (hi*hi) O3.o.reads P3.o mc.o.1 mc.o.2) ?_;rintro e w4 ⟨b4,d4,L4,rfl,hl,ho,hp,hv,hb⟩;have I4:Hid (Bw_ w w4):=I3.o.trans (hb.mono I3.o.size);have O2:=hd_ (iD.o.below hb nr_);have L9:=hd_ (And.intro hl hv);have O4:=hd_ ho;have P4:=hd_ hp;clear hl ho hp hv hb mc O3 P3 I3 iD;go_wp2_with fail;refine⟨⟨⟨_,I4.o⟩,rfl⟩,?_⟩;refine wm_ rfl ?_;go_wp2_with fail;refine cm_ (j9.o _ _ _ L4 (wo+5) (hi*hi/2^P) O4.o.reads P4.o L9.o.1 (by omega) (by omega) L9.o.2) ?_;rintro e w5 ⟨b5,d5,L5,rfl,hl,ho,hp,hv,hb⟩;have I5:Hid (Bw_ w w5):=I4.o.trans (hb.mono I4.o.size);have iD:=hd_ (O2.o.below hb nr_);have dM:=hd_ (And.intro hl hv);have O5:=hd_ (ho.mono I4.o.size);have P5:=hd_ hp;have LQ:=hd_ (HS.o.below I5.o);obtain⟨k0,k1,k2,kf⟩:=Kf LQ.o.ob;clear hl ho hp hv hb L9 O4 P4 I4 O2;go_wp2_with fail;refine⟨⟨⟨_,I5.o⟩,rfl⟩,?_⟩;iterate 2 (refine wa_ rfl ?_;go_big_quiet_step (fail);refine wq_ ?_)
 have ib:=kf 0;have Br:=kf 1;refine wm_ rfl ?_;go_wp2_with fail;iterate 2 (refine wa_ rfl ?_;go_big_quiet_step (fail);refine wq_ ?_)
 refine wm_ rfl ?_;go_wp2_with fail;simp only[RP.walkR];have GI:=LQ.o.put Ad iD.o O5.o P2.o P5.o (Za4 I5.o);rw[FR.o.1,dM.o.1] at GI;have lh:=GI.1;have G6:=hd_ GI.2;obtain⟨k0,k1,k2,kf⟩:=Kf lh.ob;rw[FR.o.1] at k0;rw[dM.o.1] at k1;have As:=hd_ lh;clear GI lh LQ iD O5 ib Br I5 HS;generalize (w5.setCell ⟨R,0,none⟩ (.slice b2 (wo+5) d2)).setCell ⟨R,1,none⟩ (.slice b5 (wo+5+1) d5)=w6 at *;have q0:=NW.cell k0;have q1:=NW.cell k1;have q2:=NW.cell k2;have gn:Nonempty (NW w6):=⟨⟨w6,Below.refl _ _⟩⟩;have I:Hid (Bw_ w6 w6.drew):=(Below.refl _ _).drew;go_wp2_with fail;refine wn_ 19 [(2,0),(2,1),(2,2),(1,3),(2,4),(2,5),(2,6),(1,7),(2,8),(2,10),(2,11),(2,12),(1,13),(2,14),(2,15),(2,16),(1,17),(2,18),(0,9),(0,19),(2,20),(2,21)] I ?_;iterate 3 (refine wa_ rfl ?_;go_big_quiet_step (fail);refine wq_ ?_)
 refine wr_ rfl ?_;go_big_quiet_step (fail);refine wq_ ?_;iterate 3 (refine wa_ rfl ?_;go_big_quiet_step (fail);refine wq_ ?_)
 refine wr_ rfl ?_;go_big_quiet_step (fail);refine wq_ ?_;iterate 4 (refine wa_ rfl ?_;go_big_quiet_step (fail);refine wq_ ?_)
 refine wr_ rfl ?_;go_big_quiet_step (fail);refine wq_ ?_;iterate 3 (refine wa_ rfl ?_;go_big_quiet_step (fail);refine wq_ ?_)
 refine wr_ rfl ?_;go_big_quiet_step (fail);refine wq_ ?_;refine wa_ rfl ?_;go_big_quiet_step (fail);refine wq_ ?_;clear gn q0 q1 q2 k0 k1 k2;refine wm_ rfl ?_;go_wp2_with fail;refine cm_ (LS.o _ _ _ L2 (wo+5) (lo*lo/2^P) ((As.o.o1.reads.below I.o nr_)) P2.o FR.o.1 (by omega) (by omega) FR.o.2) ?_;rintro e w7 ⟨rfl,hb⟩;have I7:Hid (Bw_ w6 w7):=I.o.trans (hb.mono I.o.size);clear hb I;go_wp2_with fail;refine⟨⟨⟨_,I7.o⟩,rfl⟩,?_⟩;refine wm_ rfl ?_;go_wp2_with fail;refine cm_ (LS.o _ _ _ L5 (wo+5+1) (hi*hi/2^P+1) ((As.o.o2.reads.below I7.o nr_)) P5.o dM.o.1 (by omega) (by omega) dM.o.2) ?_;rintro e w8 ⟨rfl,hb⟩;have I8:Hid (Bw_ w6 w8):=I7.o.trans (hb.mono I7.o.size);clear hb I7 LS;go_wp2_with fail;iterate 2 (refine wa_ rfl ?_;go_big_quiet_step (fail);refine wq_ ?_)
 simp only[RP.walkR];have EE:=hd_ (As.o.below I8.o);have G8:=hd_ (Qi G6.o (Za4 (R:=R) I8.o));clear As G6 I8;generalize lo*lo/2^P=M at *;generalize hi*hi/2^P+1=G at *;generalize 2*2^P=u2 at *
 by_cases cA:u2<=M
 ·have cB:u2<=G:=Nat.le_trans cA OK.o;have GH:st=some (true,M/2,G/2+1):=by rw[gZ.o,if_pos cA]
  subst GH;rw[decide_eq_true cA,decide_eq_true cB];obtain⟨k0,k1,k2,kf⟩:=Kf EE.o.ob;rw[FR.o.1] at k0;rw[dM.o.1] at k1;have q0:=NW.cell k0;have q1:=NW.cell k1;have gn:Nonempty (NW w8):=⟨⟨w8,Below.refl _ _⟩⟩;have I:Hid (Bw_ w8 w8.drew):=(Below.refl _ _).drew;clear k2 kf;go_wp2_with fail;refine wn_ 15 [(2,0),(2,1),(2,2),(2,3),(2,4),(1,5),(2,7),(2,8),(2,9),(1,10),(0,6),(0,11),(0,12),(2,13),(2,14),(0,15),(2,16),(2,17),(0,18)] I ?_;iterate 5 (refine wa_ rfl ?_;go_big_quiet_step (fail);refine wq_ ?_)
  refine wr_ rfl ?_;go_big_quiet_step (fail);refine wq_ ?_;iterate 3 (refine wa_ rfl ?_;go_big_quiet_step (fail);refine wq_ ?_)
  refine wr_ rfl ?_;go_big_quiet_step (fail);refine wq_ ?_;clear gn q0 q1 k0 k1;refine wm_ rfl ?_;go_wp2_with fail;refine cm_ (At.o _ _ _ L2 (wo+5) M (EE.o.o1.reads.below I.o nr_) P2.o FR.o.1 (by omega) (by omega) FR.o.2) ?_;rintro e w9 ⟨b6,d6,L6,rfl,hl,ho,hp,hv,hb⟩;have I9:Hid (Bw_ w8 w9):=I.o.trans (hb.mono I.o.size);have aC:=hd_ (And.intro hl hv);have O6:=hd_ (ho.mono I.o.size);have P6:=hd_ hp;clear hl ho hp hv hb I;go_wp2_with fail;refine⟨⟨⟨_,I9.o⟩,rfl⟩,?_⟩;refine wm_ rfl ?_;go_wp2_with fail;refine cm_ (At.o _ _ _ L5 (wo+5+1) G (EE.o.o2.reads.below I9.o nr_) P5.o dM.o.1 (by omega) (by omega) dM.o.2) ?_;rintro e w10 ⟨b7,d7,L7,rfl,hl,ho,hp,hv,hb⟩;have iG:Hid (Bw_ w8 w10):=I9.o.trans (hb.mono I9.o.size);have ML:=hd_ (O6.o.below hb nr_);have L0:=hd_ (And.intro hl hv);have O7:=hd_ ho;have P7:=hd_ hp;clear hl ho hp hv hb I9 O6;go_wp2_with fail;refine⟨⟨⟨_,iG.o⟩,rfl⟩,?_⟩;refine wm_ rfl ?_;go_wp2_with fail;refine cm_ (j9.o _ _ _ L7 (wo+5+1) (G/2) O7.o.reads P7.o L0.o.1 (by omega) (by omega) L0.o.2) ?_;rintro e w11 ⟨b8,d8,L8,rfl,hl,ho,hp,hv,hb⟩;have jQ:Hid (Bw_ w8 w11):=iG.o.trans (hb.mono iG.o.size);have O6:=hd_ (ML.o.below hb nr_);have aB:=hd_ (And.intro hl hv);have O8:=hd_ (ho.mono iG.o.size);have P8:=hd_ hp;have ar:=hd_ (EE.o.below jQ.o);obtain⟨k0,k1,k2,kf⟩:=Kf ar.o.ob;have ib:=kf 0;have Br:=kf 1;have Mu:=hd_ (Nat.lt_of_lt_of_le Ad G8.o.size);clear hl ho hp hv hb L0 O7 P7 iG ML EE;go_wp2_with fail;refine⟨⟨⟨_,jQ.o⟩,rfl⟩,?_⟩;iterate 2 (refine wa_ rfl ?_;go_big_quiet_step (fail);refine wq_ ?_)
  refine wm_ rfl ?_;go_wp2_with fail;iterate 2 (refine wa_ rfl ?_;go_big_quiet_step (fail);refine wq_ ?_)
  refine wm_ rfl ?_;go_wp2_with fail;simp only[RP.walkR];have GI:=ar.o.put Mu.o O6.o O8.o P6.o P8.o (Qi G8.o (Za4 (R:=R) jQ.o));rw[aC.o.1,aB.o.1] at GI;have FG:=hd_ GI.1;have pg:=hd_ GI.2;have pd:=hd_ G8.o.size;clear GI ar O6 O8 ib Br jQ k0 k1 k2 kf G8;generalize (w11.setCell ⟨R,0,none⟩ (.slice b6 (wo+5) d6)).setCell ⟨R,1,none⟩ (.slice b8 (wo+5+1+1) d8)=w12 at *;obtain⟨k0,k1,k2,kf⟩:=Kf FG.o.ob;rw[aC.o.1] at k0;rw[aB.o.1] at k1;have ii:wo+2<=d6:=by have:=FG.o.o1.cap;rw[aC.o.1] at this;omega
  have ig:wo+2<=d8:=by have:=FG.o.o2.cap;rw[aB.o.1] at this;omega
  have O1:=FG.o.o1.cut (wo+2) (by rw[aC.o.1];omega);have O2:=FG.o.o2.cut (wo+2) (by rw[aB.o.1];omega);have W1:=FG.o.p1.take (wo+2);have W2:=FG.o.p2.take (wo+2);have N1:(L6.take (wo+2)).length=wo+2:=by rw[List.length_take,aC.o.1];omega
  have N2:(L8.take (wo+2)).length=wo+2:=by rw[List.length_take,aB.o.1];omega
  have V1:vW (L6.take (wo+2))=M/2:=by rw[Zj1 FG.o.p1 (by rw[aC.o.1];omega),aC.o.2];exact Nat.mod_eq_of_lt (EG.o _ rfl).1
  have V2:vW (L8.take (wo+2))=G/2+1:=by rw[Zj1 FG.o.p2 (by rw[aB.o.1];omega),aB.o.2];exact Nat.mod_eq_of_lt (EG.o _ rfl).2
  have GI:=(FG.o.below (Qa w12 1)).put Mu.o (O1.below (Qa w12 1) nr_) (O2.below (Qa w12 1) nr_) W1 W2 (Qi pg.o (Za4 (R:=R) (Qa w12 1)));rw[N1,N2] at GI;have HF:=hd_ GI;have HV:=hd_ (And.intro V1 V2);have HN:=hd_ (And.intro N1 N2);clear O1 O2 W1 W2 N1 N2 V1 V2 GI;have ib:(w12.drewN 1).frozen? ⟨R,0,none⟩=false:=kf 0;have Br:(w12.drewN 1).frozen? ⟨R,1,none⟩=false:=kf 1;have q0:=NW.cell k0;have q1:=NW.cell k1;have gn:Nonempty (NW w12):=⟨⟨w12,Below.refl _ _⟩⟩;have I:Hid (Bw_ w12 w12.drew):=(Below.refl _ _).drew;have JH:(wo:Int)+2<=(wo:Int)+5:=by omega
  have Gc:(wo:Int)+2<=(wo:Int)+5+1+1:=by omega
  have fJ:min (5:Int) 2=2:=by decide
  have Cb:min ((wo:Int)+5+1+1) ((wo:Int)+2)=(wo:Int)+2:=by omega
  have NS:((wo:Int)+2).toNat=wo+2:=by omega
  go_wp2_with fail;refine wn_ 28 [(2,0),(2,1),(2,2),(2,3),(2,4),(1,5),(2,6),(2,7),(2,8),(1,9),(2,10),(2,11),(2,12),(2,13),(2,14),(2,15),(2,16),(1,17),(2,18),(2,19),(2,20),(1,21),(2,22),(2,23),(2,24),(2,25),(2,26),(2,27),(0,28),(2,29),(2,30),(0,31)] I ?_;iterate 5 (refine wa_ rfl ?_;go_big_quiet_step (fail);refine wq_ ?_)
  refine wr_ rfl ?_;go_big_quiet_step (fail);refine wq_ ?_;iterate 3 (refine wa_ rfl ?_;go_big_quiet_step (fail);refine wq_ ?_)
  refine wr_ rfl ?_;go_big_quiet_step (fail);refine wq_ ?_;iterate 7 (refine wa_ rfl ?_;go_big_quiet_step (fail);refine wq_ ?_)
  refine wr_ rfl ?_;go_big_quiet_step (fail);refine wq_ ?_;iterate 3 (refine wa_ rfl ?_;go_big_quiet_step (fail);refine wq_ ?_)
  refine wr_ rfl ?_;go_big_quiet_step (fail);refine wq_ ?_;iterate 6 (refine wa_ rfl ?_;go_big_quiet_step (fail);refine wq_ ?_)
  iterate 1 (refine wm_ rfl ?_;go_wp2_with fail)
  iterate 2 (refine wa_ rfl ?_;go_big_quiet_step (fail);refine wq_ ?_)
  iterate 1 (refine wm_ rfl ?_;go_wp2_with fail)
  simp only[RP.walkR];go_wp2_with fail
  go_ret2
  refine⟨HF.o.2,rfl,⟨_,_,_,_,_,_,HF.o.1.mono (Nat.le_trans hB pd.o),jL,?_,?_,HV.o.1,HV.o.2⟩⟩
  ·rw[jU.o];exact HN.o.1
  ·rw[jU.o];exact HN.o.2
 ·by_cases cB:u2<=G
  ·have GH:st=none:=by rw[gZ.o,if_neg cA,if_pos cB]
   subst GH;rw[decide_eq_false cA,decide_eq_true cB];go_wp2_with fail
   go_ret2
   exact⟨G8.o,rfl⟩
  ·have GH:st=some (false,M,G):=by rw[gZ.o,if_neg cA,if_neg cB]
   subst GH;rw[decide_eq_false cA,decide_eq_false cB];obtain⟨k0,k1,k2,kf⟩:=Kf EE.o.ob;rw[FR.o.1] at k0;rw[dM.o.1] at k1;have ii:wo+2<=d2:=by have:=EE.o.o1.cap;rw[FR.o.1] at this;omega
   have ig:wo+2<=d5:=by have:=EE.o.o2.cap;rw[dM.o.1] at this;omega
   have O1:=EE.o.o1.cut (wo+2) (by rw[FR.o.1];omega);have O2:=EE.o.o2.cut (wo+2) (by rw[dM.o.1];omega);have W1:=EE.o.p1.take (wo+2);have W2:=EE.o.p2.take (wo+2);have N1:(L2.take (wo+2)).length=wo+2:=by rw[List.length_take,FR.o.1];omega
   have N2:(L5.take (wo+2)).length=wo+2:=by rw[List.length_take,dM.o.1];omega
   have V1:vW (L2.take (wo+2))=M:=by rw[Zj1 EE.o.p1 (by rw[FR.o.1];omega),FR.o.2];exact Nat.mod_eq_of_lt (EG.o _ rfl).1
   have V2:vW (L5.take (wo+2))=G:=by rw[Zj1 EE.o.p2 (by rw[dM.o.1];omega),dM.o.2];exact Nat.mod_eq_of_lt (EG.o _ rfl).2
   have GI:=(EE.o.below (Qa w8 1)).put Ad (O1.below (Qa w8 1) nr_) (O2.below (Qa w8 1) nr_) W1 W2 (Qi G8.o (Za4 (R:=R) (Qa w8 1)));rw[N1,N2] at GI;have HF:=hd_ GI;have HV:=hd_ (And.intro V1 V2);have HN:=hd_ (And.intro N1 N2);clear O1 O2 W1 W2 N1 N2 V1 V2 GI;have ib:(w8.drewN 1).frozen? ⟨R,0,none⟩=false:=kf 0;have Br:(w8.drewN 1).frozen? ⟨R,1,none⟩=false:=kf 1;have q0:=NW.cell k0;have q1:=NW.cell k1;have gn:Nonempty (NW w8):=⟨⟨w8,Below.refl _ _⟩⟩;have I:Hid (Bw_ w8 w8.drew):=(Below.refl _ _).drew;have JH:(wo:Int)+2<=(wo:Int)+5:=by omega
   have Gc:(wo:Int)+2<=(wo:Int)+5+1:=by omega
   have fJ:min (5:Int) 2=2:=by decide
   have Cb:min ((wo:Int)+5+1) ((wo:Int)+2)=(wo:Int)+2:=by omega
   have NS:((wo:Int)+2).toNat=wo+2:=by omega
   go_wp2_with fail;refine wn_ 28 [(2,0),(2,1),(2,2),(2,3),(2,4),(1,5),(2,6),(2,7),(2,8),(1,9),(2,10),(2,11),(2,12),(2,13),(2,14),(2,15),(2,16),(1,17),(2,18),(2,19),(2,20),(1,21),(2,22),(2,23),(2,24),(2,25),(2,26),(2,27),(0,28),(2,29),(2,30),(0,31)] I ?_;iterate 5 (refine wa_ rfl ?_;go_big_quiet_step (fail);refine wq_ ?_)
   refine wr_ rfl ?_;go_big_quiet_step (fail);refine wq_ ?_;iterate 3 (refine wa_ rfl ?_;go_big_quiet_step (fail);refine wq_ ?_)
   refine wr_ rfl ?_;go_big_quiet_step (fail);refine wq_ ?_;iterate 7 (refine wa_ rfl ?_;go_big_quiet_step (fail);refine wq_ ?_)
   refine wr_ rfl ?_;go_big_quiet_step (fail);refine wq_ ?_;iterate 3 (refine wa_ rfl ?_;go_big_quiet_step (fail);refine wq_ ?_)
   refine wr_ rfl ?_;go_big_quiet_step (fail);refine wq_ ?_;iterate 6 (refine wa_ rfl ?_;go_big_quiet_step (fail);refine wq_ ?_)
   iterate 1 (refine wm_ rfl ?_;go_wp2_with fail)
   iterate 2 (refine wa_ rfl ?_;go_big_quiet_step (fail);refine wq_ ?_)
   iterate 1 (refine wm_ rfl ?_;go_wp2_with fail)
   simp only[RP.walkR];go_wp2_with fail
   go_ret2
   refine⟨HF.o.2,rfl,⟨_,_,_,_,_,_,HF.o.1.mono hB,jL,?_,?_,HV.o.1,HV.o.2⟩⟩
   ·rw[jU.o];exact HN.o.1
   ·rw[jU.o];exact HN.o.2
end Go.Proofs.YtbielfplgbammaaGreatDoor
