/- Lemmas for the laws of this seat, part 4. -/
import Derived.Shelf.Lays7
import Derived.Shelf.Spec.BitsCarry
import Derived.Laws.BitsLemmas
import Derived.Deep.CutRange
import Derived.WalkMore
import Derived.Scope
import Derived.Test.YtbielfplgbammaaGreatDoorTd3
set_option maxRecDepth 100000
set_option maxHeartbeats 16000000
namespace Go.Proofs.YtbielfplgbammaaGreatDoor
open Go.RowKit
theorem Zlx:blN 0=0:=rfl
theorem Zx4{n m:Nat}(h:n<2^m):blN n<=m:=by
 rcases Nat.eq_zero_or_pos n with h0|h0
 ·rw[h0,Zlx];exact Nat.zero_le _
 ·have h1:=Zn7 h0;have h2:=(Nat.pow_lt_pow_iff_right (a:=2) (by decide)).1 (Nat.lt_of_le_of_lt h1 h);omega
theorem Zly(x:Nat):blN x<=32*(wN x).length:=Zx4 (by rw[Nat.pow_mul];exact Qco x)
theorem Zil(w:World)(a1:OA_)(c1 x:Nat)(h1:Qg w a1 (wN x))(l1:Vf x):
  Kc Tryz.prog 222 #[.slice a1 (wN x).length c1] w (.int .i64 (blN x)):=by
 unfold Kc;unfold Vf at l1;have eW:=Zly x;rcases Nat.eq_zero_or_pos x with h0|h0
 ·subst h0;rw[Zlx,Vg];go_enter Tryz.func222,Tryz.ntmps222;go_wp2;go_ret;exact⟨rfl,Below.refl _ _⟩
 ·have GI:=Zx.2 h0;have dp:=hd_ (fun m=>Qel (n:=x) (m:=m) rfl);have P1:=hd_ (Zcx x);generalize wN x=p at *;obtain⟨b,hb⟩:∃ b,blN x=b:=⟨_,rfl⟩;rw[hb] at eW dp ⊢;clear hb;obtain⟨m,hm⟩:∃ m,p.length=m+1:=⟨p.length-1,by omega⟩;obtain⟨b1,o1,rfl,hZ,gG⟩:=h1.open GI;have cx:=gG m (by omega);have hx:=P1.o.getD m;have Ht:=hd_ (dp.o m hm);rw[hm] at l1 eW ⊢;clear gG h1 dp GI hm P1;generalize p.getD m 0=t at *;have f7:((m+1:Nat):Int)-1=m:=by omega
  have gh:(((m+1:Nat):Int)==0)=false:=by rw[beq_eq_false_iff_ne];omega
  have eG:((m:Int)+1)-1=m:=by omega
  have aq:(((m:Int)+1)==0)=false:=by rw[beq_eq_false_iff_ne];omega
  go_enter Tryz.func222,Tryz.ntmps222;go_wp2_with fail
  go_loop [3,4] (fun nv xv=>∃ i j:Nat,nv = .int .i64 i/\xv = .int .u32 j/\j<4294967296/\i<=b/\Hid (i+blN j=b)) (fun _ xv=>(intOf xv).toNat)
  case atStart =>
   refine⟨32*m,t,by go_num,rfl,hx,?_,?_⟩
   ·have:=Ht.o;omega
   ·show _=_;have:=Ht.o;omega
  case round =>
   obtain⟨i,j,rfl,rfl,hj,hi,HJ⟩:=hrel;rcases Nat.eq_zero_or_pos j with Jv|Jv
   ·subst Jv;have Hv:Hid (i=b):=by show _=_;have:=HJ.o;rw[Zlx] at this;exact this
    go_wp2;go_ret;exact⟨by rw[Hv.o];rfl,Below.refl _ _⟩
   ·have PZ:(0:Int)<j:=by omega
    have nx:(j:Int)/2=((j/2:Nat):Int):=by omega
    have Lr:(j:Int)/2^1=((j/2:Nat):Int):=by rw[Int.pow_succ,Int.pow_zero,Int.one_mul];exact nx
    have GL:Hid (i+1+blN (j/2)=b):=by show _=_;have:=HJ.o;rw[Qbd j Jv] at this;omega
    have ET:i+1<=b:=by have:=GL.o;omega
    have H7:j/2<j:=by omega
    generalize j/2=z at *;go_wp2
    go_round
    case rel=>exact⟨i+1,z,by go_num,by first | rfl | rw[nx] | rw[Lr],by omega,ET,GL⟩
    case measure=>simp[intOf];omega
theorem Zt8(w:World)(a:OA_)(c:Nat)(l:List Nat)(hr:Qg w a l)(hl:l.length<=2000000)(h0:0<l.length):
  Calls Tryz.prog 274 #[.slice a l.length c] w fun e w'=>∃ g d,e = .returned (.slice (some ⟨g,0,none⟩) l.length d)/\Zef w' w.heap.size (some ⟨g,0,none⟩) d l/\Bw_ w w':=by
 obtain⟨i0,hi,hz0,fE,fM⟩:=info_parts Qgc;have oG:∀ (w:World) (a:OA_) (n c n' c':Nat),(binOp .eql 117 (.slice a n c) (.slice none n' c')).run Tryz.prog w = .ok (.bool a.isNone) w:=fun w a n c n' c'=>Lib.run_eql_slice_nil w _ _ a n c n' c' Tryz.underlying117
 obtain⟨b,o,rfl,GO,fH⟩:=hr.open h0;have Hc:Hid (∀ j u,(Zee l)[j]?=some u->w.cell? ⟨b,o+j,none⟩=some u):=fun j u hj=>by
  have H7:j<l.length:=by
   have:=(List.getElem?_eq_some_iff.1 hj).1
   rw[Zz] at this;exact this
  rw[Zqv l j H7] at hj;rw[<- hj];exact fH j H7
 have eK:Hid (∀ u∈Zee l,u.oneCell'=true):=Zys l;have gt:Hid ((Zee l).length=l.length):=Zz l;clear fH hr;unfold Zef;generalize Zee l=vs at *;generalize l.length=n at *;go_enter Tryz.func274,Tryz.ntmps274
 go_wp2_with (at_builtin;refine wpList_append_own _ rfl _ _ 117 rfl w.heap.size 131 i0 (.int .u32 0) 1 4 Tryz.underlying117 hi hz0 fE fM rfl (by decide) _ _ _ rfl (World.ownsRow_made w #[] 0 nr_ (Nat.zero_le _) rfl) ⟨b,o,none⟩ n c vs rfl ?qc1 ?qc2 ?qc3 ?qc4 ?qc5 ?qc6 ?_)
 case qc1=>rw[gt.o];omega
 case qc2 =>
  intro j u hj;rw[Addr.add_lit];exact Lib.cell?_alloc_some _ (Hc.o j u hj)
 case qc3=>exact eK.o
 case qc4=>unfold maxLen;omega
 case qc5=>omega
 case qc6=>simp
 intro v' w1 gl gJ GN;obtain⟨a3,d3,rfl⟩:=Qp gl;have G9:w1.ownsRow w.heap.size 131 1 (.slice a3 n d3) n vs:=by simpa using gl
 have B:=hd_ (((Below.refl _ w).alloc nr_ (.cells #[] 131)).grown gJ (by simp) (by intro k hk;simp[Value.ownBlock] at hk;omega));obtain⟨g,cap,hv,-,-,-,-,-⟩:=Qz G9 h0;simp only[Value.slice.injEq] at hv;obtain⟨rfl,-,rfl⟩:=hv;have O:=hd_ G9;clear gl G9 gJ GN;go_wp2_with fail;go_ret;exact⟨g,d3,rfl,O.o,B.o⟩
/-! Shifts to the left. -/
structure ShX (p:List Nat) (B wo r n k:Nat) (M:List Nat) (w wr:World):Prop where
 len:M.length=n
 pcs:PcX M
 v:vX M=4294967296^wo*(vX (p.take k)*2^r)
 z:∀ j,wo+k<j->M.getD j 0=0
 low:M.getD (wo+k) 0<2^r
 own:Zef wr B (some ⟨B,0,none⟩) n M
 bel:Below B w wr
theorem ShX.start(p:List Nat)(w:World)(wo r n:Nat)(hn:n<=100000000):ShX p w.heap.size wo r n 0 (List.replicate n 0) w (w.alloc (.cells (Zee (List.replicate n 0)).toArray 131)):=by
 have h:=PlX.start p p w n hn;exact⟨h.len,h.pcs,by simp[Zgh,vX],fun j _=>h.z j (Nat.zero_le _),by rw[h.z _ (Nat.zero_le _)];exact Nat.two_pow_pos _,h.own,h.bel⟩
theorem Zna{e z:Nat}(he:e<4294967296)(hz:z<4294967296):bits .or .u32 (e:Int) (z:Int)=((e ||| z:Nat):Int) :=
 (bits_nat .u32 32 (by decide) (fun n h0 h1=>by rw[IntKind.wrap_u32];omega) e z (by omega) (by omega)).2
theorem Zks(w:World)(a1:OA_)(c1 x b wo r:Nat)(e:b=32*wo+r)(hr:r<32)(h1:Qg w a1 (wN x))(l1:Vf x)(hwo:wo<=1000000):
  Yk 223 #[.slice a1 (wN x).length c1,.int .i64 b] w (x*2^b):=by
 unfold Yk;unfold Vf at l1;have H1:=hd_ h1;have P1:=hd_ (Zcx x);have V1:=hd_ (Zdw x);have He:=hd_ e;clear h1;generalize wN x=p at *;obtain⟨n,hn⟩:∃ n,p.length=n:=⟨_,rfl⟩;have Hn:=hd_ hn;rw[hn] at l1 ⊢;clear hn;have hq:Int.tdiv (b:Int) 32=(wo:Nat):=by rw[Int.tdiv_eq_ediv_of_nonneg (by omega)];omega
 have Ia:(b:Int)/32=(wo:Nat):=by omega
 have ht:Int.tmod (b:Int) 32=(r:Nat):=by rw[Int.tmod_eq_emod_of_nonneg (by omega)];omega
 have MS:(b:Int)%32=(r:Nat):=by omega
 have Fv:IntKind.u64.wrap (r:Int)=r:=Qq _ (by omega);have Gr:¬ (b:Int)<0:=by omega
 have fN:=Zht (wo+n+1) w (by omega);have HS:=hd_ (ShX.start p w wo r (wo+n+1) (by omega))
 push_cast at fN
 clear e;generalize w.alloc (.cells (Zee (List.replicate (wo+n+1) 0)).toArray 131)=w1 at *;go_enter Tryz.func223,Tryz.ntmps223;go_wp2_with fail
 go_loopw [85] (fun i wr=>∃ (k:Nat) (M:List Nat),k<=n/\i = .int .i64 k/\Hid (ShX p w.heap.size wo r (wo+n+1) k M w wr)) (fun i _=>n-(intOf i).toNat)
 case atStart=>exact⟨0,_,Nat.zero_le _,rfl,HS⟩
 case round =>
  obtain⟨k,M,hk,rfl,HI⟩:=hrel;clear HS fN
  by_cases H7:k<n
  ·obtain⟨g,hg,fF,hg2,hg3,hg4,hg5⟩:=HI.o.own.open (by rw[HI.o.len];omega);obtain rfl:w.heap.size=g:=by simpa using hg
   clear hg;have ce:=hg4 (wo+k) (by rw[HI.o.len];omega);have bO:=hg4 (wo+k+1) (by rw[HI.o.len];omega);have fe:=hg5 (wo+k);have ik:=hg5 (wo+k+1);clear hg3 hg4 hg5;obtain⟨b1,o1,rfl,hZ,gG⟩:=H1.o.open (by rw[Hn.o];omega);have cx:=gG k (by rw[Hn.o];exact H7);rw[<- HI.o.bel.cell (p:=⟨b1,o1+k,none⟩) hZ] at cx;clear gG;have hx:=P1.o.getD k;obtain⟨z,hz⟩:∃ z,p.getD k 0*2^r=z:=⟨_,rfl⟩;obtain⟨s1,s2,s3,s4⟩:=Zvk M p wo r k z (by rw[Hn.o];exact H7) (by rw[HI.o.len];omega) hr hx (HI.o.z _ (by omega)) HI.o.low hz HI.o.v;have fE:=HI.o.z (wo+k+1) (by omega);have he:=HI.o.pcs.getD (wo+k);have Ib:=Zna he (Nat.mod_lt z (show 0<4294967296 by decide));rw[s1] at Ib;have E0:p.getD k 0*2^r<18446744073709551616:=by
    have h2:2^r<=2^31:=Nat.pow_le_pow_right (by decide) (by omega);have h3:=Nat.mul_le_mul (show p.getD k 0<=4294967295 by omega) h2;omega
   have bk:IntKind.u64.wrap ((p.getD k 0:Int)*2^r)=(z:Int):=by
    rw[show ((2:Int)^r)=((2^r:Nat):Int) by rw[Int.natCast_pow];rfl,<- Int.natCast_mul,hz];exact Qq _ (by omega)
   have PE:z<18446744073709551616:=by omega
   have gk:Hid (ShX p w.heap.size wo r (wo+n+1) (k+1) ((M.set (wo+k) (M.getD (wo+k) 0+z%4294967296)).set (wo+k+1) (z/4294967296)) w ((wr.setCell ⟨w.heap.size,wo+k,none⟩ (.int .u32 (M.getD (wo+k) 0+z%4294967296:Nat))).setCell ⟨w.heap.size,wo+k+1,none⟩ (.int .u32 (z/4294967296:Nat)))):=by
    refine⟨by rw[List.length_set,List.length_set];exact HI.o.len,(HI.o.pcs.set _ _ s2).set _ _ (Nat.lt_of_lt_of_le s3 ?_),s4,fun j hj=>?_,?_,(HI.o.own.store _ _).store _ _,(HI.o.bel.setCell (p:=⟨w.heap.size,wo+k,none⟩) nr_ _).setCell (p:=⟨w.heap.size,wo+k+1,none⟩) nr_ _⟩
    ·exact Nat.pow_le_pow_right (n:=2) (by decide) (show r<=32 by omega)
    ·rw[Zdm _ _ _ _ (by omega),Zdm _ _ _ _ (by omega)];exact HI.o.z j (by omega)
    ·rw[show wo+(k+1)=wo+k+1 by omega,List.getD_eq_getElem?_getD,List.getElem?_set_self (by rw[List.length_set,HI.o.len];omega)];exact s3
   have LV:(wr.setCell ⟨w.heap.size,wo+k,none⟩ (.int .u32 (M.getD (wo+k) 0+z%4294967296:Nat))).cell? ⟨w.heap.size,wo+k+1,none⟩=some (.int .u32 (M.getD (wo+k+1) 0:Nat)):=by
    rw[World.cell?_setCell_other _ _ _ _ (by simp)];exact bO
   have nU:(wr.setCell ⟨w.heap.size,wo+k,none⟩ (.int .u32 (M.getD (wo+k) 0+z%4294967296:Nat))).frozen? ⟨w.heap.size,wo+k+1,none⟩=false:=by rw[World.frozen?_setCell];exact ik
   have MP:IntKind.u64.wrap (p.getD k 0:Int)=(p.getD k 0:Nat):=Qq _ (by omega);have PH:IntKind.u32.wrap (z:Int)=((z%4294967296:Nat):Int):=wrap_u32 _;have OA:(z:Int)/4294967296=((z/4294967296:Nat):Int):=by omega
   have PL:IntKind.u32.wrap ((z/4294967296:Nat):Int)=((z/4294967296:Nat):Int):=by rw[wrap_u32,Nat.mod_eq_of_lt (by omega)]
   have Dk:IntKind.i64.wrap ((wo:Int)+k)=((wo+k:Nat):Int):=by rw[<- Int.natCast_add];exact iw_ _ (by omega)
   have Ol:IntKind.i64.wrap (((wo+k:Nat):Int)+1)=((wo+k+1:Nat):Int):=by rw[<- Int.natCast_succ];exact iw_ _ (by omega)
   clear HI s1 s2 s3 s4 hz fE E0 bO ik;generalize p.getD k 0=u at *;generalize M.getD (wo+k) 0+z%4294967296=e2 at *;generalize M.getD (wo+k+1) 0=e3 at *;generalize M.getD (wo+k) 0=e1 at *;generalize z/4294967296=zh at *;generalize z%4294967296=zl at *;go_wp2_with fail
   go_roundw
   case rel=>exact⟨k+1,_,by omega,by go_num,gk⟩
   case measure=>simp[intOf];omega
  ·obtain rfl:k=n:=by omega
   have hv:vX M=x*2^b:=by
    have h:=HI.o.v;rw[<- Hn.o,Zy5 He.o,V1.o] at h;exact h
   have Gc:=Za6 wr (some ⟨w.heap.size,0,none⟩) (wo+k+1) M HI.o.own.reads HI.o.pcs (by rw[HI.o.len];omega) (by rw[HI.o.len];exact Nat.le_refl _);rw[HI.o.len,hv] at Gc;have Hr:=hd_ ((HI.o.own.cut _ (Vz M HI.o.pcs)));have Hl:=hd_ (Vz M HI.o.pcs);rw[hv,HI.o.len] at Hl;rw[Zai M HI.o.pcs,hv] at Hr;have Gs:=hd_ Gc;have HB:=hd_ HI.o.bel;clear Gc hv HI H7
   push_cast at Gs
   go_wp2_with fail;refine(Gs.o).mono ?_;rintro e w2 ⟨rfl,HU⟩;have H9:=bt_ HB HU;have EW:=hd_ (Hr.o.reads.below HU nr_);clear HU Gs;go_wp2;go_ret;exact⟨_,_,rfl,⟨EW.o,Hl.o⟩,H9.o⟩
def rsL (p:List Nat) (wo r m k:Nat):List Nat:=(shX p wo r m).take k++(p.drop wo).drop k
theorem Zy9(p:List Nat)(wo r m:Nat):rsL p wo r m 0=p.drop wo:=by simp[rsL]
theorem Qdb(p:List Nat)(wo r m:Nat)(h:p.length-wo=m):rsL p wo r m m=shX p wo r m:=by
 unfold rsL;rw[List.take_of_length_le (by rw[Yc];exact Nat.le_refl _),List.drop_of_length_le (by rw[List.length_drop];omega),List.append_nil]
theorem Zjm(p:List Nat)(wo r m k:Nat)(h:p.length-wo=m)(hk:k<=m):(rsL p wo r m k).length=m:=by
 unfold rsL;rw[List.length_append,List.length_take,Yc,List.length_drop,List.length_drop];omega
theorem Qda(p:List Nat)(wo r m k:Nat)(hk:k<m):(rsL p wo r m k).getD k 0=p.getD (k+wo) 0:=by
 unfold rsL;have hl:((shX p wo r m).take k).length=k:=by rw[List.length_take,Yc];omega
 rw[List.getD_eq_getElem?_getD,List.getElem?_append_right (by omega),hl,Nat.sub_self,List.drop_drop,List.getElem?_drop,Nat.add_zero,<- List.getD_eq_getElem?_getD,Nat.add_comm]
theorem Qc9(p:List Nat)(wo r m k:Nat)(h:p.length-wo=m)(hk:k<m):(rsL p wo r m k).set k ((shX p wo r m).getD k 0)=rsL p wo r m (k+1):=by
 have hl:((shX p wo r m).take k).length=k:=by rw[List.length_take,Yc];omega
 have hd:(p.drop wo).drop k=(p.drop wo)[k]'(by rw[List.length_drop];omega)::(p.drop wo).drop (k+1):=List.drop_eq_getElem_cons _;unfold rsL;rw[List.set_append_right _ _ (by omega),hl,Nat.sub_self,List.take_add_one,List.getElem?_eq_getElem (by rw[Yc];exact hk),hd,List.set_cons_zero,List.append_assoc];congr 1;rw[List.getD_eq_getElem?_getD,List.getElem?_eq_getElem (by rw[Yc];exact hk)];rfl
theorem Zwa(x y r:Nat)(_hr:r<=32)(hx:x<4294967296):
  bits .or .u32 ((x:Int)/2^r) (IntKind.u32.wrap ((y:Int)*2^(32-r)))=((x/2^r ||| (y*2^(32-r)%4294967296):Nat):Int):=by
 have e1:(x:Int)/2^r=((x/2^r:Nat):Int):=by
  rw[Int.natCast_ediv,Int.natCast_pow];rfl
 have e2:IntKind.u32.wrap ((y:Int)*2^(32-r))=((y*2^(32-r)%4294967296:Nat):Int):=by
  rw[IntKind.wrap_u32,Int.natCast_emod,Int.natCast_mul,Int.natCast_pow];rfl
 rw[e1,e2];exact Zna (by have:=Nat.div_le_self x (2^r);omega) (Nat.mod_lt _ (by decide))
theorem Zo3{w:World}{a:OA_}{p:List Nat}{wo b o:Nat}(h:Qg w a p)(ha:a=some ⟨b,o,none⟩):Qg w (some ⟨b,o+wo,none⟩) (p.drop wo):=by
 rcases h with h|⟨b',o',h1,h2,h3⟩
 ·subst h;exact .inl (by simp)
 ·rw[ha] at h1;simp only[Option.some.injEq,Addr.mk.injEq,and_true] at h1;obtain⟨rfl,rfl⟩:=h1;refine .inr ⟨b,o+wo,rfl,h2,fun i hi=>?_⟩;rw[List.length_drop] at hi;have:=h3 (wo+i) (by omega)
  rw[List.getD_eq_getElem?_getD,List.getElem?_drop,<- List.getD_eq_getElem?_getD,Nat.add_assoc];exact this
theorem Zy3{x b wo r:Nat}(e:b=32*wo+r)(h:(wN x).length<=wo):x/2^b=0:=by
 refine Nat.div_eq_of_lt (Nat.lt_of_lt_of_le (Qco x) ?_);rw[show (4294967296:Nat)=2^32 from rfl,<- Nat.pow_mul];exact Nat.pow_le_pow_right (by decide) (by omega)
theorem Zy4(w:World)(a1:OA_)(c1 x b wo r:Nat)(e:b=32*wo+r)(hr:r<32)(Gr:0<b)(hZ:b<=1000000000)(h1:Qg w a1 (wN x))(hc:(wN x).length<=c1)(l1:Vf x):
  Yk 223 #[.slice a1 (wN x).length c1,.int .i64 (-(b:Int))] w (x/2^b):=by
 unfold Yk;unfold Vf at l1;have hq:Int.tdiv (b:Int) 32=(wo:Nat):=by rw[Int.tdiv_eq_ediv_of_nonneg (by omega)];omega
 have Ia:(b:Int)/32=(wo:Nat):=by omega
 have ht:Int.tmod (b:Int) 32=(r:Nat):=by rw[Int.tmod_eq_emod_of_nonneg (by omega)];omega
 have MS:(b:Int)%32=(r:Nat):=by omega
 have Fv:IntKind.u64.wrap (r:Int)=r:=Qq _ (by omega);have HU:(-(b:Int))<0:=by omega
 have lS:IntKind.i64.wrap (-(-(b:Int)))=b:=by rw[Int.neg_neg];exact iw_ _ (by omega)
 have Oe:IntKind.i64.wrap (b:Int)=b:=iw_ _ (by omega)
 by_cases hwo:(wN x).length<=wo
 ·have Hz:=hd_ (Zy3 (x:=x) e hwo);have bG:((wN x).length:Int)<=wo:=by omega
  clear e;generalize (wN x).length=n at *;go_enter Tryz.func223,Tryz.ntmps223;go_wp2_with fail;go_ret;rw[Hz.o];exact⟨none,0,by rw[Vg];rfl,IsX.zero _,Below.refl _ _⟩
 ·have H1:=hd_ h1;have P1:=hd_ (Zcx x);have V1:=hd_ (Zdw x);have He:=hd_ e;clear h1 e;generalize wN x=p at *;obtain⟨n,hn⟩:∃ n,p.length=n:=⟨_,rfl⟩;have Hn:=hd_ hn;rw[hn] at l1 hc hwo ⊢;clear hn;obtain⟨m,hm⟩:∃ m,n-wo=m:=⟨_,rfl⟩;have ER:0<m:=by omega
  have bG:¬ (n:Int)<=wo:=by omega
  have JA:¬ c1=wo:=by omega
  have E6:(n:Int)-wo=m:=by omega
  have Le:(wo:Int)<=n:=by omega
  have Lc:(wo:Int)<=c1:=by omega
  have Og:(n:Int)<=c1:=by omega
  have JT:Hid (p.length-wo=m):=by show _=_;rw[Hn.o];exact hm
  obtain⟨b1,o1,rfl,aL,gG⟩:=H1.o.open (by rw[Hn.o];omega);have Hc:=hd_ gG;have Mt:=hd_ (fun (c:Nat)=>Zt8 w (some ⟨b1,o1+wo,none⟩) c (p.drop wo) (Zo3 H1.o rfl) (by rw[List.length_drop,Hn.o];omega) (by rw[List.length_drop,Hn.o];omega));have db:(p.drop wo).length=m:=by rw[List.length_drop,Hn.o];exact hm
  rw[db] at Mt;clear gG H1 db;go_enter Tryz.func223,Tryz.ntmps223;go_wp2_with fail;refine cm_ (Mt.o _) ?_;rintro e w1 ⟨g,d,rfl,ho,hb⟩;have GU:=hd_ hb;have Fb:Hid (Zef w1 w.heap.size (some ⟨g,0,none⟩) d (rsL p wo r m 0)):=by rw[Zy9];exact ho
  have HD:Hid (m<=d):=by show _<=_;have:=ho.cap;rw[List.length_drop,Hn.o] at this;omega
  clear ho hb Mt;go_wp2_with fail
  go_loopw [34] (fun i wr=>∃ k:Nat,k<=m/\i = .int .i64 k/\Hid (Zef wr w.heap.size (some ⟨g,0,none⟩) d (rsL p wo r m k))/\Hid (Bw_ w wr)) (fun i _=>m-(intOf i).toNat)
  case atStart=>exact⟨0,Nat.zero_le _,rfl,Fb,GU⟩
  case round =>
   obtain⟨k,hk,rfl,HO,HB⟩:=hrel;clear Fb GU
   by_cases H7:k<m
   ·have gi:(k:Int)<m:=by omega
    obtain⟨g',hg,fF,hg2,hg3,hg4,hg5⟩:=HO.o.open (by rw[Zjm _ _ _ _ _ JT.o hk];omega);obtain rfl:g=g':=by simpa using hg
    clear hg;have ce:=hg4 k (by rw[Zjm _ _ _ _ _ JT.o hk];omega);rw[Qda _ _ _ _ _ H7] at ce;have fe:=hg5 k;have hx:=P1.o.getD (k+wo);have ay:IntKind.i64.wrap ((wo:Int)+k)=((k+wo:Nat):Int):=by rw[<- Int.natCast_add,Nat.add_comm];exact iw_ _ (by omega)
    have GJ:=Zvl p wo r m k H7;have GH:=Qc9 p wo r m k JT.o H7;have Dq:((p.getD (k+wo) 0:Nat):Int)/2^r=((p.getD (k+wo) 0/2^r:Nat):Int):=by rw[Int.natCast_ediv,Int.natCast_pow];rfl
    have oZ:p.getD (k+wo) 0/2^r<=p.getD (k+wo) 0:=Nat.div_le_self _ _;have Hv:=hd_ (show (r=0->p.getD (k+wo) 0/2^r=p.getD (k+wo) 0) from fun h=>by rw[h,Nat.pow_zero,Nat.div_one]);have dt:=hd_ (fun y=>Zwa (p.getD (k+wo) 0) y r (by omega) hx);have DN:k+wo+1<n->wr.cell? ⟨b1,o1+(k+wo+1),none⟩=some (.int .u32 (p.getD (k+wo+1) 0:Nat)):=fun h=>by
     rw[HB.o.cell (p:=⟨b1,o1+(k+wo+1),none⟩) aL];exact Hc.o (k+wo+1) (by rw[Hn.o];exact h)
    have OG:b1<wr.heap.size:=Nat.lt_of_lt_of_le aL HB.o.size;have gh:b1≠g:=by omega
    have GU:=fun (u:Value)=>HB.o.setCell (p:=⟨g,k,none⟩) fF u
    have Fb:=hd_ (HO.o.store k (p.getD (k+wo) 0/2^r));clear hg4 hg5 hg3 gi;generalize p.getD (k+wo) 0=x0 at *;generalize x0/2^r=v at *;have gi:(k:Int)<m:=by omega
    by_cases h2:k+1<m
    ·have eX:(k:Int)+1<m:=by omega
     by_cases h1:r=0
     ·have hE:(shX p wo r m).getD k 0=v:=by rw[GJ,if_pos h1];exact(Hv.o h1).symm
      rw[hE] at GH;rw[GH] at Fb;have h0:¬ (0:Int)<r:=by omega
      have HR:=hd_ (GU (.int .u32 v));clear GJ GH hE GU dt Hv DN HO HB h1;go_wp2_with fail;refine⟨⟨k+1,by omega,by go_num,Fb,HR⟩,by simp[intOf];omega⟩
     ·have cy:=DN (by omega);have hE:=GJ;rw[if_neg h1] at hE;have dT:=dt.o (p.getD (k+wo+1) 0);have hy:=P1.o.getD (k+wo+1);rw[Dq] at dT;have aK:=dT;rw[IntKind.wrap_u32] at aK;have h0:(0:Int)<r:=by omega
      have Ii:IntKind.i64.wrap (((k+wo:Nat):Int)+1)=((k+wo+1:Nat):Int):=by rw[<- Int.natCast_succ];exact iw_ _ (by omega)
      have ij:IntKind.u64.wrap (32-(r:Int))=((32-r:Nat):Int):=by rw[show (32:Int)-r=((32-r:Nat):Int) by omega];exact Qq _ (by omega)
      have OY:(32:Int)-r=((32-r:Nat):Int):=by omega
      generalize p.getD (k+wo+1) 0=y at *;have bO:(wr.setCell ⟨g,k,none⟩ (.int .u32 (v:Nat))).cell? ⟨g,k,none⟩=some (.int .u32 (v:Nat)):=World.cell?_setCell_same _ _ _ ce;have ik:(wr.setCell ⟨g,k,none⟩ (.int .u32 (v:Nat))).frozen? ⟨g,k,none⟩=false:=by rw[World.frozen?_setCell];exact fe
      have LU:(wr.setCell ⟨g,k,none⟩ (.int .u32 (v:Nat))).cell? ⟨b1,o1+(k+wo+1),none⟩=some (.int .u32 (y:Nat)):=by
       rw[World.cell?_setCell_other _ _ _ _ (by simp)];exact cy
      have Mv:=hd_ (GU (.int .u32 (v:Nat)));have HE:=hd_ hE;clear GJ hE Hv DN HO HB GU cy;generalize hW1:wr.setCell ⟨g,k,none⟩ (.int .u32 (v:Nat))=W1 at *;have q1:=NW.cell bO;have q2:=NW.cell LU;have gn:Nonempty (NW W1):=⟨⟨W1,Below.refl _ _⟩⟩;have I:Hid (Bw_ W1 W1.drew):=(Below.refl _ _).drew;go_wp2_with fail;refine wn_ 16 [(2,0),(2,1),(2,2),(1,3),(2,4),(2,5),(2,6),(2,7),(2,8),(2,9),(1,10),(2,11),(2,12),(2,13),(2,14),(2,15),(0,16)] I ?_;iterate 3 (refine wa_ rfl ?_;go_big_quiet_step (fail);refine wq_ ?_)
      refine wr_ rfl ?_;go_big_quiet_step (fail);refine wq_ ?_;iterate 6 (refine wa_ rfl ?_;go_big_quiet_step (fail);refine wq_ ?_)
      refine wr_ rfl ?_;go_big_quiet_step (fail);refine wq_ ?_;iterate 5 (refine wa_ rfl ?_;go_big_quiet_step (fail);refine wq_ ?_)
      iterate 1 (refine wm_ rfl ?_;go_wp2_with fail)
      simp only[RP.walkR];go_wp2_with fail;have F0:=Fb.o.store k (v ||| y*2^(32-r)%4294967296);have e2:((rsL p wo r m k).set k v).set k (v ||| y*2^(32-r)%4294967296)=rsL p wo r m (k+1):=by rw[List.set_set,<- HE.o];exact GH
      rw[e2] at F0;refine⟨⟨k+1,by omega,by go_num,F0.below (Qd _ 1) nr_,Qe (Mv.o.setCell (p:=⟨g,k,none⟩) fF _) 1⟩,by simp[intOf];omega⟩
    ·have hz:p.getD (k+wo+1) 0=0:=Zam _ _ (by rw[Hn.o];omega);have hE:(shX p wo r m).getD k 0=v:=by
      by_cases h1:r=0
      ·rw[GJ,if_pos h1];exact(Hv.o h1).symm
      ·rw[GJ,if_neg h1,hz,Nat.zero_mul,Nat.zero_mod,Nat.or_zero]
     rw[hE] at GH;rw[GH] at Fb;have eX:¬ (k:Int)+1<m:=by omega
     have HR:=hd_ (GU (.int .u32 v));clear GJ GH hE GU dt Hv DN HO HB hz;go_wp2_with fail;refine⟨⟨k+1,by omega,by go_num,Fb,HR⟩,by simp[intOf];omega⟩
   ·obtain rfl:k=m:=by omega
    rw[Qdb _ _ _ _ JT.o] at HO;have Gl:PcX (shX p wo r k):=Qc3 P1.o hr;have hv:vX (shX p wo r k)=x/2^b:=by rw[Qc2 P1.o hr (by rw[Hn.o];omega),V1.o,<- He.o]
    have hl:=Yc p wo r k;have Gc:=Za6 wr (some ⟨g,0,none⟩) d (shX p wo r k) HO.o.reads Gl (by rw[hl];omega) (by rw[hl];exact HD.o);rw[hl,hv] at Gc;have Hr:=hd_ ((HO.o.cut _ (Vz _ Gl)));have Hl:Hid ((wN (x/2^b)).length<=d):=by show _<=_;have:=Vz _ Gl;rw[hv,hl] at this;have h3:=HD.o;omega
    rw[Zai _ Gl,hv] at Hr;have Gs:=hd_ Gc;clear Gc hv H7 Gl hl;go_wp2_with fail;refine(Gs.o).mono ?_;rintro e w2 ⟨rfl,HU⟩;have H9:=bt_ HB HU;have EW:=hd_ (Hr.o.reads.below HU nr_);clear HU Gs;go_wp2;go_ret;exact⟨_,_,rfl,⟨EW.o,Hl.o⟩,H9.o⟩
theorem Zcs{x y:Nat}:0<=Vt x y↔y<=x:=by
 unfold Vt;split
 ·constructor<;>intro h<;>omega
 ·split<;>constructor<;>intro h<;>omega
theorem Vs:wN 1=[1]:=Zqq (by decide) (by decide)
theorem IsX.one{w:World}{g:Nat}(h:w.heap[g]?=some (.cells #[.int .u32 1] 131 (0,0))):IsX w (some ⟨g,0,none⟩) 1 1:=by
 refine⟨.inr ⟨g,0,rfl,⟨_,h⟩,fun i hi=>?_⟩,by rw[Vs];exact Nat.le_refl _⟩;rw[Vs] at hi ⊢;have Lk:i<1:=hi;obtain rfl:i=0:=by omega
 exact cell_of_row _ _ 0 _ _ _ h
theorem Zzf{A B j:Nat}(hB:0<B)(h:blN B+j<=blN A)(hA:Vf A):Vf (B*2^j)/\Vf (2^j):=by
 have h1:=Zj8 B;have h2:=Zly A;have h3:B*2^j<2^blN B*2^j:=Nat.mul_lt_mul_of_pos_right h1 (Nat.two_pow_pos j);rw[<- Nat.pow_add] at h3;have h4:2^(blN B+j)<=2^(32*(wN A).length):=Nat.pow_le_pow_right (by decide) (by omega);have h5:(2:Nat)^(32*(wN A).length)=4294967296^(wN A).length:=by rw[Nat.pow_mul]
 rw[h5] at h4;have hl:Vf (B*2^j):=Nat.le_trans (Zl9 (Nat.lt_of_lt_of_le h3 h4)) hA;exact⟨hl,hl.le (Nat.le_mul_of_pos_left _ hB)⟩
theorem Zoe.le{A B k a q:Nat}(hB:0<B)(h:Zoe A B k a q):a<=A/\q<=A:=by
 have h1:=h.eq;have h2:q*1<=q*B:=Nat.mul_le_mul_left _ hB;omega
def RoX (A B k:Nat) (z:Int):Prop:=(z+1=k/\blN B+k<=blN A+1)\/(z<0/\k=0)
def Zqo (f:FuncId) (args:Array Value) (w:World) (n m:Nat):Prop:=Calls Tryz.prog f args w fun e w'=>∃ a c a' c',e = .returned (.tuple #[.slice a (wN n).length c,.slice a' (wN m).length c'])/\IsX w' a c n/\IsX w' a' c' m/\Bw_ w w'
theorem Qaw(w:World)(a1 a2:OA_)(c1 c2 A B:Nat)(h1:IsX w a1 c1 A)(h2:IsX w a2 c2 B)(hB:0<B)(l1:Vf A)(l2:Vf B):
  Zqo 273 #[.slice a1 (wN A).length c1,.slice a2 (wN B).length c2] w (A/B) (A%B):=by
 unfold Zqo;have OJ:=Zly A;have MJ:(wN A).length<=1000000:=l1;have m5:=hd_ (Zil w a1 c1 A h1.1 l1);have mZ:=hd_ (fun W (hW:Bw_ w W)=>Zil W a2 c2 B (h2.1.below hW nr_) l2);have jV:=hd_ (fun W j (hj:j<=32000000) (hW:Bw_ w W)=>Zks W a2 c2 B j (j/32) (j%32) (by omega) (Nat.mod_lt _ (by decide)) (h2.1.below hW nr_) l2 (by omega));have AB:=hd_ (fun W g c j (hj:j<=32000000) (h:IsX W (some ⟨g,0,none⟩) c 1)=>Zks W (some ⟨g,0,none⟩) c 1 j (j/32) (j%32) (by omega) (Nat.mod_lt _ (by decide)) h.1 (Nat.le_trans (Nat.le_of_eq (by rw[Vs];rfl)) (show 1<=1000000 by decide)) (by omega));have jX:=hd_ (fun W pa pc qa qc x y (hx:IsX W pa pc x) (hy:IsX W qa qc y) (lx:Vf x)=>Za2 W pa qa pc qc x y hx.1 hy.1 (Nat.le_trans lx (by decide)));have iF:=hd_ (fun W pa pc qa qc x y (hx:IsX W pa pc x) (hy:IsX W qa qc y) (lx:Vf x) (h:y<=x)=>Zhz W pa qa pc qc x y hx.1 hy.1 lx h);have Cm:=hd_ (fun W pa pc qa qc x y (hx:IsX W pa pc x) (hy:IsX W qa qc y) (lx:Vf x) (ly:Vf y)=>Zen W pa qa pc qc x y hx.1 hy.1 lx ly);unfold Yk at jV AB iF Cm;have H1:=hd_ h1;have LA:=hd_ l1;have dF:=hd_ (fun j (h:blN B+j<=blN A)=>Zzf hB h l1);have Ps:=hd_ (fun k a q (h:Zoe A B k a q)=>h.le hB);have BT:Hid (blN B<=blN A->Zoe A B (blN A-blN B+1) A 0):=fun h=>Zt6 hB h
 have AD:Hid (blN A<blN B->Zoe A B 0 A 0):=fun h=>Zxm h
 have ig:blN B<=32*1000000:=Nat.le_trans (Zly B) (Nat.mul_le_mul_left _ l2);clear h1 h2 l1 l2 hB;simp only[Nat.one_mul] at AB;obtain⟨bA,hbA'⟩:∃ b,blN A=b:=⟨_,rfl⟩;obtain⟨bB,hbB'⟩:∃ b,blN B=b:=⟨_,rfl⟩;have mP:=hd_ hbA';have mO:=hd_ hbB';rw[hbA'] at m5 OJ;rw[hbB'] at mZ ig;rw[hbA',hbB'] at dF BT AD;clear hbA' hbB';go_enter Tryz.func273,Tryz.ntmps273;go_wp2_with fail;refine cm_ m5.o ?_;rintro e w1 ⟨rfl,hb⟩;have B1:=hd_ hb;clear hb m5;go_wp2_with fail;refine cm_ (mZ.o _ B1.o) ?_;rintro e w2 ⟨rfl,hb⟩;have B2:=bt_ B1 hb;clear hb mZ B1;go_wp2_with fail
 go_loopw [0,4,6] (fun av qv nv wr=>∃ (k q a:Nat) (z:Int) (aa qa:OA_) (ac qc:Nat),av = .slice aa (wN a).length ac/\qv = .slice qa (wN q).length qc/\nv = .int .i64 z /\ -32000001<=z/\z<=32000000/\Hid (RoX A B k z)/\Hid (Zoe A B k a q)/\Hid (IsX wr aa ac a)/\Hid (IsX wr qa qc q)/\Hid (Bw_ w wr)) (fun _ _ nv _=>(intOf nv+1).toNat)
 case atStart =>
  by_cases H7:bA<bB
  ·exact⟨0,0,A,(bA:Int)-bB,a1,none,c1,0,rfl,by rw[Vg];rfl,by first | rfl | go_num,by omega,by omega,.inr ⟨by omega,rfl⟩,AD.o H7,H1.o.below B2.o nr_,IsX.zero _,B2.o⟩
  ·exact⟨bA-bB+1,0,A,(bA:Int)-bB,a1,none,c1,0,rfl,by rw[Vg];rfl,by first | rfl | go_num,by omega,by omega,.inl ⟨by omega,by rw[mP.o,mO.o];omega⟩,BT.o (by omega),H1.o.below B2.o nr_,IsX.zero _,B2.o⟩
 case round =>
  obtain⟨k,q,a,z,aa,qa,ac,qc,rfl,rfl,rfl,fE,fM,HR,HD,HA,HQ,HB⟩:=hrel;clear BT AD B2 H1;rcases Nat.eq_zero_or_pos k with h0|h0
  ·subst h0;have hz:¬ 0<=z:=by
    rcases HR.o with h|h
    ·have:=h.1;omega
    ·omega
   obtain⟨f1,f2⟩:=HD.o.fin;have Hq:Hid (q=A/B):=f1;have Ha:Hid (a=A%B):=f2;clear f1 f2;go_wp2_with fail
   go_ret2
   rw[<- Hq.o,<- Ha.o];exact⟨_,_,_,_,rfl,HQ.o,HA.o,HB.o⟩
  ·obtain⟨j,rfl⟩:∃ j,k=j+1:=⟨k-1,by omega⟩;obtain⟨hzj,Iz⟩:z=j/\bB+j<=bA:=by
    rcases HR.o with h|h
    ·have h2:=h.2;rw[mP.o,mO.o] at h2;have h1:=h.1;constructor<;>omega
    ·omega
   subst hzj;have Jv:(0:Int)<=j:=by omega
   have nk:j<=32000000:=by omega
   obtain⟨lp,lj⟩:=dF.o j Iz;obtain⟨da,dq⟩:=Ps.o _ _ _ HD.o;have La:=hd_ (LA.o.le da);have Lq:=hd_ (LA.o.le dq);have Lp:=hd_ lp;have Lj:=hd_ lj;have BV:Hid (RoX A B j ((j:Int)-1)) := .inl ⟨by omega,by rw[mP.o,mO.o];omega⟩;have S1:=hd_ (jV.o wr j nk HB.o);have Mq:=hd_ (fun h=>HD.o.yes h);have Ms:=hd_ (fun h=>HD.o.no h);clear lp lj da dq HD HR;generalize B*2^j=part at *;go_wp2_with fail;refine cm_ S1.o ?_;rintro e w3 ⟨pa,pc,rfl,hp,hb⟩;have D1:=hd_ hb;have HP:=hd_ hp;have My:=hd_ (HA.o.below hb nr_);have jW:=hd_ (HQ.o.below hb nr_);have GU:=bt_ HB hb;clear hb hp S1 HA HQ HB D1;have S2:=hd_ (jX.o w3 aa ac pa pc a part My.o HP.o La.o);obtain⟨v,hv⟩:∃ v,Vt a part=v:=⟨_,rfl⟩;have Hv:=hd_ hv;rw[hv] at S2;clear hv;go_wp2_with fail;refine cm_ S2.o ?_;rintro e w4 ⟨rfl,hb⟩;have Mx:=hd_ (My.o.below hb nr_);have iE:=hd_ (jW.o.below hb nr_);have N8:=hd_ (HP.o.below hb nr_);have Gt:=bt_ GU hb;clear hb S2 My jW GU HP
   by_cases fz:part<=a
   ·have A6:0<=v:=by rw[<- Hv.o];exact Zcs.2 fz
    have S3:=hd_ (iF.o w4 aa ac pa pc a part Mx.o N8.o La.o fz);have dI:=hd_ (Mq.o fz);clear Mq Ms fz;go_wp2_with fail;refine cm_ S3.o ?_;rintro e w5 ⟨ba,bc,rfl,hp,hb⟩;have oC:=hd_ hp;have NX:=hd_ (iE.o.below hb nr_);have GY:=bt_ Gt hb;clear hb hp S3 Mx iE Gt N8;go_wp2_with fail;have N0:IsX (w5.alloc (.cells #[.int .u32 1] 131)) (some ⟨w5.heap.size,0,none⟩) 1 1:=IsX.one (heap_alloc_new w5 _);have S4:=hd_ (AB.o _ _ _ j nk N0);rw[Vs] at S4;have C4:=hd_ ((Below.refl w5.heap.size w5).alloc nr_ (.cells #[.int .u32 1] 131));refine cm_ S4.o ?_;rintro e w6 ⟨ja,jc,rfl,hp,hb⟩;have E4:=bt_ C4 hb;have HJ:=hd_ hp;have oB:=hd_ (oC.o.below E4.o nr_);have NV:=hd_ (NX.o.below E4.o nr_);have GX:=bt_ GY E4.o;clear hb hp S4 C4 E4 N0 oC NX GY;have S5:=hd_ (Cm.o w6 qa qc ja jc q (2^j) NV.o HJ.o Lq.o Lj.o);go_wp2_with fail;refine cm_ S5.o ?_;rintro e w7 ⟨ka,kc,rfl,hp,hb⟩;have Po:=hd_ hp;have Pu:=hd_ (oB.o.below hb nr_);have Cs:=bt_ GX hb;clear hb hp S5 oB NV GX HJ;go_wp2_with fail;refine⟨⟨j,_,_,(j:Int)-1,_,_,_,_,rfl,rfl,by first | rfl | go_num,by omega,by omega,BV,dI,Pu,Po,Cs⟩,by simp[intOf]⟩
   ·have A6:¬ 0<=v:=by rw[<- Hv.o];exact fun h=>fz (Zcs.1 h)
    have dI:=hd_ (Ms.o fz);clear Mq Ms fz;go_wp2_with fail;refine⟨⟨j,_,_,(j:Int)-1,_,_,_,_,rfl,rfl,by first | rfl | go_num,by omega,by omega,BV,dI,Mx,iE,Gt⟩,by simp[intOf]⟩
def rdX (w:World):Value->Nat
 | .slice (some ad) m _=>vX ((List.range m).map fun i=>match w.cell? ⟨ad.block,ad.off+i,none⟩ with | some (.int _ z)=>z.toNat | _=>0)
 | _=>0
theorem Qb0{w:World}{a:OA_}{c n:Nat}(h:IsX w a c n):rdX w (.slice a (wN n).length c)=n:=by
 rcases Nat.eq_zero_or_pos n with h0|h0
 ·subst h0;rw[Vg];cases a<;>rfl
 ·obtain⟨b,o,rfl,hb,hc⟩:=h.1.open (Zx.2 h0)
  show vX ((List.range (wN n).length).map fun i=>match w.cell? ⟨b,o+i,none⟩ with | some (.int _ z)=>z.toNat | _=>0)=n
  have e:((List.range (wN n).length).map fun i=>match w.cell? ⟨b,o+i,none⟩ with | some (.int _ z)=>z.toNat | _=>0)=wN n:=by
   refine List.ext_getElem (by simp) fun i h1 h2=>?_
   rw[List.getElem_map,List.getElem_range,hc i h2,List.getD_eq_getElem?_getD,List.getElem?_eq_getElem h2];rfl
  rw[e,Zdw]
theorem Zqc(w:World)(a1 a2:OA_)(c1 c2 A B:Nat)(h1:IsX w a1 c1 A)(h2:IsX w a2 c2 B)(l1:Vf A)(l2:Vf B):
  Yk 221 #[.slice a1 (wN A).length c1,.slice a2 (wN B).length c2] w (Nat.gcd A B):=by
 unfold Yk;have iH:=hd_ (fun W pa pc qa qc x y (hx:IsX W pa pc x) (hy:IsX W qa qc y) (h:0<y) (lx:Vf x) (ly:Vf y)=>Qaw W pa qa pc qc x y hx hy h lx ly);unfold Zqo at iH;have H1:=hd_ h1;have H2:=hd_ h2;have L1:=hd_ l1;have L2:=hd_ l2;clear h1 h2 l1 l2;go_enter Tryz.func221,Tryz.ntmps221;go_wp2_with fail
 go_loopw [0,1] (fun av bv wr=>∃ (a b:Nat) (aa ba:OA_) (ac bc:Nat),av = .slice aa (wN a).length ac/\bv = .slice ba (wN b).length bc/\Hid (Nat.gcd a b=Nat.gcd A B)/\Hid (Vf a)/\Hid (Vf b)/\Hid (IsX wr aa ac a)/\Hid (IsX wr ba bc b)/\Hid (Bw_ w wr)) (fun _ bv wr=>rdX wr bv)
 case atStart=>exact⟨A,B,a1,a2,c1,c2,rfl,rfl,rfl,L1,L2,H1,H2,Below.refl _ _⟩
 case round =>
  obtain⟨a,b,aa,ba,ac,bc,rfl,rfl,HG,La,Lb,Ha,Hb,HB⟩:=hrel;have Hm:=hd_ (Qb0 Hb.o);clear H1 H2 L1 L2;rcases Nat.eq_zero_or_pos b with h0|h0
  ·subst h0;have Hz:Hid (a=Nat.gcd A B):=by show _=_;rw[<- HG.o,Nat.gcd_zero_right]
   have Ih:(wN 0).length=0:=by rw[Vg];rfl
   rw[Ih];go_wp2_with fail;go_ret;rw[<- Hz.o];exact⟨_,_,rfl,Ha.o,HB.o⟩
  ·have hl:=Zx.2 h0;have S1:=hd_ (iH.o wr aa ac ba bc a b Ha.o Hb.o h0 La.o Lb.o);have j8:Hid (Nat.gcd b (a%b)=Nat.gcd A B):=by show _=_;rw[<- HG.o,Nat.gcd_comm a b,Nat.gcd_rec b a,Nat.gcd_comm (a%b)]
   have H7:=Nat.mod_lt a h0;have L2:Hid (Vf (a%b)):=Lb.o.le (Nat.le_of_lt H7);have Dz:=hd_ H7;clear H7 HG;have Dj:(0:Int)<((wN b).length:Nat):=by omega
   go_wp2_with fail;refine cm_ S1.o ?_;rintro e w3 ⟨q1,q2,r1,r2,rfl,-,hr,hb⟩;have Hr:=hd_ hr;have H9:=hd_ (Hb.o.below hb nr_);have Gt:=bt_ HB hb;clear hr hb S1 Hb HB;go_wp2_with fail;refine⟨⟨b,a%b,_,_,_,_,rfl,rfl,j8,Lb,L2,H9,Hr,Gt⟩,?_⟩;rw[Qb0 Hr.o,Hm.o];exact Dz.o
theorem Qbu(n:Nat):vX [n%4294967296,n/4294967296]=n:=by simp[vX];omega
theorem Zsz{w:World}{g:Nat}{a b:Nat}(h:w.heap[g]?=some (.cells #[.int .u32 (a:Nat),.int .u32 (b:Nat)] 131 (0,0))):Qg w (some ⟨g,0,none⟩) [a,b]:=by
 refine .inr ⟨g,0,rfl,⟨_,h⟩,fun i hi=>?_⟩
 match i,hi with
 | 0,_=>exact cell_of_row _ _ 0 _ _ _ h
 | 1,_=>exact cell_of_row _ _ 1 _ _ _ h
theorem Zk1(w:World)(n:Nat)(hn:n<18446744073709551616):Yk 151 #[.int .u64 n] w n:=by
 unfold Yk;have h1:IntKind.u32.wrap (n:Int)=((n%4294967296:Nat):Int):=wrap_u32 n;have h2:(n:Int)/4294967296=((n/4294967296:Nat):Int):=by omega
 have h3:IntKind.u32.wrap ((n/4294967296:Nat):Int)=((n/4294967296:Nat):Int):=by rw[wrap_u32,Nat.mod_eq_of_lt (by omega)]
 have hp:PcX [n%4294967296,n/4294967296]:=by
  intro x hx;simp only[List.mem_cons,List.not_mem_nil,or_false] at hx;rcases hx with rfl|rfl<;>omega
 have N0:=heap_alloc_new w (.cells #[.int .u32 ((n%4294967296:Nat):Int),.int .u32 ((n/4294967296:Nat):Int)] 131);have R0:=hd_ (Zsz N0);have B0:=hd_ ((Below.refl w.heap.size w).alloc nr_ (.cells #[.int .u32 ((n%4294967296:Nat):Int),.int .u32 ((n/4294967296:Nat):Int)] 131));have Gc:=Za6 (w.alloc (.cells #[.int .u32 ((n%4294967296:Nat):Int),.int .u32 ((n/4294967296:Nat):Int)] 131)) (some ⟨w.heap.size,0,none⟩) 2 [n%4294967296,n/4294967296] R0.o hp (show 2<=100000000 by decide) (show 2<=2 by decide);have Hl:Hid ((wN n).length<=2):=by have:=Vz _ hp;rw[Qbu] at this;exact this
 have Nt:=hd_ (Zai _ hp);rw[Qbu] at Gc Nt;rw[show ([n%4294967296,n/4294967296]:List Nat).length=2 from rfl] at Gc;have Gs:=hd_ Gc;have HV:Hid (∀ i,i<(wN n).length->(wN n).getD i 0=[n%4294967296,n/4294967296].getD i 0):=fun i hi=>by
  rw[<- Nt.o,List.getD_eq_getElem?_getD,List.getD_eq_getElem?_getD,List.getElem?_take,if_pos hi]
 clear Gc N0 hp;generalize n/4294967296=y at *;generalize n%4294967296=x at *;go_enter Tryz.func151,Tryz.ntmps151;go_wp2_with fail;generalize w.alloc (.cells #[.int .u32 ((x:Nat):Int),.int .u32 ((y:Nat):Int)] 131)=w1 at *;refine cm_ Gs.o ?_;rintro e w2 ⟨rfl,hb⟩;have B1:=bt_ B0 hb;have R1:=hd_ (R0.o.below hb nr_);clear hb Gs R0 B0;go_wp2_with fail;go_ret;refine⟨_,_,rfl,⟨?_,Hl.o⟩,B1.o⟩;rcases R1.o with h|⟨b,o,h4,h5,h6⟩
 ·cases h
 ·exact .inr ⟨b,o,h4,h5,fun i hi=>by rw[h6 i (Nat.lt_of_lt_of_le hi Hl.o),HV.o i hi]⟩
/-! Integers. -/
def igV (z:Int) (a:OA_) (c:Nat):Value := .agg #[.bool (decide (z<0)),.slice a (wN z.natAbs).length c]
def Zdh (f:FuncId) (args:Array Value) (w:World) (z:Int):Prop:=Calls Tryz.prog f args w fun e w'=>∃ a c,e = .returned (igV z a c)/\IsX w' a c z.natAbs/\Bw_ w w'
structure Qbm (w:World) (x y z:Array Value) (t1 t2 t3:TypeId) (W0:World):Prop where
 fa:W0.heap[w.heap.size]?=some (.cells x t1 (0,0))
 fb:W0.heap[w.heap.size+1]?=some (.cells y t2 (0,0))
 fr:W0.heap[w.heap.size+1+1]?=some (.cells z t3 (0,0))
 bel:Bw_ w W0
theorem Qbm.mk'(w:World)(x y z:Array Value)(t1 t2 t3:TypeId):Qbm w x y z t1 t2 t3 (((w.alloc (.cells x t1)).alloc (.cells y t2)).alloc (.cells z t3)):=by
 have hA:=heap_alloc_new w (.cells x t1);have hB:=heap_alloc_new (w.alloc (.cells x t1)) (.cells y t2);have hR:=heap_alloc_new ((w.alloc (.cells x t1)).alloc (.cells y t2)) (.cells z t3);have e1:(w.alloc (.cells x t1)).heap.size=w.heap.size+1:=by simp
 have e2:((w.alloc (.cells x t1)).alloc (.cells y t2)).heap.size=w.heap.size+1+1:=by simp
 refine⟨?_,?_,?_,?_⟩
 ·exact Zr hA (((Below.refl _ _).alloc nr_ _).alloc (by simp) _) nr_
 ·rw[e1] at hB;exact Zr hB ((Below.refl _ _).alloc nr_ _) nr_
 ·rw[e2] at hR;exact hR
 ·exact(((Below.refl _ _).alloc nr_ _).alloc (by simp) _).alloc (by simp;omega) _
theorem Qbm.next{w W0 W:World}{x y z:Array Value}{t1 t2 t3:TypeId}(h:Qbm w x y z t1 t2 t3 W0)(hb:Bw_ W0 W):Qbm w x y z t1 t2 t3 W :=
 ⟨Zr h.fa hb nr_,Zr h.fb hb nr_,Zr h.fr hb nr_,h.bel.trans (hb.mono h.bel.size)⟩
def Zqn (w:World) (g:Nat):Prop:=∀ j z,w.cell? ⟨g,j,none⟩≠some (.int .u32 z)
theorem Zqn.two{w:World}{g:Nat}{a b:Value}{t:TypeId}(h:w.heap[g]?=some (.cells #[a,b] t (0,0)))(ha:∀ z,a ≠ .int .u32 z)(hb:∀ z,b ≠ .int .u32 z):Zqn w g:=fun j z hc=>by
 rw[cell_of_row w g j _ t (0,0) h] at hc
 match j,hc with
 | 0,hc=>exact ha z (by simpa using hc)
 | 1,hc=>exact hb z (by simpa using hc)
 | j+2,hc=>simp at hc
theorem Zqn.three{w:World}{g:Nat}{a b c:Value}{t:TypeId}(h:w.heap[g]?=some (.cells #[a,b,c] t (0,0)))(ha:∀ z,a ≠ .int .u32 z)(hb:∀ z,b ≠ .int .u32 z)(hc:∀ z,c ≠ .int .u32 z):Zqn w g:=fun j z hj=>by
 rw[cell_of_row w g j _ t (0,0) h] at hj
 match j,hj with
 | 0,hj=>exact ha z (by simpa using hj)
 | 1,hj=>exact hb z (by simpa using hj)
 | 2,hj=>exact hc z (by simpa using hj)
 | j+3,hj=>simp at hj
theorem Qg.apart{w:World}{g:Nat}{a:OA_}{l:List Nat}(h:Qg w a l)(hn:Zqn w g):l=[]\/∃ b off,a=some ⟨b,off,none⟩/\(∃ cs,w.heap[b]?=some (.cells cs 131 (0,0)))/\b≠g/\∀ i,i<l.length->w.cell? ⟨b,off+i,none⟩=some (.int .u32 (l.getD i 0:Nat)):=by
 rcases h with h|⟨b,o,h1,h2,h3⟩
 ·exact .inl h
 ·by_cases h0:l=[]
  ·exact .inl h0
  ·refine .inr ⟨b,o,h1,h2,fun hb=>?_,h3⟩;subst hb;exact hn _ _ (h3 0 (List.length_pos_iff.2 h0))
theorem Qg.set2{w:World}{g:Nat}{a:OA_}{l:List Nat}(h:Qg w a l)(hn:Zqn w g)(x y:Value):Qg ((w.setCell ⟨g,0,none⟩ x).setCell ⟨g,1,none⟩ y) a l:=by
 rcases h.apart hn with h|⟨b,o,h1,h2,h3,h4⟩
 ·exact .inl h
 ·refine .inr ⟨b,o,h1,⟨h2.choose,by rw[Below.heap_setCell _ _ _ _ h3,Below.heap_setCell _ _ _ _ h3];exact h2.choose_spec⟩,fun i hi=>?_⟩;rw[World.cell?_setCell_other _ _ _ _ (by simp),World.cell?_setCell_other _ _ _ _ (by simp)];exact h4 i hi
theorem Qg.set3{w:World}{g:Nat}{a:OA_}{l:List Nat}(h:Qg w a l)(hn:Zqn w g)(x y z:Value):Qg (((w.setCell ⟨g,0,none⟩ x).setCell ⟨g,1,none⟩ y).setCell ⟨g,2,none⟩ z) a l:=by
 rcases h.apart hn with h|⟨b,o,h1,h2,h3,h4⟩
 ·exact .inl h
 ·refine .inr ⟨b,o,h1,⟨h2.choose,by rw[Below.heap_setCell _ _ _ _ h3,Below.heap_setCell _ _ _ _ h3,Below.heap_setCell _ _ _ _ h3];exact h2.choose_spec⟩,fun i hi=>?_⟩;rw[World.cell?_setCell_other _ _ _ _ (by simp),World.cell?_setCell_other _ _ _ _ (by simp),World.cell?_setCell_other _ _ _ _ (by simp)];exact h4 i hi
theorem IsX.set2{w:World}{g c n:Nat}{a:OA_}(h:IsX w a c n)(hn:Zqn w g)(x y:Value):IsX ((w.setCell ⟨g,0,none⟩ x).setCell ⟨g,1,none⟩ y) a c n:=⟨h.1.set2 hn x y,h.2⟩
theorem IsX.set3{w:World}{g c n:Nat}{a:OA_}(h:IsX w a c n)(hn:Zqn w g)(x y z:Value):IsX (((w.setCell ⟨g,0,none⟩ x).setCell ⟨g,1,none⟩ y).setCell ⟨g,2,none⟩ z) a c n:=⟨h.1.set3 hn x y z,h.2⟩
theorem Zag{w:World}{g:Nat}{s:Bool}{a:OA_}{m c:Nat}{t:TypeId}(h:w.heap[g]?=some (.cells #[.bool s,.slice a m c] t (0,0))):Zqn w g:=Zqn.two h (fun z=>by simp) (fun z=>by simp)
theorem Zca{w:World}{g:Nat}{s:Bool}{a b:OA_}{m c n d:Nat}{t:TypeId}(h:w.heap[g]?=some (.cells #[.bool s,.slice a m c,.slice b n d] t (0,0))):Zqn w g:=Zqn.three h (fun z=>by simp) (fun z=>by simp) (fun z=>by simp)
theorem Zpe(w:World)(z:Int)(h0:0<=z)(h1:z<9223372036854775808):Zdh 68 #[.int .i64 z] w z:=by
 unfold Zdh igV;obtain⟨n,rfl⟩:=Int.eq_ofNat_of_zero_le h0;have Gi:¬ ((n:Nat):Int)<0:=by omega
 rw[Int.natAbs_natCast,decide_eq_false Gi];have HO:=hd_ (fun W=>Zk1 W n (by omega));unfold Yk at HO;have hw:IntKind.u64.wrap (n:Int)=n:=Qq n (by omega);have N0:=hd_ (Kk w #[.bool false,.slice none 0 0] 119 _ rfl);have B0:=hd_ ((Below.refl w.heap.size w).alloc nr_ (.cells #[.bool false,.slice none 0 0] 119));go_enter Tryz.func68,Tryz.ntmps68;go_wp2_with fail;generalize w.alloc (.cells #[.bool false,.slice none 0 0] 119)=w1 at *;refine cm_ (HO.o w1) ?_;rintro e w2 ⟨a,c,rfl,hi,hb⟩;have N1:=hk_ N0 hb;have B1:=bt_ B0 hb;have HI:=hd_ hi;clear hb hi HO N0 B0;obtain⟨k0_,k1_,EU,dj⟩:=Ka N1.o;have gR:=hd_ (Kl (.bool false) (.slice a (wN n).length c) k0_ k1_ nr_ B1.o);have dE:=hd_ (HI.o.set2 (Zag N1.o) (.bool false) (.slice a (wN n).length c));go_wp2;obtain⟨c0_,c1_,hb_⟩:=gR.o;generalize ((w2).setCell ⟨w.heap.size,0,none⟩ (.bool false)).setCell ⟨w.heap.size,1,none⟩ (.slice a (wN n).length c)=w9_ at *;exact bodyPost_ret (v := .agg #[.bool false,.slice a (wN n).length c]) (by simp[results,Tryz.results68,go_sem,c0_,c1_]) rfl ⟨_,_,rfl,dE.o,hb_⟩
theorem Zsv{x y:Int}(h:x.natAbs*y.natAbs≠0):decide (x*y<0)=(decide (x<0) != decide (y<0)):=by
 have h1:x≠0:=fun e=>h (by rw[e];simp)
 have h2:y≠0:=fun e=>h (by rw[e];simp)
 rcases Int.lt_or_lt_of_ne h1 with hx|hx<;>rcases Int.lt_or_lt_of_ne h2 with hy|hy
 ·have:=Int.mul_pos_of_neg_of_neg hx hy
  rw[decide_eq_true hx,decide_eq_true hy,decide_eq_false (by omega)];rfl
 ·have:=Int.mul_neg_of_neg_of_pos hx hy
  rw[decide_eq_true hx,decide_eq_false (by omega:¬ y<0),decide_eq_true this];rfl
 ·have:=Int.mul_neg_of_pos_of_neg hx hy
  rw[decide_eq_false (by omega:¬ x<0),decide_eq_true hy,decide_eq_true this];rfl
 ·have:=Int.mul_pos hx hy
  rw[decide_eq_false (by omega:¬ x<0),decide_eq_false (by omega:¬ y<0),decide_eq_false (by omega)];rfl
theorem Zsi{x y:Int}(h:x.natAbs*y.natAbs=0):decide (x*y<0)=false:=by
 have:x*y=0:=by
  rw[<- Int.natAbs_mul] at h;exact Int.natAbs_eq_zero.1 h
 rw[this];rfl
theorem Ze8(w:World)(x y:Int)(a1 a2:OA_)(c1 c2:Nat)(h1:IsX w a1 c1 x.natAbs)(h2:IsX w a2 c2 y.natAbs)(l1:Vf x.natAbs)(l2:Vf y.natAbs):
  Zdh 153 #[igV x a1 c1,igV y a2 c2] w (x*y):=by
 unfold Zdh igV;have Hs:=hd_ (Zsv (x:=x) (y:=y));have Hz:=hd_ (Zsi (x:=x) (y:=y));rw[Int.natAbs_mul];have HP:=hd_ (fun W (hW:Bw_ w W)=>Zak W a1 a2 c1 c2 _ _ (h1.1.below hW nr_) (h2.1.below hW nr_) l1 l2);unfold Yk at HP;clear h1 h2 l1 l2;generalize decide (x<0)=sx at *;generalize decide (y<0)=sy at *;generalize decide (x*y<0)=sz at *;generalize x.natAbs=p at *;generalize y.natAbs=q at *;generalize (wN p).length=m1 at *;generalize (wN q).length=m2 at *;have H3:=hd_ (Qbm.mk' w #[.bool sx,.slice a1 m1 c1] #[.bool sy,.slice a2 m2 c2] #[.bool false,.slice none 0 0] 119 119 119);obtain⟨k0,k1,-,-⟩:=Ka H3.o.fa;obtain⟨k2,k3,-,-⟩:=Ka H3.o.fb;go_enter Tryz.func153,Tryz.ntmps153;go_wp2_with fail;generalize ((w.alloc (.cells #[.bool sx,.slice a1 m1 c1] 119)).alloc (.cells #[.bool sy,.slice a2 m2 c2] 119)).alloc (.cells #[.bool false,.slice none 0 0] 119)=W0 at *;clear k0 k1 k2 k3;refine cm_ (HP.o W0 H3.o.bel) ?_;rintro e w1 ⟨a,c,rfl,hi,hb⟩;have H4:=hd_ (H3.o.next hb);have HI:=hd_ hi;clear hb hi HP H3;obtain⟨k0,k1,-,-⟩:=Ka H4.o.fa;obtain⟨k2,k3,-,-⟩:=Ka H4.o.fb;have B1:=hd_ H4.o.bel
 by_cases hpq:p*q=0
 ·have hl:(wN (p*q)).length=0:=by rw[hpq,Vg];rfl
  have Hv:=hd_ (Hz.o hpq);have Dj:¬ (0:Int)<(((wN (p*q)).length:Nat):Int):=by omega
  clear Hs Hz hpq hl;obtain⟨k0_,k1_,EU,dj⟩:=Ka H4.o.fr;have gR:=hd_ (Kl (.bool false) (.slice a (wN (p*q)).length c) k0_ k1_ (by omega) B1.o);have dE:=hd_ (HI.o.set2 (Zag H4.o.fr) (.bool false) (.slice a (wN (p*q)).length c));go_wp2;obtain⟨c0_,c1_,hb_⟩:=gR.o;generalize ((w1).setCell ⟨w.heap.size+1+1,0,none⟩ (.bool false)).setCell ⟨w.heap.size+1+1,1,none⟩ (.slice a (wN (p*q)).length c)=w9_ at *;exact bodyPost_ret (v := .agg #[.bool false,.slice a (wN (p*q)).length c]) (by simp[results,Tryz.results153,go_sem,c0_,c1_]) rfl ⟨a,c,by first | (rw[Hv.o];done) | (rw[Hv.o];rfl),dE.o,hb_⟩
 ·have hl:=Zx.2 (Nat.pos_of_ne_zero hpq);have Hv:=hd_ (Hs.o hpq);have Dj:(0:Int)<(((wN (p*q)).length:Nat):Int):=by omega
  clear Hs Hz hpq hl;obtain⟨k0_,k1_,EU,dj⟩:=Ka H4.o.fr;have gR:=hd_ (Kl (.bool (!(sx==sy))) (.slice a (wN (p*q)).length c) k0_ k1_ (by omega) B1.o);have dE:=hd_ (HI.o.set2 (Zag H4.o.fr) (.bool (!(sx==sy))) (.slice a (wN (p*q)).length c));go_wp2;obtain⟨c0_,c1_,hb_⟩:=gR.o;generalize ((w1).setCell ⟨w.heap.size+1+1,0,none⟩ (.bool (!(sx==sy)))).setCell ⟨w.heap.size+1+1,1,none⟩ (.slice a (wN (p*q)).length c)=w9_ at *;exact bodyPost_ret (v := .agg #[.bool (!(sx==sy)),.slice a (wN (p*q)).length c]) (by simp[results,Tryz.results153,go_sem,c0_,c1_]) rfl ⟨a,c,by first | (rw[Hv.o];done) | (rw[Hv.o];rfl),dE.o,hb_⟩
theorem Qbh{x y:Int}(h:(decide (x<0)==decide (y<0))=true):decide (x+y<0)=decide (x<0)/\(x+y).natAbs=x.natAbs+y.natAbs:=by
 have h:=eq_of_beq h
 by_cases hx:x<0
 ·rw[decide_eq_true hx] at h ⊢;have hy:y<0:=of_decide_eq_true h.symm;exact⟨decide_eq_true (by omega),by omega⟩
 ·rw[decide_eq_false hx] at h ⊢;have hy:¬ y<0:=of_decide_eq_false h.symm;exact⟨decide_eq_false (by omega),by omega⟩
theorem Zya{x y:Int}(h:(decide (x<0)==decide (y<0))=false):
  (Vt x.natAbs y.natAbs=1->decide (x+y<0)=decide (x<0)/\(x+y).natAbs=x.natAbs-y.natAbs/\y.natAbs<=x.natAbs) /\
  (Vt x.natAbs y.natAbs = -1->decide (x+y<0)=decide (y<0)/\(x+y).natAbs=y.natAbs-x.natAbs/\x.natAbs<=y.natAbs) /\
  (Vt x.natAbs y.natAbs≠1->Vt x.natAbs y.natAbs ≠ -1->x+y=0):=by
 have h:¬ decide (x<0)=decide (y<0):=fun e=>by rw[e,beq_self_eq_true] at h;cases h
 have c1:Vt x.natAbs y.natAbs=1->y.natAbs<x.natAbs:=by unfold Vt;intro e;split at e;(· omega);(split at e<;>omega)
 have c2:Vt x.natAbs y.natAbs = -1->x.natAbs<y.natAbs:=by unfold Vt;intro e;split at e;(· omega);(split at e<;>omega)
 have c3:Vt x.natAbs y.natAbs≠1->Vt x.natAbs y.natAbs ≠ -1->x.natAbs=y.natAbs:=by
  unfold Vt;split
  ·intro _ e;exact absurd rfl e
  ·split
   ·intro _ _;assumption
   ·intro e;exact absurd rfl e
 by_cases hx:x<0
 ·rw[decide_eq_true hx] at h ⊢;have hy:¬ y<0:=fun e=>h (decide_eq_true e).symm
  rw[decide_eq_false hy];refine⟨fun e=>?_,fun e=>?_,fun e1 e2=>?_⟩
  ·have:=c1 e;exact⟨decide_eq_true (by omega),by omega,by omega⟩
  ·have:=c2 e;exact⟨decide_eq_false (by omega),by omega,by omega⟩
  ·have:=c3 e1 e2;omega
 ·rw[decide_eq_false hx] at h ⊢;have hy:y<0:=Classical.byContradiction fun e=>h (decide_eq_false e).symm
  rw[decide_eq_true hy];refine⟨fun e=>?_,fun e=>?_,fun e1 e2=>?_⟩
  ·have:=c1 e;exact⟨decide_eq_false (by omega),by omega,by omega⟩
  ·have:=c2 e;exact⟨decide_eq_true (by omega),by omega,by omega⟩
  ·have:=c3 e1 e2;omega
theorem Zl2(w:World)(x y:Int)(a1 a2:OA_)(c1 c2:Nat)(h1:IsX w a1 c1 x.natAbs)(h2:IsX w a2 c2 y.natAbs)(l1:Vf x.natAbs)(l2:Vf y.natAbs):
  Zdh 67 #[igV x a1 c1,igV y a2 c2] w (x+y):=by
 unfold Zdh igV;have HS:=hd_ (Qbh (x:=x) (y:=y));have HO:=hd_ (Zya (x:=x) (y:=y));have HP:=hd_ (fun W (hW:Bw_ w W)=>Zen W a1 a2 c1 c2 _ _ (h1.1.below hW nr_) (h2.1.below hW nr_) l1 l2);have bg:=hd_ (fun W (hW:Bw_ w W) h=>Zhz W a1 a2 c1 c2 x.natAbs y.natAbs (h1.1.below hW nr_) (h2.1.below hW nr_) l1 h);have eC:=hd_ (fun W (hW:Bw_ w W) h=>Zhz W a2 a1 c2 c1 y.natAbs x.natAbs (h2.1.below hW nr_) (h1.1.below hW nr_) l2 h);have HC:=hd_ (fun W (hW:Bw_ w W)=>Za2 W a1 a2 c1 c2 x.natAbs y.natAbs (h1.1.below hW nr_) (h2.1.below hW nr_) (Nat.le_trans l1 (by decide)));unfold Yk at HP bg eC;clear h1 h2 l1 l2;have H3:=hd_ (Qbm.mk' w #[.bool (decide (x<0)),.slice a1 (wN x.natAbs).length c1] #[.bool (decide (y<0)),.slice a2 (wN y.natAbs).length c2] #[.bool false,.slice none 0 0] 119 119 119);obtain⟨v,hv⟩:∃ v,Vt x.natAbs y.natAbs=v:=⟨_,rfl⟩;rw[hv] at HO HC;have Hz:Hid (x+y=0->decide (x+y<0)=false/\(x+y).natAbs=0):=fun e=>by rw[e];exact⟨rfl,rfl⟩
 clear hv;generalize decide (x<0)=sx at *;generalize decide (y<0)=sy at *;generalize decide (x+y<0)=sz at *;generalize (x+y).natAbs=r at *;generalize x.natAbs=p at *;generalize y.natAbs=q at *;generalize f7:(wN p).length=m1 at *;generalize eG:(wN q).length=m2 at *;clear f7 eG;obtain⟨k0,k1,-,-⟩:=Ka H3.o.fa;obtain⟨k2,k3,-,-⟩:=Ka H3.o.fb;cases hs:(sx==sy) with
 | true =>
  obtain⟨e1,e2⟩:=HS.o hs;have E1:=hd_ e1;have E2:=hd_ e2;clear e1 e2 HS HO bg eC HC Hz;go_enter Tryz.func67,Tryz.ntmps67;go_wp2_with fail;generalize ((w.alloc (.cells #[.bool sx,.slice a1 m1 c1] 119)).alloc (.cells #[.bool sy,.slice a2 m2 c2] 119)).alloc (.cells #[.bool false,.slice none 0 0] 119)=W1 at *;have q0:=NW.cell k0;have q1:=NW.cell k1;have q2:=NW.cell k2;have q3:=NW.cell k3;have gn:Nonempty (NW W1):=⟨⟨W1,Below.refl _ _⟩⟩;have I:Hid (Bw_ W1 W1.drew):=(Below.refl _ _).drew;clear k0 k1 k2 k3;refine wn_ 8 [(1,0),(1,1),(1,2),(1,3),(1,4),(1,5),(0,6),(2,7),(0,8)] I ?_;iterate 6 (refine wr_ rfl ?_;go_big_quiet_step (fail);refine wq_ ?_)
  iterate 1 (refine wm_ rfl ?_;go_wp2_with fail)
  refine cm_ (HP.o _ (H3.o.bel.trans (I.o.mono H3.o.bel.size))) ?_;rintro e_ w2 ⟨a,c,rfl,hi,hb⟩;have I1:Hid (Bw_ W1 w2):=I.o.trans (hb.mono I.o.size);have H5:=hd_ (H3.o.next I1.o);have HI:=hd_ hi;clear hb hi I H3;go_wp2_with fail;refine⟨⟨⟨_,I1.o⟩,rfl⟩,?_⟩;refine wa_ rfl ?_;go_big_quiet_step (fail);refine wq_ ?_;obtain⟨k0_,k1_,EU,dj⟩:=Ka H5.o.fr;have gR:=hd_ (Kl (.bool sx) (.slice a (wN (p+q)).length c) k0_ k1_ (show w.heap.size<=w.heap.size+1+1 by omega) H5.o.bel);have dE:=hd_ (HI.o.set2 (Zag H5.o.fr) (.bool sx) (.slice a (wN (p+q)).length c));iterate 1 (refine wm_ rfl ?_;go_wp2_with fail)
  simp only[RP.walkR];go_wp2_with fail;obtain⟨c0_,c1_,hb_⟩:=gR.o;exact bodyPost_ret (v := .agg #[.bool sx,.slice a (wN (p+q)).length c]) (by simp[results,Tryz.results67,go_sem,c0_,c1_]) rfl ⟨a,c,by rw[E1.o,E2.o],by rw[E2.o];exact dE.o,hb_⟩
 | false =>
  have Fb:=hd_ (HO.o hs);clear HS HP HO;go_enter Tryz.func67,Tryz.ntmps67;go_wp2_with fail;generalize ((w.alloc (.cells #[.bool sx,.slice a1 m1 c1] 119)).alloc (.cells #[.bool sy,.slice a2 m2 c2] 119)).alloc (.cells #[.bool false,.slice none 0 0] 119)=W1 at *;clear k0 k1 k2 k3;refine cm_ (HC.o _ H3.o.bel) ?_;rintro e w1 ⟨rfl,hb⟩;replace H3:=hd_ (H3.o.next hb);clear hb HC;obtain⟨k0,k1,-,-⟩:=Ka H3.o.fa;obtain⟨k2,k3,-,-⟩:=Ka H3.o.fb;obtain⟨o1,o2,o3⟩:=Fb.o;clear Fb
  by_cases hv1:v=1
  ·obtain⟨e1,e2,e3⟩:=o1 hv1;have E1:=hd_ e1;have E2:=hd_ e2;have HL:=hd_ (fun W hW=>bg.o W hW e3);subst hv1;clear e1 e2 e3 o1 o2 o3 bg eC Hz;go_wp2_with fail;have q0:=NW.cell k0;have q1:=NW.cell k1;have q2:=NW.cell k2;have q3:=NW.cell k3;have gn:Nonempty (NW w1):=⟨⟨w1,Below.refl _ _⟩⟩;have I:Hid (Bw_ w1 w1.drew):=(Below.refl _ _).drew;clear k0 k1 k2 k3;refine wn_ 8 [(1,0),(1,1),(1,2),(1,3),(1,4),(1,5),(0,6),(2,7),(0,8)] I ?_;iterate 6 (refine wr_ rfl ?_;go_big_quiet_step (fail);refine wq_ ?_)
   iterate 1 (refine wm_ rfl ?_;go_wp2_with fail)
   refine cm_ (HL.o _ (H3.o.bel.trans (I.o.mono H3.o.bel.size))) ?_;rintro e_ w2 ⟨a,c,rfl,hi,hb⟩;have I1:Hid (Bw_ w1 w2):=I.o.trans (hb.mono I.o.size);have H5:=hd_ (H3.o.next I1.o);have HI:=hd_ hi;clear hb hi I H3;go_wp2_with fail;refine⟨⟨⟨_,I1.o⟩,rfl⟩,?_⟩;refine wa_ rfl ?_;go_big_quiet_step (fail);refine wq_ ?_;obtain⟨k0_,k1_,EU,dj⟩:=Ka H5.o.fr;have gR:=hd_ (Kl (.bool sx) (.slice a (wN (p-q)).length c) k0_ k1_ (show w.heap.size<=w.heap.size+1+1 by omega) H5.o.bel);have dE:=hd_ (HI.o.set2 (Zag H5.o.fr) (.bool sx) (.slice a (wN (p-q)).length c));iterate 1 (refine wm_ rfl ?_;go_wp2_with fail)
   simp only[RP.walkR];go_wp2_with fail;obtain⟨c0_,c1_,hb_⟩:=gR.o;exact bodyPost_ret (v := .agg #[.bool sx,.slice a (wN (p-q)).length c]) (by simp[results,Tryz.results67,go_sem,c0_,c1_]) rfl ⟨a,c,by rw[E1.o,E2.o],by rw[E2.o];exact dE.o,hb_⟩
  ·by_cases hv2:v = -1
   ·obtain⟨e1,e2,e3⟩:=o2 hv2;have E1:=hd_ e1;have E2:=hd_ e2;have HL:=hd_ (fun W hW=>eC.o W hW e3);subst hv2;clear e1 e2 e3 o1 o2 o3 bg eC Hz hv1;go_wp2_with fail;have q0:=NW.cell k0;have q1:=NW.cell k1;have q2:=NW.cell k2;have q3:=NW.cell k3;have gn:Nonempty (NW w1):=⟨⟨w1,Below.refl _ _⟩⟩;have I:Hid (Bw_ w1 w1.drew):=(Below.refl _ _).drew;clear k0 k1 k2 k3;refine wn_ 8 [(1,0),(1,1),(1,2),(1,3),(1,4),(1,5),(0,6),(2,7),(0,8)] I ?_;iterate 6 (refine wr_ rfl ?_;go_big_quiet_step (fail);refine wq_ ?_)
    iterate 1 (refine wm_ rfl ?_;go_wp2_with fail)
    refine cm_ (HL.o _ (H3.o.bel.trans (I.o.mono H3.o.bel.size))) ?_;rintro e_ w2 ⟨a,c,rfl,hi,hb⟩;have I1:Hid (Bw_ w1 w2):=I.o.trans (hb.mono I.o.size);have H5:=hd_ (H3.o.next I1.o);have HI:=hd_ hi;clear hb hi I H3;go_wp2_with fail;refine⟨⟨⟨_,I1.o⟩,rfl⟩,?_⟩;refine wa_ rfl ?_;go_big_quiet_step (fail);refine wq_ ?_;obtain⟨k0_,k1_,EU,dj⟩:=Ka H5.o.fr;have gR:=hd_ (Kl (.bool sy) (.slice a (wN (q-p)).length c) k0_ k1_ (show w.heap.size<=w.heap.size+1+1 by omega) H5.o.bel);have dE:=hd_ (HI.o.set2 (Zag H5.o.fr) (.bool sy) (.slice a (wN (q-p)).length c));iterate 1 (refine wm_ rfl ?_;go_wp2_with fail)
    simp only[RP.walkR];go_wp2_with fail;obtain⟨c0_,c1_,hb_⟩:=gR.o;exact bodyPost_ret (v := .agg #[.bool sy,.slice a (wN (q-p)).length c]) (by simp[results,Tryz.results67,go_sem,c0_,c1_]) rfl ⟨a,c,by rw[E1.o,E2.o],by rw[E2.o];exact dE.o,hb_⟩
   ·obtain⟨e1,e2⟩:=Hz.o (o3 hv1 hv2);have E1:=hd_ e1;have E2:=hd_ e2;have hZ:(v==1)=false:=by rw[beq_eq_false_iff_ne];exact hv1
    have HU:(v == -1)=false:=by rw[beq_eq_false_iff_ne];exact hv2
    have HN:=hd_ (IsX.zero w1);have B1:=hd_ H3.o.bel;clear e1 e2 o1 o2 o3 bg eC Hz hv1 hv2 k0 k1 k2 k3;obtain⟨k0_,k1_,EU,dj⟩:=Ka H3.o.fr;have gR:=hd_ (Kl (.bool false) (.slice none 0 0) k0_ k1_ (by omega) B1.o);have dE:=hd_ (HN.o.set2 (Zag H3.o.fr) (.bool false) (.slice none 0 0));go_wp2;obtain⟨c0_,c1_,hb_⟩:=gR.o;generalize ((w1).setCell ⟨w.heap.size+1+1,0,none⟩ (.bool false)).setCell ⟨w.heap.size+1+1,1,none⟩ (.slice none 0 0)=w9_ at *;exact bodyPost_ret (v := .agg #[.bool false,.slice none 0 0]) (by simp[results,Tryz.results67,go_sem,c0_,c1_]) rfl ⟨none,0,by rw[E1.o,E2.o,Vg];rfl,by rw[E2.o];exact dE.o,hb_⟩
def Zpn:Go.Shelf.Ren:=⟨fun | 25=>313 | n=>n,fun | 22=>204 | n=>n,fun | n=>n⟩
theorem Qdr:Go.Proofs.Lays7.n25 Tryz.prog Zpn:={
 mixed:=by kernel_rfl
 f25:=Tryz.func313.trans (congrArg some (by kernel_rfl))
 t22:=Tryz.underlying204
 a22:=Tryz.isAgg204
 z22:=Tryz.sizeOf204
 v22:=Tryz.zeroValue204
 i22:=by kernel_rfl }
theorem Zoa(x y c:Nat)(hc:c<=1)(w:World):
  (callFunc 313 #[.int .u64 x,.int .u64 y,.int .u64 c]).run Tryz.prog w = .ok (.value (.tuple #[.int .u64 (((x+y+c)%18446744073709551616:Nat):Int),.int .u64 (((x+y+c)/18446744073709551616:Nat):Int)])) w:=Any7.bits_Add64 Qdr x y c hc w
theorem Zka(x y:Nat)(w:World):
  (callFunc 313 #[.int .u64 x,.int .u64 y,.int .u64 0]).run Tryz.prog w = .ok (.value (.tuple #[.int .u64 (((x+y)%18446744073709551616:Nat):Int),.int .u64 (((x+y)/18446744073709551616:Nat):Int)])) w:=Zoa x y 0 (by omega) w
structure Qia (p:List Nat) (B k:Nat) (L:List Nat) (w wr:World):Prop where
 len:L.length=2*p.length+1
 pcs:Wds L
 v:vW L=vW (p.take k)*vW p
 z:∀ j,k+p.length<=j->L.getD j 0=0
 own:Vb wr B (some ⟨B,0,none⟩) (2*p.length+1) L
 bel:Below B w wr
structure QIn (p L:List Nat) (B i m cc:Nat) (M:List Nat) (w wr:World):Prop where
 len:M.length=2*p.length+1
 pcs:Wds M
 v:vW M+18446744073709551616^(i+m)*cc=vW L+18446744073709551616^i*(p.getD i 0*vW (p.take m))
 z:∀ j,i+p.length<=j->M.getD j 0=0
 own:Vb wr B (some ⟨B,0,none⟩) (2*p.length+1) M
 bel:Below B w wr
theorem Qdl{x y:Nat}(hx:x<18446744073709551616)(hy:y<18446744073709551616):x*y<=340282366920938463426481119284349108225:=Nat.mul_le_mul (show x<=18446744073709551615 by omega) (show y<=18446744073709551615 by omega)
structure SqW (xy e cc h l l1 c1 h1 l2 c2 h2:Nat):Prop where
 hh:xy/18446744073709551616=h
 hl:xy%18446744073709551616=l
 k1:(l+e)%18446744073709551616=l1
 k2:(l+e)/18446744073709551616=c1
 k3:h+c1=h1
 k4:(l1+cc)%18446744073709551616=l2
 k5:(l1+cc)/18446744073709551616=c2
 k6:h1+c2=h2
 r1:(xy+e+cc)%18446744073709551616=l2
 r2:(xy+e+cc)/18446744073709551616=h2
 b1:h1<18446744073709551616
 b2:h2<18446744073709551616
theorem sqW{xy e cc:Nat}(fW:xy<=340282366920938463426481119284349108225)(he:e<18446744073709551616)(hc:cc<18446744073709551616):
  ∃ h l l1 c1 h1 l2 c2 h2,SqW xy e cc h l l1 c1 h1 l2 c2 h2:=by
 refine⟨_,_,_,_,_,_,_,_,⟨rfl,rfl,rfl,rfl,rfl,rfl,rfl,rfl,?_,?_,?_,?_⟩⟩<;>omega
theorem Zjd(w:World)(a1:OA_)(c1:Nat)(p:List Nat)(h1:Ql w a1 p)(p1:Wds p)(l1:p.length<=10000):
  Calls Tryz.prog 306 #[.slice a1 p.length c1] w fun e w'=>∃ a c L,e = .returned (.slice a (2*p.length+1) c)/\L.length=2*p.length+1/\Vb w' w.heap.size a c L/\Wds L/\vW L=vW p*vW p/\Bw_ w w':=by
 have H1:=hd_ h1;have P1:=hd_ p1;clear h1 p1;obtain⟨n,hn⟩:∃ n,p.length=n:=⟨_,rfl⟩;have Hn:=hd_ hn;rw[hn] at l1 ⊢;clear hn;have fN:=Zwo (2*n+1) w (by omega);have gw:=hd_ (Zck w (List.replicate (2*n+1) 0) (by simp;omega));have Hb:=hd_ ((Below.refl w.heap.size w).alloc nr_ (.cells (Zv (List.replicate (2*n+1) 0)).toArray 204))
 push_cast at fN
 generalize w.alloc (.cells (Zv (List.replicate (2*n+1) 0)).toArray 204)=w1 at *;go_enter Tryz.func306,Tryz.ntmps306;go_wp2_with fail
 go_loopw [19] (fun i wr=>∃ (k:Nat) (L:List Nat),k<=n/\i = .int .i64 k/\Hid (Qia p w.heap.size k L w wr)) (fun i _=>n-(intOf i).toNat)
 case atStart =>
  refine⟨0,List.replicate (2*n+1) 0,Nat.zero_le _,rfl,?_⟩;refine⟨by simp[Hn.o],Wds.zeros _,by simp[Zkf,vW],fun j _=>?_,?_,Hb.o⟩
  ·rw[List.getD_eq_getElem?_getD,List.getElem?_replicate];split<;>rfl
  ·have:=gw.o
   rw[List.length_replicate] at this;rw[Hn.o];exact this
 case round =>
  obtain⟨k,L,hk,rfl,HT⟩:=hrel;clear gw Hb fN
  by_cases H7:k<n
  ·obtain⟨b1,o1,rfl,hZ,gG⟩:=H1.o.open (by rw[Hn.o];omega);have cx:=gG k (by rw[Hn.o];exact H7);rw[<- HT.o.bel.cell (p:=⟨b1,o1+k,none⟩) hZ] at cx;have hx:=P1.o.getD k;clear gG;obtain⟨x,hxx⟩:∃ x,p.getD k 0=x:=⟨_,rfl⟩;rw[hxx] at cx hx;have dV:=hd_ hxx;clear hxx;obtain⟨wo,hwo⟩:∃ wo:World,wo=wr:=⟨_,rfl⟩;subst hwo;go_wp2_with fail
   go_loopw [6,26] (fun c j wr=>∃ (t cc:Nat) (M:List Nat),t<=n/\cc<18446744073709551616/\j = .int .i64 t/\c = .int .u64 cc/\Hid (QIn p L w.heap.size k t cc M w wr)) (fun _ j _=>n-(intOf j).toNat)
   case atStart =>
    refine⟨0,0,L,Nat.zero_le _,by omega,rfl,rfl,?_⟩;exact⟨HT.o.len,HT.o.pcs,by simp[vW],HT.o.z,HT.o.own,HT.o.bel⟩
   case round =>
    obtain⟨t,cc,M,ht,FW,rfl,rfl,HI⟩:=hrel;obtain⟨g,hg,fF,hg2,hg3,hg4,hg5⟩:=HI.o.own.open (by rw[HI.o.len,Hn.o];omega);obtain rfl:w.heap.size=g:=by simpa using hg
    clear hg
    by_cases Gk:t<n
    ·have ph:=H1.o.open (by rw[Hn.o];omega);obtain⟨b2,o2,e2,HU,Gb⟩:=ph;have cy:=Gb t (by rw[Hn.o];exact Gk);rw[<- HI.o.bel.cell (p:=⟨b2,o2+t,none⟩) HU] at cy;simp only[Option.some.injEq,Addr.mk.injEq,and_true] at e2;obtain⟨rfl,rfl⟩:=e2;have hy:=P1.o.getD t;have ce:=hg4 (k+t) (by rw[HI.o.len,Hn.o];omega);have he:=HI.o.pcs.getD (k+t);have fe:=hg5 (k+t);have fW:=Qdl hx hy;have gF:=Qc0 M p k t x cc (vW L) (by rw[Hn.o];exact Gk) (by rw[HI.o.len,Hn.o];omega) (by have:=HI.o.v;rw[dV.o] at this;exact this);have gk:Hid (QIn p L w.heap.size k (t+1) ((x*p.getD t 0+M.getD (k+t) 0+cc)/18446744073709551616) (M.set (k+t) ((x*p.getD t 0+M.getD (k+t) 0+cc)%18446744073709551616)) w (wr.setCell ⟨w.heap.size,k+t,none⟩ (.int .u64 ((x*p.getD t 0+M.getD (k+t) 0+cc)%18446744073709551616:Nat)))) :=
      ⟨by rw[List.length_set];exact HI.o.len,HI.o.pcs.set _ _ (Nat.mod_lt _ (by decide)),by rw[dV.o];exact gF,fun j hj=>by rw[Zbc _ _ _ _ (by have:=Hn.o;omega)];exact HI.o.z j hj,HI.o.own.store (k+t) _,HI.o.bel.setCell (p:=⟨w.heap.size,k+t,none⟩) nr_ _⟩
     have f7:=Tryz.bits_Mul64 x (p.getD t 0) hx hy wr;clear gF Gb hg4 hg5;generalize M.getD (k+t) 0=e at *;generalize p.getD t 0=y at *;generalize x*y=xy at *;obtain⟨h,l,MJ,c1',Eu,l2,c2,h2,W⟩:=sqW fW he FW;have nJ:=fun W=>Zka l e W
     have nH:=fun W=>Zka MJ cc W
     rw[W.k1,W.k2] at nJ;rw[W.k4,W.k5] at nH;rw[W.hh,W.hl] at f7;rw[W.r1,W.r2] at gk;have fg:IntKind.u64.wrap ((h:Int)+c1')=(Eu:Nat):=by rw[<- Int.natCast_add,W.k3];exact Qq _ W.b1
     have fS:IntKind.u64.wrap ((Eu:Int)+c2)=(h2:Nat):=by rw[<- Int.natCast_add,W.k6];exact Qq _ W.b2
     have HU:=W.b2;have Oj:IntKind.i64.wrap ((k:Int)+t)=((k+t:Nat):Int):=by rw[<- Int.natCast_add];exact iw_ _ (by omega)
     clear W fW hx hy he;go_wp2_with fail;refine cm_ f7 ?_;rintro e_ w3 ⟨rfl,rfl⟩;clear f7;go_wp2
     go_roundw
     case rel=>exact⟨t+1,h2,_,by omega,HU,by go_num,rfl,gk⟩
     case measure=>simp[intOf];omega
    ·obtain rfl:t=n:=by omega
     have fe:=hg5 (k+t);have ce:=hg4 (k+t) (by rw[HI.o.len,Hn.o];omega);have hz:M.getD (k+t) 0=0:=HI.o.z _ (by rw[Hn.o];exact Nat.le_refl _);have Gn:=Qfj L M p p k cc (by rw[Hn.o];exact H7) (by rw[HI.o.len,Hn.o];omega) (HI.o.z _ nr_) HT.o.v (by rw[Hn.o];exact HI.o.v);rw[Hn.o] at Gn;have fw:Hid (Qia p w.heap.size (k+1) (M.set (k+t) cc) w (wr.setCell ⟨w.heap.size,k+t,none⟩ (.int .u64 (cc:Nat)))) :=
      ⟨by rw[List.length_set];exact HI.o.len,HI.o.pcs.set _ _ FW,Gn,fun j hj=>by rw[Zbc _ _ _ _ (by have:=Hn.o;omega)];exact HI.o.z j (by have:=Hn.o;omega),HI.o.own.store (k+t) cc,HI.o.bel.setCell (p:=⟨w.heap.size,k+t,none⟩) nr_ _⟩
     rw[hz] at ce;have Oj:IntKind.i64.wrap ((k:Int)+t)=((k+t:Nat):Int):=by rw[<- Int.natCast_add];exact iw_ _ (by omega)
     have DH:IntKind.u64.wrap (cc:Int)=cc:=Qq _ FW;clear Gn hg4 hg5 Gk HT hz;go_wp2
     go_roundw
     case rel=>exact⟨k+1,_,by omega,by go_num,fw⟩
     case measure=>simp[intOf];omega
  ·obtain rfl:k=n:=by omega
   have hv:vW L=vW p*vW p:=by
    have:=HT.o.v
    rw[<- Hn.o,List.take_length] at this;exact this
   have gd:=HT.o.len;rw[Hn.o] at gd;have Hv:=hd_ hv;have Hl:=hd_ gd;have Ho:=HT.o.own;rw[Hn.o] at Ho;have HO:=hd_ Ho;clear hv H7 gd Ho;go_wp2_with fail;go_ret;exact⟨_,_,L,rfl,Hl.o,HO.o,HT.o.pcs,Hv.o,HT.o.bel⟩
theorem Zfg(w:World)(a:OA_)(c:Nat)(l:List Nat)(hr:Ql w a l)(hl:l.length<=30000)(h0:0<l.length):
  Calls Tryz.prog 305 #[.slice a l.length c] w fun e w'=>∃ g d,e = .returned (.slice (some ⟨g,0,none⟩) l.length d)/\Vb w' w.heap.size (some ⟨g,0,none⟩) d l/\Bw_ w w':=by
 obtain⟨i0,hi,hz0,fE,fM⟩:=info_parts Ztu;have oG:∀ (w:World) (a:OA_) (n c n' c':Nat),(binOp .eql 372 (.slice a n c) (.slice none n' c')).run Tryz.prog w = .ok (.bool a.isNone) w:=fun w a n c n' c'=>Lib.run_eql_slice_nil w _ _ a n c n' c' Tryz.underlying372
 obtain⟨b,o,rfl,GO,fH⟩:=hr.open h0;have Hc:Hid (∀ j u,(Zv l)[j]?=some u->w.cell? ⟨b,o+j,none⟩=some u):=fun j u hj=>by
  have H7:j<l.length:=by
   have:=(List.getElem?_eq_some_iff.1 hj).1
   rw[Zy] at this;exact this
  rw[Zqu l j H7] at hj;rw[<- hj];exact fH j H7
 have eK:Hid (∀ u∈Zv l,u.oneCell'=true):=Zyq l;have gt:Hid ((Zv l).length=l.length):=Zy l;clear fH hr;unfold Vb;generalize Zv l=vs at *;generalize l.length=n at *;go_enter Tryz.func305,Tryz.ntmps305
 go_wp2_with (at_builtin;refine wpList_append_own _ rfl _ _ 372 rfl w.heap.size 204 i0 (.int .u64 0) 1 8 Tryz.underlying372 hi hz0 fE fM rfl (by decide) _ _ _ rfl (World.ownsRow_made w #[] 0 nr_ (Nat.zero_le _) rfl) ⟨b,o,none⟩ n c vs rfl ?qc1 ?qc2 ?qc3 ?qc4 ?qc5 ?qc6 ?_)
 case qc1=>rw[gt.o];omega
 case qc2 =>
  intro j u hj;rw[Addr.add_lit];exact Lib.cell?_alloc_some _ (Hc.o j u hj)
 case qc3=>exact eK.o
 case qc4=>unfold maxLen;omega
 case qc5=>omega
 case qc6=>simp
 intro v' w1 gl gJ GN;obtain⟨a3,d3,rfl⟩:=Qp gl;have G9:w1.ownsRow w.heap.size 204 1 (.slice a3 n d3) n vs:=by simpa using gl
 have B:=hd_ (((Below.refl _ w).alloc nr_ (.cells #[] 204)).grown gJ (by simp) (by intro k hk;simp[Value.ownBlock] at hk;omega));obtain⟨g,cap,hv,-,-,-,-,-⟩:=Qz G9 h0;simp only[Value.slice.injEq] at hv;obtain⟨rfl,-,rfl⟩:=hv;have O:=hd_ G9;clear gl G9 gJ GN;go_wp2_with fail;go_ret;exact⟨g,d3,rfl,O.o,B.o⟩
structure NxI (B n k cc N g c:Nat) (M:List Nat) (w wr:World):Prop where
 len:M.length=n+1
 pcs:Wds M
 v:vW M+18446744073709551616^k*cc=N
 own:Vb wr B (some ⟨g,0,none⟩) c M
 bel:Below B w wr
theorem Zzp(w:World)(a1:OA_)(c1:Nat)(p:List Nat)(h1:Ql w a1 p)(p1:Wds p)(l1:p.length<=20000)(h0:0<p.length):
  Calls Tryz.prog 308 #[.slice a1 p.length c1] w fun e w'=>∃ a c L,e = .returned (.slice a (p.length+1) c)/\L.length=p.length+1/\Vb w' w.heap.size a c L/\Wds L/\vW L=vW p+1/\Bw_ w w':=by
 have HC:=hd_ (Zfg w a1 c1 p h1 (by omega) h0);have P1:=hd_ p1;have H7:=Zsk p1;have A6:vW (p++[0])=vW p:=by rw[Zeh];simp[vW]
 have Dz:=hd_ H7;have me:=hd_ A6;have Ns:Hid (Wds (p++[0])):=p1.append (Wds.zeros 1);clear p1 H7 A6 h1;obtain⟨n,hn⟩:∃ n,p.length=n:=⟨_,rfl⟩;have Hn:=hd_ hn;rw[hn] at l1 h0 HC Dz ⊢;clear hn;go_enter Tryz.func308,Tryz.ntmps308;go_wp2_with fail;refine cm_ HC.o ?_;rintro e w1 ⟨g,d,rfl,ho,hb⟩;have HO:=hd_ ho;have HB:=hd_ hb;clear ho hb HC;have gw:Hid (w1.ownsRow w.heap.size 204 1 (.slice (some ⟨g,0,none⟩) n d) n (Zv p)):=by have:=HO.o;unfold Vb at this;rw[Hn.o] at this;exact this
 have fL:=hd_ HB.o.size
 go_wp2_with (at_builtin;refine Ku rfl (.tmp 7) (.tmp 8) 372 rfl elN _ 1 [.int .u64 0] rfl rfl gw.o fL.o rfl (by simp[Value.oneCell']) (by omega) (by omega) ?_)
 intro v' w2 gl gJ GN;obtain⟨a3,d3,rfl⟩:=Qp gl;have G9:w2.ownsRow w.heap.size 204 1 (.slice a3 (n+1) d3) (n+1) (Zv (p++[0])):=by rw[Vn];exact gl
 obtain⟨g2,cap,hv,-,-,-,-,-⟩:=Qz G9 (by omega);simp only[Value.slice.injEq] at hv;obtain⟨rfl,-,rfl⟩:=hv;have gt:Hid ((p++[0]).length=n+1):=by show _=_;rw[List.length_append,Hn.o];rfl
 have fY:Hid (NxI w.heap.size n 0 1 (vW p+1) g2 d3 (p++[0]) w w2):=by
  refine⟨gt.o,Ns.o,by rw[Nat.pow_zero,me.o],?_,(HB.o.alloc fL.o _).grown gJ (by rw[World.alloc];simp;have:=fL.o;omega) (by intro k hk;simp[Value.ownBlock] at hk;exact(World.ownsRow.lt gw.o k (by simp[Value.ownBlock];exact hk)).1)⟩;unfold Vb;rw[gt.o];exact G9
 clear gl G9 gJ GN HO HB gw fL Ns;go_wp2_with fail
 go_loopw [4,12] (fun cv i wr=>∃ (k cc:Nat) (M:List Nat),k<=n+1/\cc<=1/\i = .int .i64 k/\cv = .int .u64 cc/\Hid (NxI w.heap.size n k cc (vW p+1) g2 d3 M w wr)) (fun _ i _=>n+1-(intOf i).toNat)
 case atStart=>exact⟨0,1,_,Nat.zero_le _,Nat.le_refl _,rfl,rfl,fY⟩
 case round =>
  obtain⟨k,cc,M,hk,FW,rfl,rfl,HI⟩:=hrel;clear fY
  by_cases H7:k<n+1
  ·obtain⟨g,hg,fF,hg2,hg3,hg4,hg5⟩:=HI.o.own.open (by rw[HI.o.len];omega);obtain rfl:g2=g:=by simpa using hg
   clear hg;have gi:(k:Int)<(n:Int)+1:=by omega
   have ce:=hg4 k (by rw[HI.o.len];exact H7);have fe:=hg5 k;have he:=HI.o.pcs.getD k;have GZ:=Zwd M (vW p+1) k cc (by rw[HI.o.len];exact H7) HI.o.v;have Ep:∀ W,(callFunc 313 #[.int .u64 (M.getD k 0:Nat),.int .u64 0,.int .u64 cc]).run Tryz.prog W = .ok (.value (.tuple #[.int .u64 (((M.getD k 0+cc)%18446744073709551616:Nat):Int),.int .u64 (((M.getD k 0+cc)/18446744073709551616:Nat):Int)])) W:=fun W=>by
    have:=Zoa (M.getD k 0) 0 cc FW W
    rw[Nat.add_zero] at this;exact this
   have Gb:(M.getD k 0+cc)/18446744073709551616<=1:=by omega
   have ay:IntKind.i64.wrap ((k:Int)+1)=((k+1:Nat):Int):=by rw[<- Int.natCast_succ];exact iw_ _ (by omega)
   have gk:Hid (NxI w.heap.size n (k+1) ((M.getD k 0+cc)/18446744073709551616) (vW p+1) g2 d3 (M.set k ((M.getD k 0+cc)%18446744073709551616)) w (wr.setCell ⟨g2,k,none⟩ (.int .u64 ((M.getD k 0+cc)%18446744073709551616:Nat)))) :=
    ⟨by rw[List.length_set];exact HI.o.len,HI.o.pcs.set _ _ (Nat.mod_lt _ (by decide)),GZ,HI.o.own.store k _,HI.o.bel.setCell (p:=⟨g2,k,none⟩) fF _⟩
   have gP:=hd_ Gb;clear GZ Gb hg4 hg5 hg3 he HI;generalize (M.getD k 0+cc)/18446744073709551616=q at *;generalize (M.getD k 0+cc)%18446744073709551616=v at *;generalize M.getD k 0=e at *;go_wp2_with fail;refine⟨⟨k+1,q,_,by omega,gP.o,by go_num,rfl,gk⟩,by simp[intOf];omega⟩
  ·obtain rfl:k=n+1:=by omega
   have gi:¬ ((n+1:Nat):Int)<(n:Int)+1:=by omega
   have hv:=HI.o.v;have Do:cc=0:=by
    have h2:=Dz.o;have h3:18446744073709551616^n<18446744073709551616^(n+1):=Nat.pow_lt_pow_right (by decide) (by omega);rcases Nat.eq_zero_or_pos cc with h|h
    ·exact h
    ·have h4:18446744073709551616^(n+1)*1<=18446744073709551616^(n+1)*cc:=Nat.mul_le_mul_left _ h;generalize 18446744073709551616^(n+1)*cc=Z at *;omega
   rw[Do,Nat.mul_zero,Nat.add_zero] at hv;have Hv:=hd_ hv;have gd:=HI.o.len;have Hl:=hd_ gd;have Ho:=HI.o.own;clear hv gd Do;go_wp2_with fail;go_ret;exact⟨_,_,rfl,M,Hl.o,Ho,HI.o.pcs,Hv.o,HI.o.bel⟩
theorem Zvv{l:List Nat}{b wo r:Nat}(e:b=64*wo+r)(hr:r<64)(h:Wds l)(hw:wo<l.length):(∃ i,i<l.length-wo/\(shW l wo r (l.length-wo)).getD i 0≠0)↔2^b<=vW l:=by
 have hv:=Zox h (wo:=wo) (m:=l.length-wo) hr (by omega);have hz:=Zg0 (shW l wo r (l.length-wo));rw[hv,<- e] at hz;have h1:vW l/2^b=0↔vW l<2^b:=Nat.div_eq_zero_iff_lt (Nat.two_pow_pos b);have hl:=Vi l wo r (l.length-wo);constructor
 ·rintro⟨i,hi,gh⟩;refine Nat.le_of_not_lt fun hc=>?_
  have h2:=hz.1 (h1.2 hc) ((shW l wo r (l.length-wo)).getD i 0);refine gh (h2 ?_);rw[List.getD_eq_getElem?_getD,List.getElem?_eq_getElem (by rw[hl];exact hi)];exact List.getElem_mem _
 ·intro hc;refine Decidable.byContradiction fun hn=>?_
  have h2:=h1.1 (hz.2 fun x hx=>?_)
  ·omega
  ·obtain⟨i,hi,rfl⟩:=List.mem_iff_getElem.1 hx;refine Decidable.byContradiction fun hx=>hn ⟨i,by rw[hl] at hi;exact hi,?_⟩
   rw[List.getD_eq_getElem?_getD,List.getElem?_eq_getElem hi];exact hx
theorem Zo4(w:World)(a1:OA_)(c1:Nat)(p:List Nat)(b wo r:Nat)(e:b=64*wo+r)(hr:r<64)(h1:Ql w a1 p)(p1:Wds p)(l1:p.length<=30000)(hwo:wo<p.length):
  Kc Tryz.prog 309 #[.slice a1 p.length c1,.int .i64 b] w (.bool (decide (2^b<=vW p))):=by
 unfold Kc;have HS:=hd_ (Zhh w a1 c1 p b wo r e hr h1 p1 l1 hwo);have Ao:=hd_ (Zvv e hr p1 hwo);obtain⟨m,hm⟩:∃ m,p.length-wo=m:=⟨_,rfl⟩;have py:=hd_ (Zow p1 (wo:=wo) (m:=p.length-wo) hr);have gt:=hd_ (Vi p wo r (p.length-wo));have lW:m<=30000:=by omega
 have ER:0<m:=by omega
 rw[hm] at HS Ao py gt;clear e h1 p1 l1 hwo hm hr;obtain⟨dd,By⟩:∃ dd,decide (2^b<=vW p)=dd:=⟨_,rfl⟩;have iA:=hd_ By;rw[By];clear By;generalize shW p wo r m=Ls at *;go_enter Tryz.func309,Tryz.ntmps309;go_wp2_with fail;refine cm_ HS.o ?_;rintro e w1 ⟨a,c,rfl,ho,hb⟩;have HO:=hd_ ho;have HB:=hd_ hb;clear ho hb HS;go_wp2_with fail
 go_loopw [11] (fun i wr=>∃ k:Nat,k<=m/\i = .int .i64 k/\Hid (∀ j,j<k->Ls.getD j 0=0)/\Hid (Bw_ w1 wr)) (fun i _=>m-(intOf i).toNat)
 case atStart=>exact⟨0,Nat.zero_le _,rfl,fun j hj=>absurd hj (Nat.not_lt_zero j),Below.refl _ _⟩
 case round =>
  obtain⟨k,hk,rfl,HZ,Gt⟩:=hrel
  by_cases H7:k<m
  ·obtain⟨g,rfl,fF,hg2,hg3,hg4,hg5⟩:=HO.o.open (by rw[gt.o];omega);have ce:=hg4 k (by rw[gt.o];exact H7);rw[<- Gt.o.cell (p:=⟨g,k,none⟩) hg2] at ce;have ay:IntKind.i64.wrap ((k:Int)+1)=((k+1:Nat):Int):=by rw[<- Int.natCast_succ];exact iw_ _ (by omega)
   have gi:(k:Int)<m:=by omega
   obtain⟨x,hx⟩:∃ x,Ls.getD k 0=x:=⟨_,rfl⟩;have Hx:=hd_ hx;rw[hx] at ce;clear hx hg4 hg5 hg3
   by_cases h0:x=0
   ·have Pk:Hid (∀ j,j<k+1->Ls.getD j 0=0):=fun j hj=>by
     rcases Nat.lt_or_ge j k with h|h
     ·exact HZ.o j h
     ·obtain rfl:j=k:=by omega
      rw[Hx.o,h0]
    subst h0;go_wp2_with fail;refine⟨⟨k+1,by omega,by go_num,Pk,Gt⟩,by simp[intOf];omega⟩
   ·have Hd:Hid (dd=true):=by
     show _=_
     rw[<- iA.o,decide_eq_true_eq];exact Ao.o.1 ⟨k,H7,by rw[Hx.o];exact h0⟩
    go_wp2_with fail;go_ret;exact⟨by rw[Hd.o];rfl,HB.o.trans (Gt.o.mono HB.o.size)⟩
  ·obtain rfl:k=m:=by omega
   have Hd:Hid (dd=false):=by
    show _=_
    rw[<- iA.o,decide_eq_false_iff_not];intro hc;obtain⟨i,hi,gh⟩:=Ao.o.2 hc;exact gh (HZ.o i hi)
   go_wp2_with fail;go_ret;exact⟨by rw[Hd.o];rfl,HB.o.trans (Gt.o.mono HB.o.size)⟩
theorem Qbe(w:World)(L:Qa w):Kc Tryz.prog 127 #[.string (dec 2)] w (.int .i64 2):=by
 unfold Kc;have h:=Zfa w 2 (by rw[show (dec 2).size=1 by decide +kernel];decide) L;rw[if_pos (by decide)] at h;have H:=hd_ h;have Hl:Hid (∀ W:World,Calls Tryz.prog 212 #[.int .u64 2] W fun e w'=>e = .returned (.int .i64 2)/\w'=W):=fun W=>by
  have:=Tryz.bits_Len64 2 W (by decide) (by decide)
  rw[show ((Lib.bitLen ((2:Int).toNat):Nat):Int)=2 by decide +kernel] at this;exact this
 clear L h;generalize dec 2=s at *;go_enter Tryz.func127,Tryz.ntmps127;go_wp2_with fail;refine cm_ H.o ?_;rintro e w1 ⟨rfl,hZ⟩;have B1:=hd_ hZ;clear hZ H;go_wp2_with fail;refine cm_ (Hl.o _) ?_;rintro e w2 ⟨rfl,rfl⟩;clear Hl;go_wp2_with fail;go_ret;exact⟨rfl,B1.o⟩
theorem Zs0{w:World}{g:Nat}{t:TypeId}(h:w.heap[g]?=some (.cells #[.int .u64 1] t (0,0))):Ql w (some ⟨g,0,none⟩) (Kf 1):=by
 have e:Kf 1=[1]:=by decide +kernel
 rw[e];refine .inr ⟨g,0,rfl,(Array.getElem?_eq_some_iff.1 h).1,fun i hi=>?_⟩;have:i=0:=by simp at hi;exact hi
 subst this;rw[cell_of_row w g 0 _ t (0,0) h];rfl
theorem Zq4(D y:Nat)(h:y<D):(dec (2^y)).size<=D:=by
 rw[Yp _ _ (by omega)];exact Nat.lt_of_le_of_lt (Nat.pow_le_pow_left (by decide) y) (Nat.pow_lt_pow_right (by decide) h)
theorem Zhw(n y:Nat)(hn:n<=4000)(hy:y<=n):(Kf (2^y)).length<=10000 :=
 Vk _ 10000 (by decide) (Zq4 10000 y (by omega))
theorem Zy0(n:Nat)(hn:n<=4000):(dec (2^n)).size<=4001:=Zq4 4001 n (by omega)
theorem Qag(n:Int):bits .and .i64 n 1=n%2:=by
 have h1:(BitVec.ofInt 64 1).toNat=2^1-1:=by decide
 have Gg:(BitVec.ofInt 64 n &&& BitVec.ofInt 64 1).toNat=(n%((2^64:Nat):Int)).toNat%2^1:=by
  rw[BitVec.toNat_and,BitVec.toNat_ofInt,h1,Nat.and_two_pow_sub_one_eq_mod]
 show IntKind.i64.wrap ((BitVec.ofInt 64 n &&& BitVec.ofInt 64 1).toNat:Nat)=n%2
 rw[Gg,IntKind.wrap_i64];omega
theorem Qet(k:Nat)(_:k<4001):(bits BinOp.and IntKind.i64 (k:Nat) 1==1)=decide (k%2=1):=by
 rw[Qag]
 by_cases h:k%2=1
 ·rw[decide_eq_true h,beq_iff_eq];omega
 ·rw[decide_eq_false h,beq_eq_false_iff_ne];omega
theorem Zg7(W:World)(n x y:Nat)(hn:n<=4000)(hx:x<=n)(hy:y<=n)(a1 a2:OA_)(c1 c2:Nat)(h1:Ql W a1 (Kf (2^x)))(h2:Ql W a2 (Kf (2^y))):
  Calls Tryz.prog 129 #[.slice a1 (Kf (2^x)).length c1,.slice a2 (Kf (2^y)).length c2] W fun e w'=>∃ a c,e = .returned (.slice a (Kf (2^(x+y))).length c)/\Ql w' a (Kf (2^(x+y)))/\Bw_ W w':=by
 have l1:=Zhw n x hn hx;have l2:=Zhw n y hn hy;refine cm_ (Zg8 W a1 a2 c1 c2 _ _ h1 h2 (Kp _) (Kp _) (by omega) (by omega)) ?_;rintro e w' ⟨a,c,rfl,ho,hb⟩;rw[Kt,Kt,<- Nat.pow_add] at *
 exact⟨a,c,rfl,ho.reads,hb⟩
theorem Zs7(w:World)(n:Nat)(hn:n<=4000)(L:Qa w):Kc Tryz.prog 51 #[.string (dec 2),.int .i64 n] w (.tuple #[.string (dec (2^n)),.int .i64 0]):=by
 unfold Kc;have hz:=Yz 2;have ho:=Zf4 2;rw[decide_eq_false (by decide)] at hz ho;have Hb:Hid (∀ W,Bw_ w W->Kc Tryz.prog 127 #[.string (dec 2)] W (.int .i64 2)):=fun W hW=>Qbe W (L.below hW)
 have Hc:Hid (∀ W,Ze2 128 #[.string (dec 2)] W 2):=fun W=>Qa5 W 2 (by unfold Num;rw[show (dec 2).size=1 by decide +kernel];decide)
 have Hs:=hd_ (Zy0 n hn);clear L
 by_cases h0:n=0
 ·subst h0;have Hv:Hid (dec (2^0)=⟨#[49]⟩):=by show _=_;rw[Nat.pow_zero,Zt]
  generalize dec (2^0)=vv at *;clear Hb Hc hn;generalize dec 2=s at *;go_enter Tryz.func51,Tryz.ntmps51;go_wp2_with fail
  go_ret2
  exact⟨by rw[Hv.o];rfl,Below.refl _ _⟩
 ·have dP:((n:Int)==0)=false:=by rw[beq_eq_false_iff_ne];omega
  have Fw:¬ (n:Int)<0:=by omega
  have PT:¬ (66439:Int)<n:=by omega
  unfold Ze2 at Hc;obtain⟨vv,EK⟩:∃ s,dec (2^n)=s:=⟨_,rfl⟩;have Fs:=hd_ EK;rw[EK] at Hs ⊢;clear EK;generalize dec 2=s at *;go_enter Tryz.func51,Tryz.ntmps51;go_wp2_with fail;refine cm_ (Hb.o _ (Below.refl _ _)) ?_;rintro e w1 ⟨rfl,hZ⟩;have B1:=hd_ hZ;clear hZ Hb;go_wp2_with fail;have B2:=hd_ (B1.o.alloc B1.o.size (.cells #[.int .u64 1] 204));have R1:Hid (Ql (w1.alloc (.cells #[.int .u64 1] 204)) (some ⟨w1.heap.size,0,none⟩) (Kf 1)):=Zs0 (Go.heap_alloc_new w1 _);generalize w1.alloc (.cells #[.int .u64 1] 204)=w2 at *;clear B1;refine cm_ (Hc.o _) ?_;rintro e w3 ⟨a3,c3,rfl,ho,hb⟩;have B3:=bt_ B2 hb;have R2:=hd_ ho.reads;replace R1:=hd_ (R1.o.below hb nr_);clear hb ho Hc B2;have gC:Hid ((Kf 1).length=1):=hd_ (by decide +kernel);go_wp2_with fail
  go_loopw [1,7,8] (fun m o q wr=>∃ (k x y:Nat) (a1 a2:OA_) (c1 c2:Nat),m = .int .i64 k/\k<=n/\o = .slice a1 (Kf (2^x)).length c1/\q = .slice a2 (Kf (2^y)).length c2/\Hid (x+y*k=n)/\Hid (y<=n)/\Hid (Ql wr a1 (Kf (2^x)))/\Hid (Ql wr a2 (Kf (2^y)))/\Hid (Bw_ w wr)) (fun m _ _ _=>(intOf m).toNat)
  case atStart =>
   refine⟨n,0,1,some ⟨w1.heap.size,0,none⟩,a3,1,c3,rfl,Nat.le_refl _,by rw[Nat.pow_zero,gC.o],rfl,?_,?_,R1,R2,B3⟩
   ·show _=_;omega
   ·show _<=_;omega
  case round =>
   clear R1 R2 B3;obtain⟨k,x,y,a1,a2,c1,c2,rfl,hk,rfl,rfl,Hxy,Hy,R1,R2,B⟩:=hrel;have Hx:Hid (x<=n):=by show _<=_;have:=Hxy.o;omega
   by_cases dR:k=0
   ·subst dR;have Dl:¬ (0:Int)<((0:Nat):Int):=by omega
    have io:Hid (x=n):=by show _=_;have:=Hxy.o;omega
    rw[io.o] at R1 ⊢;have Nj:Hid (Kc Tryz.prog 130 #[.slice a1 (Kf (2^n)).length c1] wr (.string vv)):=by
     have:=Zbp wr a1 c1 (2^n) R1.o (by have:=Zhw n n hn nr_;omega)
     rw[Fs.o] at this;exact this
    have Gu:¬ (20000:Int)<vv.size:=by have:=Hs.o;omega
    go_wp2_with fail;refine cm_ Nj.o ?_;rintro e w9 ⟨rfl,hb⟩;have B9:=bt_ B hb;clear hb Nj;go_wp2_with fail
    go_ret2
    exact⟨rfl,B9.o⟩
   ·have Dl:(0:Int)<k:=by omega
    have hb:=Qet k (by omega)
    by_cases E3:k%2=1
    ·rw[decide_eq_true E3] at hb;have Ht:Hid (Calls Tryz.prog 129 #[.slice a1 (Kf (2^x)).length c1,.slice a2 (Kf (2^y)).length c2] wr fun e w'=>∃ a c,e = .returned (.slice a (Kf (2^(x+y))).length c)/\Ql w' a (Kf (2^(x+y)))/\Bw_ wr w'):=Zg7 wr n x y hn Hx.o Hy.o a1 a2 c1 c2 R1.o R2.o;go_wp2_with fail;refine cm_ Ht.o ?_;rintro e w5 ⟨a5,c5,rfl,r5,hb5⟩;have B5:=bt_ B hb5;replace R1:=hd_ r5;replace R2:=hd_ (R2.o.below hb5 nr_);clear hb5 r5 B Ht
     by_cases fT:1<k
     ·have cq:(1:Int)<k:=by omega
      have aZ:Hid (x+y+(y+y)*(k/2)=n):=by
       show _=_
       have h1:=Hxy.o;obtain⟨h,rfl⟩:∃ h,k=2*h+1:=⟨k/2,by omega⟩;rw[show (2*h+1)/2=h by omega,Nat.add_mul];rw[Nat.mul_add,Nat.mul_left_comm] at h1;omega
      have Ht:Hid (Calls Tryz.prog 129 #[.slice a2 (Kf (2^y)).length c2,.slice a2 (Kf (2^y)).length c2] w5 fun e w'=>∃ a c,e = .returned (.slice a (Kf (2^(y+y))).length c)/\Ql w' a (Kf (2^(y+y)))/\Bw_ w5 w'):=Zg7 w5 n y y hn Hy.o Hy.o a2 a2 c2 c2 R2.o R2.o;go_wp2_with fail;refine cm_ Ht.o ?_;rintro e w6 ⟨a6,c6,rfl,r6,hb6⟩;have B6:=bt_ B5 hb6;replace R2:=hd_ r6;replace R1:=hd_ (R1.o.below hb6 nr_);clear hb6 r6 B5 Ht;go_wp2_with fail
      go_roundw
      case rel =>
       refine⟨k/2,x+y,y+y,_,_,_,_,by go_num,by omega,rfl,rfl,aZ,?_,R1,R2,B6⟩
       show _<=_
       have:=Hxy.o
       have h2:y*2<=y*k:=Nat.mul_le_mul_left _ (by omega);omega
      case measure=>simp[intOf];omega
     ·have cq:¬ (1:Int)<k:=by omega
      go_wp2_with fail
      go_roundw
      case rel =>
       refine⟨k/2,x+y,y,_,_,_,_,by go_num,by omega,rfl,rfl,?_,Hy,R1,R2,B5⟩
       show _=_
       have:=Hxy.o
       have e1:k=1:=by omega
       subst e1;have e2:(1/2:Nat)=0:=rfl;rw[e2];omega
      case measure=>simp[intOf];omega
    ·rw[decide_eq_false E3] at hb
     by_cases fT:1<k
     ·have cq:(1:Int)<k:=by omega
      have aZ:Hid (x+(y+y)*(k/2)=n):=by
       show _=_
       have h1:=Hxy.o;obtain⟨h,rfl⟩:∃ h,k=2*h:=⟨k/2,by omega⟩;rw[show (2*h)/2=h by omega,Nat.add_mul];rw[Nat.mul_left_comm] at h1;omega
      have Ht:Hid (Calls Tryz.prog 129 #[.slice a2 (Kf (2^y)).length c2,.slice a2 (Kf (2^y)).length c2] wr fun e w'=>∃ a c,e = .returned (.slice a (Kf (2^(y+y))).length c)/\Ql w' a (Kf (2^(y+y)))/\Bw_ wr w'):=Zg7 wr n y y hn Hy.o Hy.o a2 a2 c2 c2 R2.o R2.o;go_wp2_with fail;refine cm_ Ht.o ?_;rintro e w6 ⟨a6,c6,rfl,r6,hb6⟩;have B6:=bt_ B hb6;replace R2:=hd_ r6;replace R1:=hd_ (R1.o.below hb6 nr_);clear hb6 r6 B Ht;go_wp2_with fail
      go_roundw
      case rel =>
       refine⟨k/2,x,y+y,_,_,_,_,by go_num,by omega,rfl,rfl,aZ,?_,R1,R2,B6⟩
       show _<=_
       have:=Hxy.o
       have h2:y*2<=y*k:=Nat.mul_le_mul_left _ (by omega);omega
      case measure=>simp[intOf];omega
     ·omega
theorem p2:True:=trivial
end Go.Proofs.YtbielfplgbammaaGreatDoor

namespace Go.Proofs.YtbielfplgbammaaGreatDoor.LN
def lgGo (unit:Nat):Nat->Nat->Nat->Nat->Option Nat
 | 0,_,_,out=>some out
 | n+1,lo,hi,out =>
  if 2*unit<=lo*lo/unit then lgGo unit n (lo*lo/unit/2) ((hi*hi/unit+1)/2+1) (2*out+1)
  else if 2*unit<=hi*hi/unit+1 then none
  else lgGo unit n (lo*lo/unit) (hi*hi/unit+1) (2*out)
def lg (p k n more:Nat):Option Nat:=lgGo (2^more) n (p*2^(more-k)) (p*2^(more-k)) k
def dotI:List Int->List Int->Int
 | a::l,b::m=>a*b+dotI l m
 | _,_=>0
def Zdz (l:List Int):Nat:=(l.map Int.natAbs).sum
def comb (x:Int) (u:List Int) (y:Int) (v:List Int):List Int:=List.zipWith (fun a b=>x*a-y*b) u v
theorem Zet(x y:Int):∀ (u v k:List Int),u.length=v.length->dotI (comb x u y v) k=x*dotI u k-y*dotI v k
 | [],[],_,_=>by simp[comb,dotI]
 | a::u,b::v,[],_=>by simp[comb,dotI]
 | a::u,b::v,c::k,h=>by
  have ih:=Zet x y u v k (by simpa using h);have e:comb x (a::u) y (b::v)=(x*a-y*b)::comb x u y v:=rfl;rw[e];simp only[dotI];rw[ih]
  grind
 | [],_::_,_,h=>by simp at h
 | _::_,[],_,h=>by simp at h
theorem Zp1(K:Nat):∀ (u k:List Int),(∀ x∈k,x.natAbs<=K)->(dotI u k).natAbs<=Zdz u*K
 | [],_,_=>by simp[dotI]
 | _::_,[],_=>by simp[dotI]
 | a::u,b::k,h=>by
  have ih:=Zp1 K u k fun x hx=>h x (List.mem_cons_of_mem _ hx)
  have hb:=h b List.mem_cons_self;have e:Zdz (a::u)=a.natAbs+Zdz u:=by simp[Zdz]
  rw[e,Nat.add_mul];simp only[dotI];have h1:=Int.natAbs_add_le (a*b) (dotI u k);rw[Int.natAbs_mul] at h1;have h2:a.natAbs*b.natAbs<=a.natAbs*K:=Nat.mul_le_mul_left _ hb;omega
def Ze6 (m i:Nat) (d:Int):List Int:=(List.range m).map fun j=>if j=i then d else 0
def Zey (m:Nat):List Int->List (List Int)->List Int
 | x::l,u::ls=>comb x u (-1) (Zey m l ls)
 | _,_=>List.replicate m 0
theorem Zgb(m:Nat):∀ (l:List Int) (U:List (List Int)),(∀ u∈U,u.length=m)->(Zey m l U).length=m
 | [],_,_=>by simp[Zey]
 | _::_,[],_=>by simp[Zey]
 | x::l,u::U,h=>by
  have ih:=Zgb m l U fun v hv=>h v (List.mem_cons_of_mem _ hv)
  simp only[Zey,comb,List.length_zipWith,ih,h u List.mem_cons_self,Nat.min_self]
theorem Zns(m:Nat)(k:List Int):dotI (List.replicate m 0) k=0:=by
 induction m generalizing k with
 | zero=>rfl
 | succ m ih =>
  cases k with
  | nil=>rfl
  | cons b k=>rw[List.replicate_succ,dotI,ih];simp
theorem Zfl(m:Nat)(k:List Int):∀ (l:List Int) (U:List (List Int)),(∀ u∈U,u.length=m)->(∀ u∈U,dotI u k=0)->dotI (Zey m l U) k=0
 | [],_,_,_=>by rw[Zey];exact Zns m k;simp
 | _::_,[],_,_=>by rw[Zey];exact Zns m k;simp
 | x::l,u::U,h,h0=>by
  rw[Zey,Zet _ _ _ _ _ (by rw[Zgb m l U fun v hv=>h v (List.mem_cons_of_mem _ hv)];exact h u List.mem_cons_self),h0 u List.mem_cons_self,
   Zfl m k l U (fun v hv=>h v (List.mem_cons_of_mem _ hv)) (fun v hv=>h0 v (List.mem_cons_of_mem _ hv))]
  simp
theorem Zia(d:Int):∀ (m i s:Nat) (k:List Int),dotI ((List.range' s m).map fun j=>if j=i then d else 0) k=if s<=i/\i<s+m then d*k.getD (i-s) 0 else 0
 | 0,i,s,k=>by
  rw[if_neg (by omega)];rfl
 | m+1,i,s,[]=>by simp[List.range'_succ,dotI]
 | m+1,i,s,b::k=>by
  rw[List.range'_succ,List.map_cons,dotI,Zia d m i (s+1) k]
  by_cases h:s=i
  ·subst h;rw[if_pos rfl,if_neg (by omega),if_pos (by omega)];simp
  ·rw[if_neg h]
   by_cases h2:s+1<=i/\i<s+1+m
   ·rw[if_pos h2,if_pos (by omega)];have e:i-s=(i-(s+1))+1:=by omega
    rw[e];simp
   ·rw[if_neg h2,if_neg (by omega)];simp
def certOk (a:Int) (L:List Int) (U V:List (List Int)) (d:Int) (K S:Nat):Bool :=
 decide (0<a)&&decide (d≠0) &&
 U.all (fun u=>decide (u.length=L.length)&&decide (Zdz (comb a u (u.headD 0) L)*K+(u.headD 0).natAbs*S<a.natAbs)) &&
 decide (V.length=L.length)&&(List.range L.length).all (fun i=>decide (Zey L.length (V.getD i []) U=Ze6 L.length i d))
theorem cert_zero{a:Int}{L:List Int}{U V:List (List Int)}{d:Int}{K S:Nat}(h:certOk a L U V d K S=true)(k:List Int)(hk:k.length=L.length)(hK:∀ x∈k,x.natAbs<=K)(hS:(dotI L k).natAbs<S):
  ∀ x∈k,x=0:=by
 unfold certOk at h;simp only[Bool.and_eq_true,decide_eq_true_eq,List.all_eq_true,List.mem_range] at h;obtain⟨⟨⟨⟨ha,hd⟩,hU⟩,hV⟩,hI⟩:=h;have h0:∀ u∈U,dotI u k=0:=by
  intro u hu;obtain⟨h1,h2⟩:=hU u hu;have e:=Zet a (u.headD 0) u L k h1;have b:=Zp1 K (comb a u (u.headD 0) L) k hK;generalize u.headD 0=q at *;generalize dotI u k=f at *;generalize dotI L k=T at *;generalize Zdz (comb a u q L)*K=A at *;rw[e] at b;have h3:(a*f).natAbs<=(a*f-q*T).natAbs+(q*T).natAbs:=by omega
  rw[Int.natAbs_mul,Int.natAbs_mul q T] at h3;have h5:q.natAbs*T.natAbs<=q.natAbs*S:=Nat.mul_le_mul_left _ (by omega);have h6:a.natAbs*f.natAbs<a.natAbs*1:=by omega
  have h7:f.natAbs<1:=Nat.lt_of_mul_lt_mul_left h6;omega
 intro x hx;obtain⟨i,hi,rfl⟩:=List.mem_iff_getElem.1 hx;have h1:=hI i (by omega);have h2:=Zfl L.length k (V.getD i []) U (fun u hu=>(hU u hu).1) h0;rw[h1,Ze6,List.range_eq_range',Zia d _ i 0 k,if_pos (by omega)] at h2;rw[Nat.sub_zero,List.getD_eq_getElem?_getD,List.getElem?_eq_getElem hi,Option.getD_some] at h2;rcases Int.mul_eq_zero.1 h2 with h3|h3
 ·exact absurd h3 hd
 ·exact h3
def upT:List (Int×Int)->Nat
 | []=>1
 | x::l=>x.1.toNat^x.2.toNat*upT l
def negT (l:List (Int×Int)):List (Int×Int):=l.map fun x=>(x.1,-x.2)
theorem Zne(l:List (Int×Int)):negT (negT l)=l:=by
 unfold negT;rw[List.map_map]
 conv=>rhs;rw[<- List.map_id l]
 refine List.map_congr_left fun x _=>?_
 simp
def signT (l:List (Int×Int)):Int:=if upT (negT l)<upT l then 1 else if upT l<upT (negT l) then -1 else 0
structure LogAt (n:Nat) (p:Int) (L:Nat):Prop where
 le:2^L<=p.toNat^(2^n)
 lt:p.toNat^(2^n)<2^(L+1)
 two:p=2->L=2^n
 odd:p≠2->2^L<p.toNat^(2^n)
def hiL (f:Int->Nat) (p:Int):Nat:=if p=2 then f p else f p+1
def loS (f:Int->Nat):List (Int×Int)->Nat
 | []=>0
 | x::l=>x.2.toNat*f x.1+loS f l
def hiS (f:Int->Nat):List (Int×Int)->Nat
 | []=>0
 | x::l=>x.2.toNat*hiL f x.1+hiS f l
theorem Zem(n:Nat)(f:Int->Nat):∀ l:List (Int×Int),(∀ x∈l,LogAt n x.1 (f x.1))->2^loS f l<=upT l^(2^n)
 | [],_=>by simp[loS,upT]
 | x::l,h=>by
  have ih:=Zem n f l fun y hy=>h y (List.mem_cons_of_mem _ hy)
  have hx:=(h x List.mem_cons_self).le;rw[loS,upT,Nat.pow_add,Nat.mul_pow];refine Nat.mul_le_mul ?_ ih;rw[<- Nat.pow_mul,Nat.mul_comm x.2.toNat,Nat.mul_comm x.2.toNat,Nat.pow_mul,Nat.pow_mul];exact Nat.pow_le_pow_left hx _
theorem Qfd(n:Nat)(f:Int->Nat)(l:List (Int×Int))(h:∀ x∈l,LogAt n x.1 (f x.1)):0<upT l:=by
 have:=Zem n f l h
 by_cases h0:upT l=0
 ·rw[h0,Nat.zero_pow (Nat.two_pow_pos _)] at this;have:=Nat.two_pow_pos (loS f l)
  omega
 ·omega
theorem Zg2(n:Nat)(f:Int->Nat):∀ l:List (Int×Int),(∀ x∈l,LogAt n x.1 (f x.1))->upT l^(2^n)<=2^hiS f l
 | [],_=>by simp[hiS,upT]
 | x::l,h=>by
  have ih:=Zg2 n f l fun y hy=>h y (List.mem_cons_of_mem _ hy)
  have hx:=h x List.mem_cons_self;have hh:x.1.toNat^(2^n)<=2^hiL f x.1:=by
   unfold hiL;split
   ·rename_i e;rw[hx.two e,e];exact Nat.le_refl _
   ·exact Nat.le_of_lt hx.lt
  rw[hiS,upT,Nat.pow_add,Nat.mul_pow];refine Nat.mul_le_mul ?_ ih;rw[<- Nat.pow_mul,Nat.mul_comm x.2.toNat,Nat.pow_mul,Nat.mul_comm x.2.toNat,Nat.pow_mul 2];exact Nat.pow_le_pow_left hh _
theorem Zhq{a b c d:Nat}(h:a<b)(h2:c<=d)(hd:0<d):a*c<b*d:=Nat.lt_of_le_of_lt (Nat.mul_le_mul_left _ h2) (Nat.mul_lt_mul_of_pos_right h hd)
theorem Zf1{a b c d:Nat}(h:a<=b)(h2:c<d)(hb:0<b):a*c<b*d:=Nat.lt_of_le_of_lt (Nat.mul_le_mul_right _ h) (Nat.mul_lt_mul_of_pos_left h2 hb)
theorem Zm3(n:Nat)(f:Int->Nat):∀ l:List (Int×Int),(∀ x∈l,LogAt n x.1 (f x.1))->(∃ x∈l,x.1≠2/\0<x.2)->2^loS f l<upT l^(2^n)
 | [],_,h=>by obtain⟨_,h,_⟩:=h;cases h
 | x::l,h,h2=>by
  have hl:∀ y∈l,LogAt n y.1 (f y.1):=fun y hy=>h y (List.mem_cons_of_mem _ hy)
  have lA:=Zem n f l hl;have hx:=h x List.mem_cons_self;have GD:=Nat.pow_pos (n:=2^n) (Qfd n f l hl);rw[loS,upT,Nat.pow_add,Nat.mul_pow];have e1:2^(x.2.toNat*f x.1)=(2^f x.1)^x.2.toNat:=by rw[Nat.mul_comm,Nat.pow_mul]
  have e2:(x.1.toNat^x.2.toNat)^(2^n)=(x.1.toNat^(2^n))^x.2.toNat:=by rw[<- Nat.pow_mul,Nat.mul_comm,Nat.pow_mul]
  rw[e1,e2];obtain⟨y,hy,DZ,hy0⟩:=h2;rcases List.mem_cons.1 hy with rfl|hy
  ·exact Zhq (Nat.pow_lt_pow_left (hx.odd DZ) (by omega)) lA GD
  ·have ih:=Zm3 n f l hl ⟨y,hy,DZ,hy0⟩;exact Zf1 (Nat.pow_le_pow_left hx.le _) ih (Nat.pow_pos (Nat.lt_of_lt_of_le (Nat.two_pow_pos _) hx.le))
theorem Zmc(n:Nat)(f:Int->Nat):∀ l:List (Int×Int),(∀ x∈l,LogAt n x.1 (f x.1))->(∃ x∈l,x.1≠2/\0<x.2)->upT l^(2^n)<2^hiS f l
 | [],_,h=>by obtain⟨_,h,_⟩:=h;cases h
 | x::l,h,h2=>by
  have hl:∀ y∈l,LogAt n y.1 (f y.1):=fun y hy=>h y (List.mem_cons_of_mem _ hy)
  have lA:=Zg2 n f l hl;have hx:=h x List.mem_cons_self;have hh:x.1.toNat^(2^n)<=2^hiL f x.1:=by
   unfold hiL;split
   ·rename_i e;rw[hx.two e,e];exact Nat.le_refl _
   ·exact Nat.le_of_lt hx.lt
  rw[hiS,upT,Nat.pow_add,Nat.mul_pow];have e1:2^(x.2.toNat*hiL f x.1)=(2^hiL f x.1)^x.2.toNat:=by rw[Nat.mul_comm,Nat.pow_mul]
  have e2:(x.1.toNat^x.2.toNat)^(2^n)=(x.1.toNat^(2^n))^x.2.toNat:=by rw[<- Nat.pow_mul,Nat.mul_comm,Nat.pow_mul]
  rw[e1,e2];obtain⟨y,hy,DZ,hy0⟩:=h2;rcases List.mem_cons.1 hy with rfl|hy
  ·refine Zhq (Nat.pow_lt_pow_left ?_ (by omega)) lA (Nat.two_pow_pos _);unfold hiL;rw[if_neg DZ];exact hx.lt
  ·have ih:=Zmc n f l hl ⟨y,hy,DZ,hy0⟩;exact Zf1 (Nat.pow_le_pow_left hh _) ih (Nat.pow_pos (Nat.two_pow_pos _))
theorem Zrl{n:Nat}{f:Int->Nat}{l:List (Int×Int)}(h:∀ x∈l,LogAt n x.1 (f x.1)):∀ x∈negT l,LogAt n x.1 (f x.1):=by
 intro x hx;obtain⟨y,hy,rfl⟩:=List.mem_map.1 hx;exact h y hy
theorem Zzw(n:Nat)(f:Int->Nat)(l:List (Int×Int))(h:∀ x∈l,LogAt n x.1 (f x.1))(h0:∀ x∈l,x.2≠0)(gh:l≠[])(hd:(l.map Prod.fst).Nodup)(Gj:hiS f (negT l)<=loS f l):
  upT (negT l)<upT l:=by
 have hn:∀ x∈negT l,LogAt n x.1 (f x.1):=Zrl h;have c1:=Zg2 n f (negT l) hn;have c2:=Zem n f l h;have c3:2^hiS f (negT l)<=2^loS f l:=Nat.pow_le_pow_right (by decide) Gj;have Gg:upT (negT l)^(2^n)<upT l^(2^n)->upT (negT l)<upT l:=fun hk=>(Nat.pow_lt_pow_iff_left (Nat.ne_of_gt (Nat.two_pow_pos n))).1 hk
 by_cases E3:∃ x∈l,x.1≠2
 ·obtain⟨x,hx,fR⟩:=E3;have Jr:=h0 x hx
  by_cases hp:0<x.2
  ·have:=Zm3 n f l h ⟨x,hx,fR,hp⟩
   exact Gg (by omega)
  ·have:=Zmc n f (negT l) hn ⟨(x.1,-x.2),List.mem_map.2 ⟨x,hx,rfl⟩,fR,by show 0 < -x.2;omega⟩
   exact Gg (by omega)
 ·have h2:∀ x∈l,x.1=2:=fun x hx=>Classical.byContradiction fun hh=>E3 ⟨x,hx,hh⟩
  match l,gh,hd,h2,h0,Gj with
  | [x],_,_,h2,h0,Gj =>
   have e:=h2 x List.mem_cons_self;have Jr:=h0 x List.mem_cons_self;have hf:=(h x List.mem_cons_self).two e;have GI:=Nat.two_pow_pos n;simp only[negT,List.map_cons,List.map_nil,hiS,loS,hiL,if_pos e,upT,Nat.add_zero,Nat.mul_one] at Gj ⊢;rw[hf] at Gj;have h3:(-x.2).toNat<=x.2.toNat:=Nat.le_of_mul_le_mul_right Gj GI;have h4:0<x.2:=by omega
   have h5:(-x.2).toNat=0:=by omega
   rw[h5,e];exact Nat.one_lt_two_pow (by omega)
  | x::y::r,_,hd,h2,_,_ =>
   exfalso;have e1:=h2 x List.mem_cons_self;have e2:=h2 y (List.mem_cons_of_mem _ List.mem_cons_self);simp only[List.map_cons,List.nodup_cons,List.mem_cons] at hd;exact hd.1 (.inl (by rw[e1,e2]))
theorem sign_low(n:Nat)(f:Int->Nat)(l:List (Int×Int))(h:∀ x∈l,LogAt n x.1 (f x.1))(h0:∀ x∈l,x.2≠0)(gh:l≠[])(hd:(l.map Prod.fst).Nodup)(Gj:hiS f (negT l)<=loS f l):signT l=1:=by
 unfold signT;rw[if_pos (Zzw n f l h h0 gh hd Gj)]
theorem Zvh(l:List (Int×Int)):signT (negT l) = - signT l:=by
 unfold signT;rw[Zne]
 by_cases h:upT (negT l)<upT l
 ·rw[if_pos h,if_neg (by omega),if_pos h]
 ·rw[if_neg h]
  by_cases h2:upT l<upT (negT l)
  ·rw[if_pos h2,if_neg h,if_pos h2];rfl
  ·rw[if_neg h2,if_neg h,if_neg h2];rfl
theorem sign_high(n:Nat)(f:Int->Nat)(l:List (Int×Int))(h:∀ x∈l,LogAt n x.1 (f x.1))(h0:∀ x∈l,x.2≠0)(gh:l≠[])(hd:(l.map Prod.fst).Nodup)(ep:hiS f l<=loS f (negT l)):signT l = -1:=by
 have:=sign_low n f (negT l) (Zrl h) (by
  intro x hx;obtain⟨y,hy,rfl⟩:=List.mem_map.1 hx;have:=h0 y hy
  show -y.2≠0
  omega) (by simpa [negT] using gh) (by
  have e:(negT l).map Prod.fst=l.map Prod.fst:=by simp[negT]
  rw[e];exact hd) (by rw[Zne];exact ep)
 rw[Zvh] at this;omega
def coefP (p:Int):List (Int×Int)->Int
 | []=>0
 | x::l=>(if x.1=p then x.2 else 0)+coefP p l
theorem Zr2(a b:List Int):∀ (u:List Int) (pr:List Int) (g h:Int->Int),dotI u (pr.map fun p=>g p+h p)=dotI u (pr.map g)+dotI u (pr.map h)
 | [],_,_,_=>by simp[dotI]
 | _::_,[],_,_=>by simp[dotI]
 | c::u,p::pr,g,h=>by
  have ih:=Zr2 a b u pr g h;simp only[List.map_cons,dotI];rw[ih,Int.mul_add];omega
theorem Znt(f:Int->Int)(c q:Int):∀ pr:List Int,q ∉ pr->dotI (pr.map f) (pr.map fun p=>if q=p then c else 0)=0
 | [],_=>by simp[dotI]
 | p::pr,h=>by
  simp only[List.mem_cons,not_or] at h;simp only[List.map_cons,dotI];rw[if_neg h.1,Znt f c q pr h.2];simp
theorem Zxl(f:Int->Int)(c q:Int):∀ pr:List Int,pr.Nodup->q∈pr->dotI (pr.map f) (pr.map fun p=>if q=p then c else 0)=c*f q
 | [],_,h=>by simp at h
 | p::pr,hd,h=>by
  simp only[List.nodup_cons] at hd;simp only[List.map_cons,dotI]
  by_cases e:q=p
  ·rw[if_pos e,e,Znt f c p pr hd.1,Int.mul_comm];omega
  ·rw[if_neg e,Zxl f c q pr hd.2 (by simpa [e] using h)];omega
def sumT (f:Int->Nat):List (Int×Int)->Int
 | []=>0
 | x::l=>x.2*f x.1+sumT f l
theorem dotI_coef(f:Int->Nat)(pr:List Int)(hd:pr.Nodup):∀ l:List (Int×Int),(∀ x∈l,x.1∈pr)->dotI (pr.map fun p=>(f p:Int)) (pr.map fun p=>coefP p l)=sumT f l
 | [],_=>by
  simp only[coefP,sumT];have e:∀ u v:List Int,dotI u (v.map fun _=>0)=0:=by
   intro u
   induction u with
   | nil=>intro v;cases v<;>rfl
   | cons a u ih =>
    intro v;cases v with
    | nil=>rfl
    | cons b v=>simp only[List.map_cons,dotI];rw[ih];simp
  exact e _ _
 | x::l,h=>by
  have ih:=dotI_coef f pr hd l fun y hy=>h y (List.mem_cons_of_mem _ hy)
  simp only[coefP,sumT];rw[Zr2 [] [],ih,Zxl _ _ _ pr hd (h x List.mem_cons_self)]
theorem Zfq(p:Int):∀ l:List (Int×Int),p ∉ l.map Prod.fst->coefP p l=0
 | [],_=>rfl
 | x::l,h=>by
  simp only[List.map_cons,List.mem_cons,not_or] at h;rw[coefP,if_neg (fun e=>h.1 e.symm),Zfq p l h.2];rfl
theorem coefP_mem:∀ l:List (Int×Int),(l.map Prod.fst).Nodup->∀ x∈l,coefP x.1 l=x.2
 | [],_,_,h=>by cases h
 | y::l,hd,x,h=>by
  simp only[List.map_cons,List.nodup_cons] at hd;rcases List.mem_cons.1 h with rfl|h
  ·rw[coefP,if_pos rfl,Zfq _ l hd.1];omega
  ·rw[coefP,if_neg (fun e=>hd.1 (by rw[e];exact List.mem_map.2 ⟨x,h,rfl⟩)),coefP_mem l hd.2 x h];omega
theorem coefP_le(K:Nat)(l:List (Int×Int))(hd:(l.map Prod.fst).Nodup)(hK:∀ x∈l,x.2.natAbs<=K)(p:Int):(coefP p l).natAbs<=K:=by
 by_cases h:p∈l.map Prod.fst
 ·obtain⟨x,hx,rfl⟩:=List.mem_map.1 h;rw[coefP_mem l hd x hx];exact hK x hx
 ·rw[Zfq p l h];simp
theorem hiS_le(f:Int->Nat)(K:Nat):∀ l:List (Int×Int),(∀ x∈l,x.2.natAbs<=K)->hiS f l<=loS f l+l.length*K
 | [],_=>by simp[hiS,loS]
 | x::l,h=>by
  have ih:=hiS_le f K l fun y hy=>h y (List.mem_cons_of_mem _ hy)
  have hx:=h x List.mem_cons_self;have e:hiL f x.1<=f x.1+1:=by unfold hiL;split<;>omega
  have e2:x.2.toNat*hiL f x.1<=x.2.toNat*(f x.1+1):=Nat.mul_le_mul_left _ e;rw[Nat.mul_add] at e2;rw[hiS,loS,List.length_cons,Nat.add_mul];omega
theorem sumT_eq(f:Int->Nat):∀ l:List (Int×Int),sumT f l=(loS f l:Int)-(loS f (negT l):Int)
 | []=>rfl
 | x::l=>by
  have ih:=sumT_eq f l;have e:negT (x::l)=(x.1,-x.2)::negT l:=rfl;rw[sumT,ih,e,loS,loS];rw[Int.natCast_add,Int.natCast_add,Int.natCast_mul,Int.natCast_mul];have h:x.2=(x.2.toNat:Int)-((-x.2).toNat:Int):=by omega
  generalize (x.2.toNat:Int)=a at *;generalize ((-x.2).toNat:Int)=b at *;rw[h]
  grind
theorem ends_decide{a d:Int}{pr:List Int}{f:Int->Nat}{U V:List (List Int)}{K S:Nat}(hc:certOk a (pr.map fun p=>(f p:Int)) U V d K S=true)(hp:pr.Nodup)(l:List (Int×Int))(hl:l.length*K<=S)(gh:l≠[])
  (hm:∀ x∈l,x.1∈pr/\x.2≠0/\x.2.natAbs<=K) (hd:(l.map Prod.fst).Nodup):hiS f (negT l)<=loS f l\/hiS f l<=loS f (negT l):=by
 have h1:=hiS_le f K l fun x hx=>(hm x hx).2.2
 have h2:=hiS_le f K (negT l) (by
  intro x hx;obtain⟨y,hy,rfl⟩:=List.mem_map.1 hx;have:=(hm y hy).2.2
  show (-y.2).natAbs<=K
  omega)
 have e:(negT l).length=l.length:=by simp[negT]
 rw[e] at h2;have h3:=sumT_eq f l
 by_cases hT:(sumT f l).natAbs<S
 ·exfalso;rw[<- dotI_coef f pr hp l fun x hx=>(hm x hx).1] at hT;have h4:=cert_zero hc (pr.map fun p=>coefP p l) (by simp) (by
   intro x hx;obtain⟨p,_,rfl⟩:=List.mem_map.1 hx;exact coefP_le K l hd (fun y hy=>(hm y hy).2.2) p) hT
  match l,gh with
  | x::r,_ =>
   have h5:=h4 _ (List.mem_map.2 ⟨x.1,(hm x List.mem_cons_self).1,rfl⟩);rw[coefP_mem _ hd x List.mem_cons_self] at h5;exact(hm x List.mem_cons_self).2.1 h5
 ·omega
def certL:List Int:=[179769313486231590772930519078902473361797697894230657273430081157732675805500963132708477322407536021120113879871393357658789768814416622492847430639474124377767893424865485276302219601246094119453082952085005768838150682342462881473913110540827237163350510684586298239947245938479716304835356329624224137216,284927620656063089346731796384423062894173922742544388268143673752537756183546571537032060353371466816773127126641744722713352439279873718317761842880439823388246733129821933154999969794940367169528507713597703293501225656468836512330451109106556546484957172329017475735990380315252547391823925065085415830706,417411419582294732896156489886154238448013320157255640262591015340590871398055171674354685851436277043969488387805834784269416499993679630854470083136767565961762416444355884854643698642680661331046329726609798457044907851814692689997919935740891485193992980213442174017676677705033790300799565328174789721477,504676267050488686437106225422580597666894180115835423443227083307798182118129470961836692572602004275197053008847790122226159407050037386686227374490996006831065115100048654528796805287857493370208467706711144940390867662095296958256666553836865344662997681178618211252555414200909783814338893188237609625780,621899647134989863023931440843230302890983592943748869067988172264563165309608343386292530753941856327296297447054373896510077744639892806611394391743834589735893855764598242929310750820193556622274206181954361442867402987237247717098957447016989915817775870019501087911877572648074267091007255239964369023968,665225507727408465455298695894691710776360314087386563812869573730968267223165639273012984180830913649657093046906068992579944353826624953775464535759564037586356204133016200974813196209296864512605219833214582093815415417608006173877679388939375373503941628536552970450384072436140060704944322076520073283839]
def Qhr:List (List Int):=[[1361033472052420067100991309064931182091716853391540550899091113545676748165654069454734507830540625923066749738613742662526501494649565328672781710912470855,2157187015429401542138602315378835738079865318741913695197763694877679196962452355322909935492129080345135728398755778866915216677702864904886518349498144093,3160221856840607851781685108452959817026979136557082784519095198183545416828782748691856911460833185893891199012493182590421586823167653542796686423181411803,3820904016851512035743762372109566630477041885378486680143976467669200300212202542157276498189701081899028256409122481989077119745557940859571796331901780602,4708402227241844230881350710329385429292965180311929874646927949603148181156687490795565250855988629463347595457426767248645121403373850130316622376205655824,5036422317702249347264984242308634347603162440235819245412201338095351364705523284785619822633893970185542775747311911336783041820236677902723153542003541995],
 [299687973565947336953693908348658651332127021025370730890883623972659747075648952750207292919729408951165823130818603758290601433328042680561826125489066428,474994200019139640690896719015381054735292729699790408945830646826654284457084852625941217336849063751168404185314953447875618807762968794960545658399964795,695853925522634307249243517247788056805708280722354982344522670436784936810433857855919843198532036588375876439367016064304325129116049564645826288286436995,841330507671831406218103970697802099080070115711533135025373126392723083358858942563189157022256615979955037365105244659930907228808843221236499661374110289,1036750051479376748850033988793626597154995220661079736838726668451637290619206291200505783075082688000877676034076233903503798073310428799011686117489740735,1108977280432649241595140457724586490268455016437124571879230895310093956060594635296497046358777904624265570982229960398488559448522718359131628436452776618],
 [2001432095227681370883033031250657280124239008502396240436193329269779899751073734437881335263033118934661407649401662184445142860843476241971244864603027187,3172194818675649062031549948976346458446291575480633127138527180430090144149945657870703384176547217957998590193298519253946520383353142275844076215046404066,4647181411918432184657996063106137228541057445042859272797028758732513247711022952874593278003645411586711998681909461184937906440067320029532798507864848774,5618730243701494716647491390234016366368147732801005815257985401286419595231562467358169747618992550500502402060613155528580022043540105943291290066113212642,6923817472786135026020292681272359069572685393380617174853881444661977508302607758245986734774019457876979478431489431680461110991886850855640535885324347296,7406178818342856776067456999577349708314416427421774025318657928833991150289316239750934511444397348343774950016253631819156198089215566095848780701490864144],
 [528536423608438686412855271308878199418637088432614320111589911024224382198177128949494362669026076740489188478845726431331723513448155828996706397443325180,837710411684647310522312564104097923139117177113334471362723484405395424151008043983617035281865417395962957088666166267423693251318731944589703713618244329,1227223571147721963246630617648243717815284933494361643201768985968400112439714151460557394407565771139456530795453357502363423731760793034538519393449417404,1483789330303873215968878480452065504812046379488041405674753539793795422454494893163083848604039861079831537330639296756576330493295598940741832154454008688,1828435615432509255958100752235191297210724831090028852837000190432020360373150501910418670178265213952829967280722348250891518419506460528213470146761147669,1955817174404911741025196141353996465572258277146385975044836535532311654150798060211842806764077658974214099154631403207719281988005843100572202176183955081],
 [-1468711569869691212917947732134083722669835323809775214024289413578456753408037268869249086956462231433613497000907220577351639694601234134310649204034172316,-2327852762618760886438615551826346136370330168494265847894449738559028087832799593039841031943095790346604355658488125946578561954780542160298345901268352557,-3410242657366559293362990450499318662931329652440687467996352748484304130112546146565531321508257651827946757887834523977466162302035935620424198790339117028,-4123194654756628344277387666377040541457073401299737549360184284561605431593927292627723203544564083235736204424728469325429173003124213574712357752737593408,-5080907243465631775491331725106607667567794020555851403113895506647993464455619343303375350433823317991140303009422864311178241460123997725934828520026953170,-5434878627639161137069877451178110586761807883549011422834890840123801581219167459321135220817687924522379993148257513492372263375648300907571638870552930820],
 [-2527278727899951042357277652887687714676139814654455825895183801797394312577171470996587787488447973546590744938596754242248050652665729495409064860168750388,-4005642012591688830853788306767450225437525695850649207367482469960977507820045796608400918880715182390339297186644147711819811945556751576743803637464260210,-5868159481922089932185961686356109783421000151793657433855863935794100273872111461436697788866984813598223636272238364084392763747068349791942404099818116664,-7094968376181407917698486220318039050815038790087114445294460660285453776174777870811938078891803417542019334178004801170201148860672020225345222745338937759,-8742947940406537175524478993752549231321711125631551583381469936189250544112233396909737085879577827848253228263908699479854100689968661105092076296067226517,-9352042583534072783038683109624319367784842669410329692573031045141955386391775295867783423242100705425423420660519481116735025587912157359844666391581864370]]
def Qhq:List (List Int):=[[-5056625427619646027375557688934,22492767048728521515228088672644,100757843318868131663255231251409,-109175424216025810518427626349458,43791622722594357708666376464250,31456010246780842523074201168758],
 [14843321736870989170892935211302,-1566413707272055504716434875294,-13231873144781301898553196621410,-4473938268507226690064737724278,-7234649816335129238870443013471,597916375160099280812978039558],
 [-10106195131634014064109565408074,-23752526617964760938273316614011,-2161618493810056733233408947394,11217398622667791280982723293654,-1919025075220832533891098335435,-6509868020063796828750396523277],
 [6851462341036060952856831869449,6038656074418965050194601037329,-11645716143813286921558515426769,2256681498008609696986867869759,5109170126994287454266492989097,-7313988198921797883712129588856],
 [-20280857652371422586076982416269,3240353442599273281533504304323,-6207198472621478050629739916295,10933570427373787624652298476831,-12444462319387663796445073593709,-5934842575408006771328159897859],
 [15112292982976400489100645344947,1886037157824657007738630660331,-5566814279214676496689364407767,12447496499081282177953624596476,226561372143848006543391518164,6425156145734365554949928231685]]
theorem cert_ok:certOk (2^1024) certL Qhr Qhq 1 (2^100) (2^503)=true:=by decide +kernel
end Go.Proofs.YtbielfplgbammaaGreatDoor.LN

namespace Go.Proofs.YtbielfplgbammaaGreatDoor
def Zie (unit:Nat):Nat->Nat×Nat×Nat->Option (Nat×Nat×Nat)
 | 0,s=>some s
 | n+1,s=>(Va unit s).bind (Zie unit n)
theorem Zj2(unit:Nat):∀ (n:Nat) (s:Nat×Nat×Nat),Zie unit (n+1) s=(Zie unit n s).bind (Va unit)
 | 0,s=>by simp[Zie]
 | n+1,s=>by
  show (Va unit s).bind (Zie unit (n+1))=((Va unit s).bind (Zie unit n)).bind (Va unit)
  cases Va unit s with
  | none=>rfl
  | some t=>exact Zj2 unit n t
theorem Zp4(p more:Nat):∀ n,Vm p more n=Zie (2^more) n (p*2^(more-p.log2),p*2^(more-p.log2),p.log2)
 | 0=>rfl
 | n+1=>by rw[Zj2,<- Zp4 p more n];rfl
theorem Zpm(unit:Nat):∀ (n lo hi out:Nat),LN.lgGo unit n lo hi out=(Zie unit n (lo,hi,out)).map fun s=>s.2.2
 | 0,_,_,_=>rfl
 | n+1,lo,hi,out=>by
  unfold LN.lgGo Zie Va;simp only;split
  ·rw[Zpm unit n];rfl
  ·split
   ·rfl
   ·rw[Zpm unit n];rfl
theorem Zwu(p n more:Nat):LN.lg p p.log2 n more=(Vm p more n).map fun s=>s.2.2:=by
 rw[Zp4];exact Zpm _ _ _ _ _
structure Qbq (u:Nat) (s t:Nat×Nat×Nat):Prop where
 lo:s.1*u<=t.1
 hi:t.2.1<=s.2.1*u
 o:t.2.2=s.2.2
 le:t.1<=t.2.1
theorem Zt3{unit u:Nat}(hu:0<u)(h0:0<unit){s t s':Nat×Nat×Nat}(h:Qbq u s t)(hs:Va unit s=some s'):∃ t',Va (unit*u) t=some t'/\Qbq u s' t':=by
 obtain⟨l,g,o⟩:=s;obtain⟨l2,g2,o2⟩:=t;obtain⟨hl,hg,ho,fz⟩:=h;simp only at hl hg ho fz;subst ho;have q1:l*l/unit*u<=l2*l2/(unit*u):=by
  rw[Nat.le_div_iff_mul_le (Nat.mul_pos h0 hu)];have a:=Nat.div_mul_le_self (l*l) unit
  calc l*l/unit*u*(unit*u)=(l*l/unit*unit)*(u*u):=by ac_rfl
   _<=l*l*(u*u):=Nat.mul_le_mul_right _ a
   _=(l*u)*(l*u):=by ac_rfl
   _<=_:=Nat.mul_le_mul hl hl
 have q2:g2*g2/(unit*u)+1<=(g*g/unit+1)*u:=by
  rw[Nat.add_one_le_iff,Nat.div_lt_iff_lt_mul (Nat.mul_pos h0 hu)];have a:=Nat.lt_div_mul_add (a:=g*g) h0;have b:g*g<(g*g/unit+1)*unit:=by rw[Nat.add_mul,Nat.one_mul];exact a
  calc g2*g2<=(g*u)*(g*u):=Nat.mul_le_mul hg hg
   _=g*g*(u*u):=by ac_rfl
   _<(g*g/unit+1)*unit*(u*u):=Nat.mul_lt_mul_of_pos_right b (Nat.mul_pos hu hu)
   _=_:=by ac_rfl
 have q3:l2*l2/(unit*u)<=g2*g2/(unit*u)+1:=Nat.le_succ_of_le (Nat.div_le_div_right (Nat.mul_le_mul fz fz));have e2:2*(unit*u)=2*unit*u:=by rw[Nat.mul_assoc]
 simp only[Va] at hs ⊢;generalize l*l/unit=A at *;generalize g*g/unit+1=B at *;generalize l2*l2/(unit*u)=A2 at *;generalize g2*g2/(unit*u)+1=B2 at *
 by_cases h1:2*unit<=A
 ·rw[if_pos h1] at hs;cases hs
  have h2:2*(unit*u)<=A2:=by rw[e2];exact Nat.le_trans (Nat.mul_le_mul_right _ h1) q1
  rw[if_pos h2];refine⟨_,rfl,?_,?_,rfl,by simp only;omega⟩
  ·show A/2*u<=A2/2
   rw[Nat.le_div_iff_mul_le (by decide)]
   calc A/2*u*2=A/2*2*u:=by ac_rfl
    _<=A*u:=Nat.mul_le_mul_right _ (Nat.div_mul_le_self _ _)
    _<=_:=q1
  ·show B2/2+1<=(B/2+1)*u
   have h3:B2/2<(B/2+1)*u:=by
    rw[Nat.div_lt_iff_lt_mul (by decide)];have h4:B+1<=(B/2+1)*2:=by omega
    have h5:(B+1)*u<=(B/2+1)*2*u:=Nat.mul_le_mul_right _ h4;have h6:(B/2+1)*2*u=(B/2+1)*u*2:=by ac_rfl
    rw[Nat.add_mul] at h5;omega
   exact h3
 ·rw[if_neg h1] at hs
  by_cases h2:2*unit<=B
  ·rw[if_pos h2] at hs;cases hs
  ·rw[if_neg h2] at hs;cases hs
   have h3:B2<2*(unit*u):=by
    rw[e2];exact Nat.lt_of_le_of_lt q2 (Nat.mul_lt_mul_of_pos_right (by omega) hu)
   rw[if_neg (by omega),if_neg (by omega)];exact⟨_,rfl,q1,q2,rfl,q3⟩
theorem Zrv{unit u:Nat}(hu:0<u)(h0:0<unit):∀ (n:Nat) {s t s':Nat×Nat×Nat},Qbq u s t->Zie unit n s=some s'->∃ t',Zie (unit*u) n t=some t'/\Qbq u s' t'
 | 0,s,t,s',h,hs=>by cases hs;exact⟨t,rfl,h⟩
 | n+1,s,t,s',h,hs=>by
  obtain⟨m,h1,h2⟩:=Option.bind_eq_some_iff.1 hs;obtain⟨m',h3,h4⟩:=Zt3 hu h0 h h1;obtain⟨t',h5,h6⟩:=Zrv hu h0 n h4 h2;exact⟨t',by show (Va (unit*u) t).bind _=_;rw[h3];exact h5,h6⟩
theorem Zxn{p more m2 n:Nat}(hp:p.log2<=more)(hm:more<=m2){s:Nat×Nat×Nat}(h:Vm p more n=some s):∃ t,Vm p m2 n=some t/\t.2.2=s.2.2:=by
 rw[Zp4] at h ⊢;have e:(2:Nat)^m2=2^more*2^(m2-more):=by rw[<- Nat.pow_add];congr 1;omega
 have e2:p*2^(m2-p.log2)=p*2^(more-p.log2)*2^(m2-more):=by rw[Nat.mul_assoc,<- Nat.pow_add];congr 2;omega
 obtain⟨t,h1,h2⟩:=Zrv (Nat.two_pow_pos (m2-more)) (Nat.two_pow_pos more) n (s:=(p*2^(more-p.log2),p*2^(more-p.log2),p.log2)) (t:=(p*2^(m2-p.log2),p*2^(m2-p.log2),p.log2)) ⟨by rw[e2];exact Nat.le_refl _,by rw[e2];exact Nat.le_refl _,rfl,Nat.le_refl _⟩ h;rw[e];exact⟨t,h1,h2.o⟩
theorem Za4{p more:Nat}:∀ {n m:Nat},m<=n->(Vm p more n).isSome=true->(Vm p more m).isSome=true
 | 0,m,h,hs=>by rw[Nat.le_zero.1 h];exact hs
 | n+1,m,h,hs=>by
  rcases Nat.lt_or_eq_of_le h with h|h
  ·refine Za4 (Nat.lt_succ_iff.1 h) ?_;cases hd:Vm p more n with
   | none=>rw[Vm,hd] at hs;cases hs
   | some s=>rfl
  ·rw[h];exact hs
theorem Zic{p n more:Nat}(h:(LN.lg p p.log2 n more).isSome=true):(Vm p more n).isSome=true:=by
 rw[Zwu] at h
 simpa using h
def Zba:List Nat:=[3,5,7,11,13,17,19,23,29,31,37,41,43,47,53,59,61,67,71,73,79,83,89,97]
theorem Qft:Zba.all (fun p=>(LN.lg p p.log2 1056 1120).isSome)=true:=by decide +kernel
theorem Zgn{p:Nat}(h:p∈Zba):p.log2<=6:=by
 have:∀ q∈Zba,q.log2<=6:=by decide
 exact this p h
theorem Zaw{p:Nat}(h:p∈Zba):p%2=1/\3<=p/\p<=97:=by
 have:∀ q∈Zba,q%2=1/\3<=q/\q<=97:=by decide
 exact this p h
theorem Zln{p n more:Nat}(hp:p∈Zba)(hn:n<=1056)(hm:1120<=more):(Vm p more n).isSome=true:=by
 have h:=Qft;rw[List.all_eq_true] at h;have h1:=Za4 (m:=n) hn (Zic (h p hp));have hl:=Zgn hp;obtain⟨s,hs⟩:=Option.isSome_iff_exists.1 h1;obtain⟨t,ht,_⟩:=Zxn (m2:=more) (by omega) (by omega) hs;rw[ht];rfl
theorem Zrs{p N a b:Nat}(h1:Qey p N a)(h2:Qey p N b):a=b:=by
 have e1:2^a<2^(b+1):=Nat.lt_of_le_of_lt h1.1 h2.2;have e2:2^b<2^(a+1):=Nat.lt_of_le_of_lt h2.1 h1.2;have f1:=(Nat.pow_lt_pow_iff_right (by decide)).1 e1;have f2:=(Nat.pow_lt_pow_iff_right (by decide)).1 e2;omega
def lgN (p:Int) (n:Nat):Nat:=if p=2 then 2^n else match Vm p.toNat 1120 n with
 | some s=>s.2.2
 | none=>0
theorem Zeu{p n more:Nat}(hp:p∈Zba)(hn:n<=1056)(hm:6<=more){s:Nat×Nat×Nat}(h:Vm p more n=some s):s.2.2=lgN p n:=by
 have hl:=Zgn hp;have ho:=Zaw hp;have h1:=(Zev p more (by omega) (by omega) n s h).lg;obtain⟨t,ht⟩:=Option.isSome_iff_exists.1 (Zln hp hn (Nat.le_refl 1120));have h2:=(Zev p 1120 (by omega) (by omega) n t ht).lg;have e:lgN p n=t.2.2:=by
  unfold lgN;rw[if_neg (by omega),Int.toNat_natCast,ht]
 rw[e];exact Zrs h1 h2
theorem Zrq{p n:Nat}(hp:p∈Zba)(hn:n<=1056):Qey p (2^n) (lgN p n):=by
 have hl:=Zgn hp;have ho:=Zaw hp;obtain⟨t,ht⟩:=Option.isSome_iff_exists.1 (Zln hp hn (Nat.le_refl 1120));have h2:=(Zev p 1120 (by omega) (by omega) n t ht).lg;rw[Zeu hp hn (by decide) ht] at h2;exact h2
theorem Zb1(n:Nat):lgN 2 n=2^n:=by unfold lgN;rw[if_pos rfl]
theorem Zwv{p n:Nat}(hp:p=2\/p∈Zba)(hn:n<=1056):lgN p n<7*2^n:=by
 rcases hp with rfl|hp
 ·have:=Nat.two_pow_pos n
  rw[show ((2:Nat):Int)=2 from rfl,Zb1];omega
 ·have ho:=Zaw hp;have h:=(Zrq hp hn).1;have h1:p^(2^n)<(2^7)^(2^n):=Nat.pow_lt_pow_left (by omega) (Nat.ne_of_gt (Nat.two_pow_pos n));rw[<- Nat.pow_mul] at h1;have h2:=Nat.lt_of_le_of_lt h h1;exact(Nat.pow_lt_pow_iff_right (by decide)).1 h2
theorem Qde(p:Nat)(h:p%2=1)(m:Nat):p^m%2=1:=by
 induction m with
 | zero=>rfl
 | succ m ih=>rw[Nat.pow_succ,Nat.mul_mod,ih,h]
theorem Qb8{p n:Nat}(hp:p=2\/p∈Zba)(hn:n<=1056):LN.LogAt n (p:Int) (lgN p n):=by
 rcases hp with rfl|hp
 ·rw[show ((2:Nat):Int)=2 from rfl,Zb1];exact⟨Nat.le_refl _,Nat.pow_lt_pow_right (by decide) (by omega),fun _=>rfl,fun h=>absurd rfl h⟩
 ·have ho:=Zaw hp;obtain⟨h1,h2⟩:=Zrq hp hn;refine⟨by rw[Int.toNat_natCast];exact h1,by rw[Int.toNat_natCast];exact h2,fun h=>by omega,fun _=>?_⟩;rw[Int.toNat_natCast];refine Nat.lt_of_le_of_ne h1 fun e=>?_
  have h3:=Qde p ho.1 (2^n);rw[<- e] at h3
  by_cases h0:lgN p n=0
  ·rw[h0] at h2;have:p^1<=p^(2^n):=Nat.pow_le_pow_right (by omega) (Nat.two_pow_pos n)
   rw[Nat.pow_one] at this;omega
  ·obtain⟨k,hk⟩:=Nat.exists_eq_succ_of_ne_zero h0;rw[hk,Nat.pow_succ] at h3;omega
end Go.Proofs.YtbielfplgbammaaGreatDoor

namespace Go.Proofs.YtbielfplgbammaaGreatDoor
open Go.RowKit
theorem Zlp:dec 2=⟨#[50]⟩:=by
 have:(dec 2).data = #[50]:=by decide +kernel
 exact ByteArray.ext this
theorem Vy{x K:Nat}(h:x<2^K)(hK:K<100000):Num x:=by
 unfold Num;have h1:(dec x).size<=K+1:=by
  rw[Yp _ _ (by omega)];exact Nat.lt_of_lt_of_le h (Nat.le_trans (Nat.pow_le_pow_left (by decide) K) (Nat.pow_le_pow_right (by decide) (by omega)))
 omega
theorem Zyn(w:World)(n:Nat)(hn:n<=4000)(L:Qa w):Kc Tryz.prog 12 #[.string ⟨#[50]⟩,.int .i64 n] w (.tuple #[.string (dec (2^n)),.int .i64 0]):=by
 unfold Kc;have hs:=Yb w 2;rw[show itx 2=dec 2 by exact Kg 2,show ((2:Int).natAbs)=2 from rfl,Zlp,decide_eq_false (by decide)] at hs;have Hs:=hd_ hs;have Hp:Hid (∀ W,Bw_ w W->Kc Tryz.prog 51 #[.string ⟨#[50]⟩,.int .i64 n] W (.tuple #[.string (dec (2^n)),.int .i64 0])):=fun W hW=>by
  have:=Zs7 W n hn (L.below hW)
  rw[Zlp] at this;exact this
 have hN:Num (2^n):=Vy (K:=n+1) (Nat.pow_lt_pow_right (by decide) (by omega)) (by omega);have Hj:Hid (∀ W,Kc Tryz.prog 52 #[.bool false,.string (dec (2^n))] W (.string (dec (2^n)))):=fun W=>by
  have:=Ve W false (2^n) hN
  rw[show jz false (2^n)=((2^n:Nat):Int) from rfl,Kg] at this;exact this
 clear hs L hN;generalize dec (2^n)=s at *;have h0:¬ (n:Int)<0:=by omega
 have h1:¬ (4000:Int)<n:=by omega
 have Gu:((⟨#[50]⟩:ByteArray).size:Int)=1:=rfl;go_enter Tryz.func12,Tryz.ntmps12;go_wp2_with fail;refine cm_ Hs.o ?_;rintro e w1 ⟨rfl,hb⟩;have B1:=hd_ hb;clear hb Hs;go_wp2_with fail;refine cm_ (Hp.o _ B1.o) ?_;rintro e w2 ⟨rfl,hb⟩;have B2:=bt_ B1 hb;clear hb Hp B1;go_wp2_with fail;refine cm_ (Hj.o _) ?_;rintro e w3 ⟨rfl,hb⟩;have B3:=bt_ B2 hb;clear hb Hj B2;go_wp2_with fail
 go_ret2
 exact⟨rfl,B3.o⟩
theorem Qbk(w:World)(a b K:Nat)(hK:K<90000)(ha:a<2^K)(hb:b<2^K)(L:Qa w):Kc Tryz.prog 205 #[.string (dec a),.string (dec b)] w (.string (dec (a+b))):=by
 have hn:=Vy ha (by omega);have hm:=Vy hb (by omega);have hs:Num (a+b):=Vy (K:=K+1) (by rw[Nat.pow_succ];omega) (by omega);have:=Zgt w (a:Int) (b:Int) hn hm hs L
 rw[<- Int.natCast_add,Kg,Kg,Kg] at this;exact this
theorem Qg4(w:World)(a b K:Nat)(hK:K<40000)(ha:a<2^K)(hb:b<2^K)(L:Qa w):Kc Tryz.prog 14 #[.string (dec a),.string (dec b)] w (.string (dec (a*b))):=by
 have hn:=Vy ha (by omega);have hm:=Vy hb (by omega);have hs:Zbu ((a:Int)*b):=Vy (K:=K+K) (by rw[<- Int.natCast_mul,Int.natAbs_natCast,Nat.pow_add];exact Nat.mul_lt_mul'' ha hb) (by omega);have:=Yu w (a:Int) (b:Int) hn hm hs L
 rw[<- Int.natCast_mul,Kg,Kg,Kg] at this;exact this
theorem Qgp(w:World)(a b K:Nat)(hK:K<90000)(ha:a<2^K)(hb:b<2^K)(h0:0<b)(L:Qa w):Kc Tryz.prog 163 #[.string (dec a),.string (dec b)] w (.tuple #[.string (dec (a/b)),.string (dec (a%b)),.int .i64 0]):=by
 have hn:=Vy ha (by omega);have hm:=Vy hb (by omega);have hs:Num ((a:Int).natAbs+1):=Vy (K:=K+1) (by rw[Int.natAbs_natCast,Nat.pow_succ];omega) (by omega);have:=Zb w (a:Int) b hn hm h0 hs L
 rw[(Zlm a b).1,(Zlm a b).2,Kg,Kg,Kg] at this;exact this
theorem Qgq(_w:World)(a b K:Nat)(hK:K<90000)(ha:a<2^K)(hb:b<2^K):∃ c:Int,(c = -1\/c=0\/c=1)/\(0<=c↔b<=a)/\∀ W,Kc Tryz.prog 17 #[.string (dec a),.string (dec b)] W (.int .i64 c):=by
 have hn:=Vy ha (by omega);have hm:=Vy hb (by omega);refine⟨Ze5 a b,?_,?_,fun W=>?_⟩
 ·unfold Ze5;split
  ·exact .inl rfl
  ·split
   ·exact .inr (.inl rfl)
   ·exact .inr (.inr rfl)
 ·unfold Ze5;split
  ·constructor<;>omega
  ·split
   ·constructor<;>omega
   ·constructor<;>omega
 ·have:=Zdc W (a:Int) (b:Int) hn hm
  rw[Kg,Kg] at this;exact this
structure Qik (more n:Nat) (s:Nat×Nat×Nat):Prop where
 lo:s.1<2*2^more
 hi:s.2.1<2*2^more
 o:s.2.2<2^(n+3)
theorem Zpl(p:Nat)(hp:2<=p)(Gl:p<=97):p.log2<=6:=by
 have:=(Nat.log2_lt (n:=p) (k:=7) (by omega)).2 (by omega)
 omega
theorem Zxo(p more:Nat)(hp:2<=p)(Gl:p<=97)(hm:64<=more):∀ n s,Vm p more n=some s->Qik more n s
 | 0,s,h=>by
  simp only[Vm,Option.some.injEq] at h;subst h;have h1:p<2^(p.log2+1):=Nat.lt_log2_self;have h2:=Zpl p hp Gl;have h3:p*2^(more-p.log2)<2^(p.log2+1)*2^(more-p.log2):=Nat.mul_lt_mul_of_pos_right h1 (Nat.two_pow_pos _);rw[<- Nat.pow_add,show p.log2+1+(more-p.log2)=1+more by omega,Nat.pow_add,Nat.pow_one] at h3;exact⟨h3,h3,by show p.log2<2^3;omega⟩
 | n+1,s,h=>by
  simp only[Vm] at h;obtain⟨t,ht,hs⟩:=Option.bind_eq_some_iff.1 h;obtain⟨f1,f2,f3⟩:=Zxo p more hp Gl hm n t ht;obtain⟨l,g,o⟩:=t;simp only at f1 f2 f3;simp only[Va] at hs;have hu:=Nat.two_pow_pos more;have ag:2^1<=2^more:=Nat.pow_le_pow_right (by decide) (by omega);obtain⟨u,eu⟩:∃ u,2^more=u:=⟨_,rfl⟩;rw[eu] at hu ag f1 f2 hs;have q1:l*l/u<4*u:=by
   rw[Nat.div_lt_iff_lt_mul hu]
   calc l*l<2*u*(2*u):=Nat.mul_lt_mul'' f1 f1
    _=4*u*u:=by grind
  have q2:g*g/u+1<=4*u-3:=by
   have h1:g*g<=(2*u-1)*(2*u-1):=Nat.mul_le_mul (by omega) (by omega);have h2:g*g/u<4*u-3:=by
    rw[Nat.div_lt_iff_lt_mul hu];obtain⟨v,rfl⟩:∃ v,u=v+1:=⟨u-1,by omega⟩;have e1:2*(v+1)-1=2*v+1:=by omega
    have e2:4*(v+1)-3=4*v+1:=by omega
    rw[e1] at h1;rw[e2];have e3:(2*v+1)*(2*v+1)=4*(v*v)+4*v+1:=by grind
    have e4:(4*v+1)*(v+1)=4*(v*v)+5*v+1:=by grind
    rw[e3] at h1;rw[e4];omega
   omega
  have eo:2^(n+1+3)=2*2^(n+3):=by rw[show n+1+3=n+3+1 by omega,Nat.pow_succ];omega
  by_cases h1:2*u<=l*l/u
  ·rw[if_pos h1] at hs;cases hs
   exact⟨by simp only;rw[eu];omega,by simp only;rw[eu];omega,by simp only;omega⟩
  ·rw[if_neg h1] at hs
   by_cases h2:2*u<=g*g/u+1
   ·rw[if_pos h2] at hs;cases hs
   ·rw[if_neg h2] at hs;cases hs
    exact⟨by simp only;rw[eu];omega,by simp only;rw[eu];omega,by simp only;omega⟩
def Zcq (p n more:Nat):Value:=match Vm p more n with
 | some s => .tuple #[.string (dec s.2.2),.bool true]
 | none => .tuple #[.string ⟨#[]⟩,.bool false]
theorem Znu{p more j n:Nat}(h:Vm p more j=none)(hj:j<=n):Vm p more n=none:=by
 cases hd:Vm p more n with
 | none=>rfl
 | some s =>
  have:=Za4 (m:=j) hj (show (Vm p more n).isSome=true by rw[hd];rfl)
  rw[h] at this;cases this
theorem Zoz(w:World)(p n more:Nat)(hp:2<=p)(Gl:p<=97)(hn:n<=4000)(hm:64<=more)(eG:more<=4000)(L:Qa w):
  Kc Tryz.prog 283 #[.int .i64 p,.int .i64 n,.int .i64 more] w (Zcq p n more):=by
 unfold Kc;have hl:=Zpl p hp Gl;have eU:=hd_ (Tryz.bits_Len p w (by omega) (by omega));rw[show ((p:Nat):Int).toNat=p from rfl,Zft p (by omega) Gl] at eU;have fg:IntKind.i64.wrap (((p.log2+1:Nat):Int)-1)=(p.log2:Int):=by rw[show ((p.log2+1:Nat):Int)-1=(p.log2:Int) by omega];exact iw_ _ (by omega)
 have fS:IntKind.u64.wrap (p:Int)=p:=IntWalk.u64_in _ (by omega);have Da:IntKind.i64.wrap ((more:Int)-(p.log2:Int))=((more-p.log2:Nat):Int):=by rw[show (more:Int)-(p.log2:Int)=((more-p.log2:Nat):Int) by omega];exact iw_ _ (by omega)
 have HL:=hd_ L;clear L;obtain⟨K,hK⟩:∃ K:Nat,K=4050:=⟨_,rfl⟩;have HK:=hd_ hK;have GR:=hd_ eG;have Hn:=hd_ hn;have mR:Hid (∀ j lo hi o,Vm p more j=some (lo,hi,o)->lo<2*2^more/\hi<2*2^more/\o<2^(j+3)):=fun j lo hi o h=>by
  have:=Zxo p more hp Gl hm j _ h
  exact⟨this.lo,this.hi,this.o⟩
 have fC:Hid (∀ j s,Vm p more j=some s->Vm p more (j+1)=Va (2^more) s):=fun j s h=>by
  simp only[Vm,h,Option.bind_some]
 have Nh:Hid (0<2^more):=Nat.two_pow_pos more;have Hu:Hid (2^more<2^K):=Nat.pow_lt_pow_right (by decide) (by omega);have pE:Hid (2^more+2^more=2*2^more):=(Nat.two_mul _).symm;have mf:Hid (2*2^more<2^K):=by
  show _<_
  rw[Nat.mul_comm,<- Nat.pow_succ];exact Nat.pow_lt_pow_right (by decide) (by omega)
 have JU:Hid (∀ W,Bw_ w W->Kc Tryz.prog 12 #[.string ⟨#[50]⟩,.int .i64 more] W (.tuple #[.string (dec (2^more)),.int .i64 0])):=fun W hW=>Zyn W more eG (HL.o.below hW)
 have mw:Hid (∀ W,Bw_ w W->Kc Tryz.prog 12 #[.string ⟨#[50]⟩,.int .i64 (more-p.log2:Nat)] W (.tuple #[.string (dec (2^(more-p.log2))),.int .i64 0])):=fun W hW=>Zyn W (more-p.log2) (by omega) (HL.o.below hW)
 have H0:Hid (Vm p more 0=some (p*2^(more-p.log2),p*2^(more-p.log2),p.log2)):=rfl;have jo:Hid (∀ W,Bw_ w W->Kc Tryz.prog 13 #[.int .i64 p] W (.string (dec p))):=fun W hW=>by
  have:=Zaq W p (by omega) (by omega) (HL.o.below hW)
  rw[Kg] at this;exact this
 have jm:Hid (∀ W,Bw_ w W->Kc Tryz.prog 13 #[.int .i64 p.log2] W (.string (dec p.log2))):=fun W hW=>by
  have:=Zaq W p.log2 (by omega) (by omega) (HL.o.below hW)
  rw[Kg] at this;exact this
 have ef:Hid (∀ W,Bw_ w W->Kc Tryz.prog 205 #[.string (dec (2^more)),.string (dec (2^more))] W (.string (dec (2*2^more)))):=fun W hW=>by
  have:=Qbk W (2^more) (2^more) K (by have:=HK.o;omega) Hu.o Hu.o (HL.o.below hW)
  rw[pE.o] at this;exact this
 have jr:Hid (∀ W,Bw_ w W->Kc Tryz.prog 14 #[.string (dec p),.string (dec (2^(more-p.log2)))] W (.string (dec (p*2^(more-p.log2))))):=fun W hW =>
  Qg4 W p (2^(more-p.log2)) (K+K) (by have:=HK.o;omega) (Nat.lt_of_lt_of_le (show p<2^7 by omega) (Nat.pow_le_pow_right (by decide) (by have:=HK.o;omega))) (Nat.pow_lt_pow_right (by decide) (by omega)) (HL.o.below hW)
 have B0:=hd_ (Below.refl w.heap.size w);have Fw:(n:Int)<=4000:=by omega
 rw[show ((more-p.log2:Nat):Int)=(more:Int)-(p.log2:Int) by omega] at mw;clear hp Gl hK Da;have FK:=hd_ Zt;have ez:=hd_ Zlp;generalize hlp:p.log2=lp at *;clear hlp;generalize 2^more=unit at *;generalize EK:Zcq p n more=vv at *;have Fs:=hd_ EK;clear EK;go_enter Tryz.func283,Tryz.ntmps283;go_wp2_with fail;refine cm_ eU.o ?_;rintro e w1 ⟨rfl,rfl⟩;clear eU;go_wp2_with fail;refine cm_ (JU.o _ B0.o) ?_;rintro e w2 ⟨rfl,hb⟩;have B2:=bt_ B0 hb;clear hb B0;go_wp2_with fail;refine cm_ (ef.o _ B2.o) ?_;rintro e w3 ⟨rfl,hb⟩;have B3:=bt_ B2 hb;clear hb B2;go_wp2_with fail;refine cm_ (mw.o _ B3.o) ?_;rintro e w4 ⟨rfl,hb⟩;have B4:=bt_ B3 hb;clear hb B3;go_wp2_with fail;refine cm_ (jo.o _ B4.o) ?_;rintro e w5 ⟨rfl,hb⟩;have B5:=bt_ B4 hb;clear hb B4;go_wp2_with fail;refine cm_ (jr.o _ B5.o) ?_;rintro e w6 ⟨rfl,hb⟩;have B6:=bt_ B5 hb;clear hb B5;go_wp2_with fail;refine cm_ (jm.o _ B6.o) ?_;rintro e w7 ⟨rfl,hb⟩;have B7:=bt_ B6 hb;clear hb B6;go_wp2_with fail;clear JU ef mw jo jr jm;generalize p*2^(more-lp)=st at *
 go_loopw [14,15,16,50] (fun a b c i wr=>∃ (j lo hi o:Nat),j<=n/\Hid (Vm p more j=some (lo,hi,o))/\a = .string (dec lo)/\b = .string (dec hi)/\c = .string (dec o)/\i = .int .i64 j/\Hid (Bw_ w1 wr)) (fun _ _ _ i _=>n-(intOf i).toNat)
 case atStart=>exact⟨0,_,_,_,by omega,H0,rfl,rfl,rfl,rfl,B7⟩
 case round =>
  clear B7 H0;obtain⟨j,lo,hi,o,hj,Hd,rfl,rfl,rfl,rfl,B1⟩:=hrel
  by_cases H7:j<n
  ·have gi:(j:Int)<n:=by omega
   obtain⟨f1,f2,f3⟩:=mR.o j _ _ _ Hd.o;have g1:lo<2^K:=Nat.lt_trans f1 mf.o;have g2:hi<2^K:=Nat.lt_trans f2 mf.o;have g3:o<2^K:=Nat.lt_of_lt_of_le f3 (Nat.pow_le_pow_right (by decide) (by have:=Hn.o;have:=HK.o;omega));clear f1 f2 f3;have k1:lo*lo<2^(K+K):=by rw[Nat.pow_add];exact Nat.mul_lt_mul'' g1 g1
   have k2:hi*hi<2^(K+K):=by rw[Nat.pow_add];exact Nat.mul_lt_mul'' g2 g2
   have k3:unit<2^(K+K):=Nat.lt_trans Hu.o (Nat.pow_lt_pow_right (by decide) (by have:=HK.o;omega));have k4:2*unit<2^(K+K+1):=Nat.lt_trans mf.o (Nat.pow_lt_pow_right (by decide) (by have:=HK.o;omega));have k5:lo*lo/unit<2^(K+K):=Nat.lt_of_le_of_lt (Nat.div_le_self _ _) k1;have k6:hi*hi/unit<2^(K+K):=Nat.lt_of_le_of_lt (Nat.div_le_self _ _) k2;have one:1<2^(K+K):=Nat.one_lt_two_pow (by have:=HK.o;omega);have k7:hi*hi/unit+1<2^(K+K+1):=by rw[Nat.pow_succ 2 (K+K)];omega
   have k8:lo*lo/unit<2^(K+K+1):=Nat.lt_trans k5 (Nat.pow_lt_pow_right (by decide) (by have:=HK.o;omega));have k9:(hi*hi/unit+1)/2<2^(K+K+1):=Nat.lt_of_le_of_lt (Nat.div_le_self _ _) k7;have BZ:1<2^(K+K+1):=Nat.one_lt_two_pow (by have:=HK.o;omega);have BY:2<2^(K+K+1):=by
    have:2^2<=2^(K+K+1):=Nat.pow_le_pow_right (by decide) (by have:=HK.o;omega)
    omega
   have pb:o<2^(K+K):=Nat.lt_trans g3 (Nat.pow_lt_pow_right (by decide) (by have:=HK.o;omega));have k10:o+o<2^(K+K+1):=by rw[Nat.pow_succ 2 (K+K)];omega
   have BL:=fun W (hW:Bw_ wr W)=>HL.o.below (bu_ B1 hW)
   have M1:Hid (∀ W,Bw_ wr W->Kc Tryz.prog 14 #[.string (dec lo),.string (dec lo)] W (.string (dec (lo*lo)))):=fun W hW=>Qg4 W lo lo K (by have:=HK.o;omega) g1 g1 (BL W hW)
   have M2:Hid (∀ W,Bw_ wr W->Kc Tryz.prog 14 #[.string (dec hi),.string (dec hi)] W (.string (dec (hi*hi)))):=fun W hW=>Qg4 W hi hi K (by have:=HK.o;omega) g2 g2 (BL W hW)
   have D1:Hid (∀ W,Bw_ wr W->Kc Tryz.prog 163 #[.string (dec (lo*lo)),.string (dec unit)] W (.tuple #[.string (dec (lo*lo/unit)),.string (dec (lo*lo%unit)),.int .i64 0])):=fun W hW=>Qgp W _ unit (K+K) (by have:=HK.o;omega) k1 k3 Nh.o (BL W hW)
   have D2:Hid (∀ W,Bw_ wr W->Kc Tryz.prog 163 #[.string (dec (hi*hi)),.string (dec unit)] W (.tuple #[.string (dec (hi*hi/unit)),.string (dec (hi*hi%unit)),.int .i64 0])):=fun W hW=>Qgp W _ unit (K+K) (by have:=HK.o;omega) k2 k3 Nh.o (BL W hW)
   have A1:Hid (∀ W,Bw_ wr W->Kc Tryz.prog 205 #[.string (dec (hi*hi/unit)),.string ⟨#[49]⟩] W (.string (dec (hi*hi/unit+1)))):=fun W hW=>by
    have:=Qbk W _ 1 (K+K) (by have:=HK.o;omega) k6 one (BL W hW)
    rw[FK.o] at this;exact this
   have A2:Hid (∀ W,Bw_ wr W->Kc Tryz.prog 205 #[.string (dec o),.string (dec o)] W (.string (dec (o+o)))):=fun W hW=>Qbk W o o K (by have:=HK.o;omega) g3 g3 (BL W hW)
   have A3:Hid (∀ W,Bw_ wr W->Kc Tryz.prog 205 #[.string (dec (o+o)),.string ⟨#[49]⟩] W (.string (dec (o+o+1)))):=fun W hW=>by
    have:=Qbk W _ 1 (K+K+1) (by have:=HK.o;omega) k10 BZ (BL W hW)
    rw[FK.o] at this;exact this
   have D3:Hid (∀ W,Bw_ wr W->Kc Tryz.prog 163 #[.string (dec (lo*lo/unit)),.string ⟨#[50]⟩] W (.tuple #[.string (dec (lo*lo/unit/2)),.string (dec (lo*lo/unit%2)),.int .i64 0])):=fun W hW=>by
    have:=Qgp W _ 2 (K+K+1) (by have:=HK.o;omega) k8 BY (by decide) (BL W hW)
    rw[ez.o] at this;exact this
   have D4:Hid (∀ W,Bw_ wr W->Kc Tryz.prog 163 #[.string (dec (hi*hi/unit+1)),.string ⟨#[50]⟩] W (.tuple #[.string (dec ((hi*hi/unit+1)/2)),.string (dec ((hi*hi/unit+1)%2)),.int .i64 0])):=fun W hW=>by
    have:=Qgp W _ 2 (K+K+1) (by have:=HK.o;omega) k7 BY (by decide) (BL W hW)
    rw[ez.o] at this;exact this
   have A4:Hid (∀ W,Bw_ wr W->Kc Tryz.prog 205 #[.string (dec ((hi*hi/unit+1)/2)),.string ⟨#[49]⟩] W (.string (dec ((hi*hi/unit+1)/2+1)))):=fun W hW=>by
    have:=Qbk W _ 1 (K+K+1) (by have:=HK.o;omega) k9 BZ (BL W hW)
    rw[FK.o] at this;exact this
   obtain⟨c1,gG,hc1',C1⟩:=Qgq wr (lo*lo/unit) (2*unit) (K+K+1) (by have:=HK.o;omega) k8 k4;obtain⟨c2,Gb,hc2',C2⟩:=Qgq wr (hi*hi/unit+1) (2*unit) (K+K+1) (by have:=HK.o;omega) k7 k4;have F4:=hd_ C1;have fQ:=hd_ C2;have gD:=hd_ hc1';have gP:=hd_ hc2';have gR:=hd_ (fC.o j _ Hd.o);simp only[Va] at gR;have Nu:Hid (2*o=o+o):=Nat.two_mul o;rw[Nu.o] at gR;clear C1 C2 hc1' hc2' BL k1 k2 k3 k4 k5 k6 k7 k8 k9 k10 one BZ BY g1 g2 g3 pb Nu;generalize lo*lo/unit=X1 at *;generalize hi*hi/unit=X2 at *;generalize lo*lo%unit=r1 at *;generalize hi*hi%unit=r2 at *;generalize lo*lo=q1 at *;generalize hi*hi=q2 at *;generalize X1%2=r3 at *;generalize (X2+1)%2=r4 at *;obtain⟨Y1,hY1⟩:∃ y,X1/2=y:=⟨_,rfl⟩;obtain⟨Y2,hY2⟩:∃ y,(X2+1)/2+1=y:=⟨_,rfl⟩;obtain⟨Y3,hY3⟩:∃ y,X2+1=y:=⟨_,rfl⟩;rw[hY1] at D3 gR;rw[hY2] at A4 gR;rw[hY3] at D4 A1 fQ gR gP A4;clear hY1 hY2 hY3;generalize Y3/2=Y4 at *;generalize dec lo=slo at *;generalize dec hi=shi at *;generalize dec o=so at *;generalize o+o=oo at *;have P0:=hd_ (Below.refl wr.heap.size wr);clear fC mR
   by_cases h1:0<=c1
   ·have cV:Hid (Vm p more (j+1)=some (Y1,Y2,oo+1)):=by
     show _=_
     rw[gR.o,if_pos (gD.o.1 h1)]
    clear gR gD gP fQ;go_wp2_with fail;refine cm_ (M1.o _ P0.o) ?_;rintro e w1 ⟨rfl,hb⟩;have P1:=bt_ P0 hb;clear hb P0 M1;go_wp2_with fail;refine cm_ (D1.o _ P1.o) ?_;rintro e w2 ⟨rfl,hb⟩;have P2:=bt_ P1 hb;clear hb P1 D1;go_wp2_with fail;refine cm_ (M2.o _ P2.o) ?_;rintro e w3 ⟨rfl,hb⟩;have P3:=bt_ P2 hb;clear hb P2 M2;go_wp2_with fail;refine cm_ (D2.o _ P3.o) ?_;rintro e w4 ⟨rfl,hb⟩;have P4:=bt_ P3 hb;clear hb P3 D2;go_wp2_with fail;refine cm_ (A1.o _ P4.o) ?_;rintro e w5 ⟨rfl,hb⟩;have P5:=bt_ P4 hb;clear hb P4 A1;go_wp2_with fail;refine cm_ (A2.o _ P5.o) ?_;rintro e w6 ⟨rfl,hb⟩;have P6:=bt_ P5 hb;clear hb P5 A2;go_wp2_with fail;refine cm_ (F4.o _) ?_;rintro e w7 ⟨rfl,hb⟩;have P7:=bt_ P6 hb;clear hb P6 F4;go_wp2_with fail;refine cm_ (A3.o _ P7.o) ?_;rintro e w8 ⟨rfl,hb⟩;have P8:=bt_ P7 hb;clear hb P7 A3;go_wp2_with fail;refine cm_ (D3.o _ P8.o) ?_;rintro e w9 ⟨rfl,hb⟩;have P9:=bt_ P8 hb;clear hb P8 D3;go_wp2_with fail;refine cm_ (D4.o _ P9.o) ?_;rintro e w10 ⟨rfl,hb⟩;have L0:=bt_ P9 hb;clear hb P9 D4;go_wp2_with fail;refine cm_ (A4.o _ L0.o) ?_;rintro e w11 ⟨rfl,hb⟩;have pv:=bt_ L0 hb;clear hb L0 A4;go_wp2_with fail;have B9:=bt_ B1 pv.o
    go_roundw
    case rel=>exact⟨j+1,Y1,Y2,oo+1,by omega,cV,rfl,rfl,rfl,by go_num,B9⟩
    case measure=>simp[intOf];omega
   ·have Eu:c1<0:=by omega
    by_cases h2:0<=c2
    ·have cV:Hid (Vm p more (j+1)=none):=by
      show _=_
      rw[gR.o,if_neg (fun h=>h1 (gD.o.2 h)),if_pos (gP.o.1 h2)]
     have mc:Hid (vv = .tuple #[.string ⟨#[]⟩,.bool false]):=by
      show _=_
      rw[<- Fs.o];unfold Zcq;rw[Znu cV.o (by omega)]
     clear gR gD gP A3 D3 D4 A4;go_wp2_with fail;refine cm_ (M1.o _ P0.o) ?_;rintro e w1 ⟨rfl,hb⟩;have P1:=bt_ P0 hb;clear hb P0 M1;go_wp2_with fail;refine cm_ (D1.o _ P1.o) ?_;rintro e w2 ⟨rfl,hb⟩;have P2:=bt_ P1 hb;clear hb P1 D1;go_wp2_with fail;refine cm_ (M2.o _ P2.o) ?_;rintro e w3 ⟨rfl,hb⟩;have P3:=bt_ P2 hb;clear hb P2 M2;go_wp2_with fail;refine cm_ (D2.o _ P3.o) ?_;rintro e w4 ⟨rfl,hb⟩;have P4:=bt_ P3 hb;clear hb P3 D2;go_wp2_with fail;refine cm_ (A1.o _ P4.o) ?_;rintro e w5 ⟨rfl,hb⟩;have P5:=bt_ P4 hb;clear hb P4 A1;go_wp2_with fail;refine cm_ (A2.o _ P5.o) ?_;rintro e w6 ⟨rfl,hb⟩;have P6:=bt_ P5 hb;clear hb P5 A2;go_wp2_with fail;refine cm_ (F4.o _) ?_;rintro e w7 ⟨rfl,hb⟩;have P7:=bt_ P6 hb;clear hb P6 F4;go_wp2_with fail;refine cm_ (fQ.o _) ?_;rintro e w8 ⟨rfl,hb⟩;have P8:=bt_ P7 hb;clear hb P7 fQ;go_wp2_with fail;have B9:=bt_ B1 P8.o
     go_ret2
     exact⟨by rw[mc.o];rfl,B9.o⟩
    ·have eX:c2<0:=by omega
     have cV:Hid (Vm p more (j+1)=some (X1,Y3,oo)):=by
      show _=_
      rw[gR.o,if_neg (fun h=>h1 (gD.o.2 h)),if_neg (fun h=>h2 (gP.o.2 h))]
     clear gR gD gP A3 D3 D4 A4;go_wp2_with fail;refine cm_ (M1.o _ P0.o) ?_;rintro e w1 ⟨rfl,hb⟩;have P1:=bt_ P0 hb;clear hb P0 M1;go_wp2_with fail;refine cm_ (D1.o _ P1.o) ?_;rintro e w2 ⟨rfl,hb⟩;have P2:=bt_ P1 hb;clear hb P1 D1;go_wp2_with fail;refine cm_ (M2.o _ P2.o) ?_;rintro e w3 ⟨rfl,hb⟩;have P3:=bt_ P2 hb;clear hb P2 M2;go_wp2_with fail;refine cm_ (D2.o _ P3.o) ?_;rintro e w4 ⟨rfl,hb⟩;have P4:=bt_ P3 hb;clear hb P3 D2;go_wp2_with fail;refine cm_ (A1.o _ P4.o) ?_;rintro e w5 ⟨rfl,hb⟩;have P5:=bt_ P4 hb;clear hb P4 A1;go_wp2_with fail;refine cm_ (A2.o _ P5.o) ?_;rintro e w6 ⟨rfl,hb⟩;have P6:=bt_ P5 hb;clear hb P5 A2;go_wp2_with fail;refine cm_ (F4.o _) ?_;rintro e w7 ⟨rfl,hb⟩;have P7:=bt_ P6 hb;clear hb P6 F4;go_wp2_with fail;refine cm_ (fQ.o _) ?_;rintro e w8 ⟨rfl,hb⟩;have P8:=bt_ P7 hb;clear hb P7 fQ;go_wp2_with fail;have B9:=bt_ B1 P8.o
     go_roundw
     case rel=>exact⟨j+1,X1,Y3,oo,by omega,cV,rfl,rfl,rfl,by go_num,B9⟩
     case measure=>simp[intOf];omega
  ·have gi:¬ (j:Int)<n:=by omega
   have bE:j=n:=by omega
   subst bE;have mc:Hid (vv = .tuple #[.string (dec o),.bool true]):=by
    show _=_
    rw[<- Fs.o];unfold Zcq;rw[Hd.o]
   clear fC mR;go_wp2_with fail
   go_ret2
   exact⟨by rw[mc.o];rfl,B1.o⟩
theorem Zp2{p n:Nat}(ho:p∈Zba)(hn:n<=1056):∀ more,1120<=more->(Vm p more n).isSome=true:=by
 intro more hm;exact Zln (p:=p) (n:=n) (more:=more) ho hn hm
theorem Qd7{p n:Nat}(ho:p∈Zba)(hn:n<=1056):∀ more s,64<=more->Vm p more n=some s->dec (lgN p n)=dec s.2.2:=by
 intro more s hm h;have h1:6<=more:=Nat.le_trans (by decide) hm;have:=Zeu (p:=p) (n:=n) (more:=more) ho hn h1 h
 rw[this]
theorem Qdn(w:World)(p n:Nat)(hp:p=2\/p∈Zba)(hn:n<=1056)(L:Qa w):Kc Tryz.prog 232 #[.int .i64 p,.int .i64 n] w (.string (dec (lgN p n))):=by
 unfold Kc
 by_cases h2:p=2
 ·subst h2;have Hp:=hd_ (Zyn w n (by omega) L);rw[show ((2:Nat):Int)=2 from rfl,Zb1];clear L hp;generalize dec (2^n)=s at *;go_enter Tryz.func232,Tryz.ntmps232;go_wp2_with fail;refine cm_ Hp.o ?_;rintro e w1 ⟨rfl,hb⟩;have B1:=hd_ hb;clear hb Hp;go_wp2_with fail;go_ret;exact⟨rfl,B1.o⟩
 ·have ho:=hp.resolve_left h2;have E3:=Zaw ho;have eX:((p:Int)==2)=false:=by rw[beq_eq_false_iff_ne];omega
  have HL:=hd_ L;have Aq:Hid (∀ (more:Nat) W,64<=more->more<=4000->Bw_ w W->Kc Tryz.prog 283 #[.int .i64 p,.int .i64 n,.int .i64 more] W (Zcq p n more)):=fun more W h1 h2 hW =>
   Zoz W p n more (by omega) (by omega) (by omega) h1 h2 (HL.o.below hW)
  have C8:Hid (∀ more:Nat,1120<=more->(Vm p more n).isSome=true):=hd_ (Zp2 ho hn);have DS:Hid (∀ (more:Nat) s,64<=more->Vm p more n=some s->dec (lgN p n)=dec s.2.2):=hd_ (Qd7 ho hn);have fg:IntKind.i64.wrap ((n:Int)+64)=((n+64:Nat):Int):=by rw[show (n:Int)+64=((n+64:Nat):Int) by omega];exact iw_ _ (by omega)
  have B0:=hd_ (Below.refl w.heap.size w);clear L hp ho h2 E3;generalize dec (lgN p n)=vv at *;go_enter Tryz.func232,Tryz.ntmps232;go_wp2_with fail
  go_loopw [7] (fun a wr=>∃ (more:Nat),Hid (64<=more)/\more<=4000/\a = .int .i64 more/\Hid (Bw_ w wr)) (fun a _=>4000-(intOf a).toNat)
  case atStart=>exact⟨n+64,by show _<=_;omega,by omega,rfl,B0⟩
  case round =>
   clear B0;obtain⟨more,H64,h4000,rfl,B1⟩:=hrel;have Hd:=hd_ (Aq.o more wr H64.o h4000 B1.o);cases hd:Vm p more n with
   | some s =>
    have Hs:Hid (Zcq p n more = .tuple #[.string (dec s.2.2),.bool true]):=by show _=_;unfold Zcq;rw[hd]
    have Hv:Hid (vv=dec s.2.2):=DS.o more s H64.o hd;rw[Hs.o] at Hd;clear hd Hs DS C8 Aq;go_wp2_with fail;refine cm_ Hd.o ?_;rintro e w1 ⟨rfl,hb⟩;have B2:=bt_ B1 hb;clear hb Hd;go_wp2_with fail;go_ret;exact⟨by rw[Hv.o];rfl,B2.o⟩
   | none =>
    have Hs:Hid (Zcq p n more = .tuple #[.string ⟨#[]⟩,.bool false]):=by show _=_;unfold Zcq;rw[hd]
    rw[Hs.o] at Hd;have H7:more<1120:=by
     refine Nat.lt_of_not_le fun h=>?_
     have:=C8.o more h
     rw[hd] at this;cases this
    have fS:IntKind.i64.wrap ((more:Int)*2)=((more*2:Nat):Int):=by rw[show (more:Int)*2=((more*2:Nat):Int) by omega];exact iw_ _ (by omega)
    clear hd Hs DS C8 Aq;go_wp2_with fail;refine cm_ Hd.o ?_;rintro e w1 ⟨rfl,hb⟩;have B2:=bt_ B1 hb;clear hb Hd;go_wp2_with fail
    go_roundw
    case rel=>exact⟨more*2,by have:=H64.o;show _<=_;omega,by omega,rfl,B2⟩
    case measure=>have:=H64.o;simp[intOf];omega
theorem Qgs(u E T:Nat)(h:E*E<=u*T):(2*u+E)*(2*u+E)<=u*(4*u+4*E+T):=by
 have e1:(2*u+E)*(2*u+E)=u*(4*u)+u*(4*E)+E*E:=by
  rw[Nat.mul_add,Nat.add_mul,Nat.add_mul];have a1:2*u*(2*u)=4*(u*u):=Nat.mul_mul_mul_comm 2 u 2 u;have a5:u*(4*u)=4*(u*u):=Nat.mul_left_comm ..;have a2:E*(2*u)=2*(u*E):=by rw[Nat.mul_left_comm,Nat.mul_comm E u]
  have a3:2*u*E=2*(u*E):=Nat.mul_assoc ..;have a4:u*(4*E)=4*(u*E):=Nat.mul_left_comm ..;omega
 rw[e1,Nat.mul_add,Nat.mul_add];omega
theorem Qbb{u E T hi:Nat}(h:E*E<=u*T)(hh:hi<=2*u+E):hi*hi/u<=4*u+4*E+T:=by
 have h1:hi*hi<=u*(4*u+4*E+T):=Nat.le_trans (Nat.mul_le_mul hh hh) (Qgs u E T h);exact Nat.div_le_of_le_mul h1
theorem Zr3{p P:Nat}(hp:p.log2<=P)(h0:0<p):∀ n,n<=1000->n+64<=P->∀ s,Vm p P n=some s->s.2.1<=2*2^P+2^(n+2)*(n+1)
 | 0,_,_,s,h=>by
  simp only[Vm,Option.some.injEq] at h;subst h;have h1:p<2^(p.log2+1):=Nat.lt_log2_self;have h3:p*2^(P-p.log2)<2^(p.log2+1)*2^(P-p.log2):=Nat.mul_lt_mul_of_pos_right h1 (Nat.two_pow_pos _);rw[<- Nat.pow_add,show p.log2+1+(P-p.log2)=P+1 by omega,Nat.pow_succ] at h3
  show p*2^(P-p.log2)<=_
  omega
 | n+1,hn,hP,s,h=>by
  simp only[Vm] at h;obtain⟨t,ht,hs⟩:=Option.bind_eq_some_iff.1 h;have ih:=Zr3 hp h0 n (by omega) (by omega) t ht;obtain⟨l,g,o⟩:=t;simp only at ih;have hE:(2^(n+2)*(n+1))*(2^(n+2)*(n+1))<=2^P*2^n:=by
   have h1:(n+1)<=2^10:=by omega
   have h2:2^(n+2)*(n+1)<=2^(n+2)*2^10:=Nat.mul_le_mul_left _ h1;have h3:(2^(n+2)*(n+1))*(2^(n+2)*(n+1))<=(2^(n+2)*2^10)*(2^(n+2)*2^10):=Nat.mul_le_mul h2 h2;refine Nat.le_trans h3 ?_;rw[<- Nat.pow_add,<- Nat.pow_add,<- Nat.pow_add];exact Nat.pow_le_pow_right (by decide) (by omega)
  have h2:=Qbb hE ih;have e1:2^(n+1+2)*(n+1+1)=2*(2^(n+2)*(n+1))+8*2^n:=by
   rw[show n+1+2=(n+2)+1 by omega,Nat.pow_succ 2 (n+2),show 8*2^n=2^(n+2)*2 by rw[Nat.pow_add];omega,Nat.mul_add (2^(n+2)*2) (n+1) 1,Nat.mul_one,Nat.mul_comm (2^(n+2)) 2,Nat.mul_assoc]
  have GD:=Nat.two_pow_pos n;rw[e1];simp only[Va] at hs;generalize 2^(n+2)*(n+1)=E at *;generalize g*g/2^P=G at *;generalize l*l/2^P=M at *;generalize 2^P=u at *;generalize 2^n=T at *
  by_cases c1:2*u<=M
  ·rw[if_pos c1] at hs;cases hs
   show (G+1)/2+1<=_
   omega
  ·rw[if_neg c1] at hs
   by_cases c2:2*u<=G+1
   ·rw[if_pos c2] at hs;cases hs
   ·rw[if_neg c2] at hs;cases hs
    show G+1<=_
    omega
theorem Zp3{p P:Nat}:∀ n s,Vm p P n=some s->s.1<=s.2.1
 | 0,s,h=>by
  simp only[Vm,Option.some.injEq] at h;subst h;exact Nat.le_refl _
 | n+1,s,h=>by
  simp only[Vm] at h;obtain⟨t,ht,hs⟩:=Option.bind_eq_some_iff.1 h;have ih:=Zp3 n t ht;obtain⟨l,g,o⟩:=t;simp only at ih;have h2:l*l/2^P<=g*g/2^P:=Nat.div_le_div_right (Nat.mul_le_mul ih ih);simp only[Va] at hs;generalize g*g/2^P=G at *;generalize l*l/2^P=M at *;generalize 2^P=u at *
  by_cases c1:2*u<=M
  ·rw[if_pos c1] at hs;cases hs
   show M/2<=(G+1)/2+1
   omega
  ·rw[if_neg c1] at hs
   by_cases c2:2*u<=G+1
   ·rw[if_pos c2] at hs;cases hs
   ·rw[if_neg c2] at hs;cases hs
    show M<=G+1
    omega
theorem Zw9{P n hi:Nat}(hn:n<=1000)(hP:n+64<=P)(h:hi<=2*2^P+2^(n+2)*(n+1)):hi<18446744073709551616^(P/64+2):=by
 have h1:(n+1)<=2^10:=by omega
 have h2:2^(n+2)*(n+1)<=2^(n+2)*2^10:=Nat.mul_le_mul_left _ h1;have h3:2^(n+2)*2^10<=2^P:=by
  rw[<- Nat.pow_add];exact Nat.pow_le_pow_right (by decide) (by omega)
 have e:(18446744073709551616:Nat)=2^64:=by decide
 rw[e,<- Nat.pow_mul];have h4:2^(P+2)<=2^(64*(P/64+2)):=Nat.pow_le_pow_right (by decide) (by omega);rw[Nat.pow_add] at h4;have h5:=Nat.two_pow_pos P;omega
def Zgf (u l g:Nat):Option (Bool×Nat×Nat) :=
 if 2*u<=l*l/u then some (true,l*l/u/2,(g*g/u+1)/2+1)
 else if 2*u<=g*g/u+1 then none else some (false,l*l/u,g*g/u+1)
theorem Znw(u l g o:Nat):Va u (l,g,o)=(Zgf u l g).map fun x=>(x.2.1,x.2.2,2*o+x.1.toNat):=by
 unfold Zgf;simp only[Va];split
 ·rfl
 ·split<;>rfl
def Qe3 (p P j:Nat):Bool:=match Vm p P (j+1) with
 | some s=>s.2.2%2==1
 | none=>false
def Zea (p P n:Nat):List Bool:=(List.range n).map (Qe3 p P)
theorem Yj(p P n:Nat):(Zea p P n).length=n:=by simp[Zea]
theorem Zuh(p P n:Nat):Zea p P (n+1)=Zea p P n++[Qe3 p P n]:=by simp[Zea,List.range_succ]
theorem Zx5(p P n j:Nat)(h:j<n):(Zea p P n).getD j false=Qe3 p P j:=by
 unfold Zea;rw[List.getD_eq_getElem?_getD,List.getElem?_map,List.getElem?_range h];rfl
theorem Zmm{p P n l g o:Nat}(h:Vm p P n=some (l,g,o)):
  Vm p P (n+1)=(Zgf (2^P) l g).map fun x=>(x.2.1,x.2.2,2*o+x.1.toNat):=by
 simp only[Vm,h,Option.bind_some];exact Znw ..
theorem Zhe{p P n l g o:Nat}{b:Bool}{l' g':Nat}(h:Vm p P n=some (l,g,o))(hs:Zgf (2^P) l g=some (b,l',g')):
  Vm p P (n+1)=some (l',g',2*o+b.toNat)/\Qe3 p P n=b:=by
 have h1:=Zmm h;rw[hs] at h1;refine⟨h1,?_⟩;unfold Qe3;rw[h1]
 show ((2*o+b.toNat)%2==1)=b
 cases b
 ·have:(2*o+0)%2=0:=by omega
  show ((2*o+0)%2==1)=false
  rw[this];rfl
 ·have:(2*o+1)%2=1:=by omega
  show ((2*o+1)%2==1)=true
  rw[this];rfl
theorem Zmk{p P n l g o:Nat}(h:Vm p P n=some (l,g,o))(hs:Zgf (2^P) l g=none):Vm p P (n+1)=none:=by
 rw[Zmm h,hs];rfl
theorem Qay{p P n:Nat}{s t:Nat×Nat×Nat}(h:Vm p P n=some s)(h2:Vm p P (n+1)=some t):t.2.2=2*s.2.2+(Qe3 p P n).toNat:=by
 obtain⟨l,g,o⟩:=s;cases hs:Zgf (2^P) l g with
 | none=>rw[Zmk h hs] at h2;cases h2
 | some x =>
  obtain⟨b,l',g'⟩:=x;obtain⟨h3,h4⟩:=Zhe h hs;rw[h3] at h2;cases h2
  rw[h4]
/-! The words of a prime. -/
theorem Qfb(m i x y:Nat)(h:i+1<m):vW (((List.replicate m 0).set i x).set (i+1) y)=18446744073709551616^i*(x+18446744073709551616*y):=by
 have h1:=Zg1 (List.replicate m 0) i x (by simp;omega);have h2:=Zg1 ((List.replicate m 0).set i x) (i+1) y (by simp;omega);have e1:(List.replicate m 0).getD i 0=0:=by rw[List.getD_eq_getElem?_getD,List.getElem?_replicate];split<;>rfl
 have e2:((List.replicate m 0).set i x).getD (i+1) 0=0:=by
  rw[List.getD_eq_getElem?_getD,List.getElem?_set_ne (by omega),List.getElem?_replicate];split<;>rfl
 rw[e1,Zkf,Nat.mul_zero,Nat.zero_add] at h1;rw[e2,Nat.mul_zero] at h2;simp only[Nat.add_zero] at h1 h2;rw[h2,h1,Nat.mul_add,Nat.pow_succ,Nat.mul_assoc]
theorem Qfc(m i x:Nat)(h:i<m):vW ((List.replicate m 0).set i x)=18446744073709551616^i*x:=by
 have h1:=Zg1 (List.replicate m 0) i x (by simp;omega);have e1:(List.replicate m 0).getD i 0=0:=by rw[List.getD_eq_getElem?_getD,List.getElem?_replicate];split<;>rfl
 rw[e1,Zkf,Nat.mul_zero,Nat.zero_add] at h1
 simpa using h1
def Qen (p at_ m:Nat):List Nat :=
 let l:=(List.replicate m 0).set (at_/64) (p*2^(at_%64)%18446744073709551616)
 if 0<at_%64 then l.set (at_/64+1) (p/2^(64-at_%64)) else l
theorem Zqj(p at_ m:Nat):(Qen p at_ m).length=m:=by unfold Qen;dsimp only;split<;>simp
theorem Qbg(p at_ m:Nat)(hp:p<128)(h:at_/64+1<m):vW (Qen p at_ m)=p*2^at_:=by
 have pd:(18446744073709551616:Nat)=2^64:=by decide
 have ea:2^at_=2^(64*(at_/64))*2^(at_%64):=by rw[<- Nat.pow_add];congr 1;omega
 have eb:(18446744073709551616:Nat)^(at_/64)=2^(64*(at_/64)):=by rw[pd,<- Nat.pow_mul]
 unfold Qen
 dsimp only
 split
 ·rename_i h0
  rw[Qfb m _ _ _ h,eb,ea];have e2:p/2^(64-at_%64)=p*2^(at_%64)/18446744073709551616:=by
   have e3:(18446744073709551616:Nat)=2^(64-at_%64)*2^(at_%64):=by rw[<- Nat.pow_add,show 64-at_%64+at_%64=64 by omega]
   rw[e3,Nat.mul_div_mul_right _ _ (Nat.two_pow_pos _)]
  rw[e2,Nat.mod_add_div,Nat.mul_left_comm]
 ·rename_i h0
  rw[Qfc m _ _ (by omega),eb,ea];have h1:at_%64=0:=by omega
  rw[h1,Nat.pow_zero,Nat.mul_one,Nat.mul_one,Nat.mod_eq_of_lt (by omega),Nat.mul_comm]
theorem Qbf(p at_ m:Nat)(hp:p<128):Wds (Qen p at_ m):=by
 have h1:Wds ((List.replicate m 0).set (at_/64) (p*2^(at_%64)%18446744073709551616)):=(Wds.zeros m).set _ _ (Nat.mod_lt _ (by decide));unfold Qen
 dsimp only
 split
 ·refine h1.set _ _ ?_;have:=Nat.div_le_self p (2^(64-at_%64))
  omega
 ·exact h1
/-! Digits in groups. -/
structure MaS (w:World) (B R P:Nat) (a1:OA_) (c1:Nat) (L:List Nat) (a2:OA_) (c2:Nat) (H:List Nat):Prop where
 ob:w.heap[R]?=some (.cells #[.slice a1 L.length c1,.slice a2 H.length c2,.int .i64 P] 375 (0,0))
 o1:Vb w B a1 c1 L
 o2:Vb w B a2 c2 H
 p1:Wds L
 p2:Wds H
def Zyf (w:World) (B R P lo hi:Nat):Prop:=∃ a1 c1 L a2 c2 H,MaS w B R P a1 c1 L a2 c2 H/\B<=R/\L.length=P/64+2/\H.length=P/64+2/\vW L=lo/\vW H=hi
theorem MaS.below{w w':World}{B R P:Nat}{a1 a2:OA_}{c1 c2:Nat}{L H:List Nat}(h:MaS w B R P a1 c1 L a2 c2 H)(hb:Bw_ w w'):MaS w' B R P a1 c1 L a2 c2 H :=
 ⟨by rw[hb.block R (Array.getElem?_eq_some_iff.1 h.ob).1];exact h.ob,h.o1.below hb nr_,h.o2.below hb nr_,h.p1,h.p2⟩
theorem Kd{w:World}{g:Nat}{a b c:Value}{t:TypeId}(h:w.heap[g]?=some (.cells #[a,b,c] t (0,0))):
  w.cell? ⟨g,0,none⟩=some a/\w.cell? ⟨g,1,none⟩=some b/\w.cell? ⟨g,2,none⟩=some c/\(∀ j,w.frozen? ⟨g,j,none⟩=false):=by
 refine⟨by rw[cell_of_row w g 0 _ t (0,0) h];rfl,by rw[cell_of_row w g 1 _ t (0,0) h];rfl,by rw[cell_of_row w g 2 _ t (0,0) h];rfl,fun j=>?_⟩;simp[World.frozen?,h]
theorem Zgd(x:Nat)(h:x<18446744073709551616):bits .or .u64 (0:Int) (x:Int)=(x:Int):=by
 have:=(bits_nat .u64 64 (by decide) (fun n h0 h1=>by rw[IntKind.wrap_u64];omega) 0 x (by omega) (by omega)).2
 rw[Nat.zero_or] at this;exact this
theorem Zx6(w:World)(p k P:Nat)(hp:p<128)(hk:k<=P)(hP:P<=2000):
  Calls Tryz.prog 292 #[.int .i64 p,.int .i64 k,.int .i64 P] w fun e w'=>∃ R,e = .returned (.pointer (some ⟨R,0,none⟩))/\Zyf w' w.heap.size R P (p*2^(P-k)) (p*2^(P-k))/\Bw_ w w':=by
 obtain⟨n,hn⟩:∃ n,P/64+2=n:=⟨_,rfl⟩;obtain⟨t,ht⟩:∃ t,P-k=t:=⟨_,rfl⟩;have fN:=Zwo n w (by omega);have gw:=hd_ (Zck w (List.replicate n 0) (by simp;omega));have Hb:=hd_ ((Below.refl w.heap.size w).alloc nr_ (.cells (Zv (List.replicate n 0)).toArray 204));rw[List.length_replicate] at gw;obtain⟨m,hm⟩:∃ m,P/64=m:=⟨_,rfl⟩;obtain⟨i,Lk⟩:∃ i,t/64=i:=⟨_,rfl⟩;obtain⟨r,Br⟩:∃ r,t%64=r:=⟨_,rfl⟩;have hq:Int.tdiv (P:Int) 64=(m:Nat):=by rw[Int.tdiv_eq_ediv_of_nonneg (by omega)];omega
 have Ia:(P:Int)/64=(m:Nat):=by omega
 have bq:IntKind.i64.wrap ((m:Int)+2)=(n:Nat):=by rw[show (m:Int)+2=(n:Nat) by omega];exact iw_ _ (by omega)
 have PO:IntKind.i64.wrap ((P:Int)-k)=(t:Nat):=by rw[show (P:Int)-k=(t:Nat) by omega];exact iw_ _ (by omega)
 have hd:Int.tdiv (t:Int) 64=(i:Nat):=by rw[Int.tdiv_eq_ediv_of_nonneg (by omega)];omega
 have Iv:(t:Int)/64=(i:Nat):=by omega
 have hr:Int.tmod (t:Int) 64=(r:Nat):=by rw[Int.tmod_eq_emod_of_nonneg (by omega)];omega
 have eF:(t:Int)%64=(r:Nat):=by omega
 have bm:r<64:=by omega
 have hi:i+1<n:=by omega
 have gQ:=Qbg p t n hp (by omega);have F7:=Qbf p t n hp;have gd:=Zqj p t n;unfold Qen at gQ F7 gd
 dsimp only at gQ F7 gd
 rw[Lk,Br] at gQ F7 gd;have bO:(w.alloc (.cells (Zv (List.replicate n 0)).toArray 204)).cell? ⟨w.heap.size,i,none⟩=some (.int .u64 (0:Int)):=by
  obtain⟨g,hg,fF,hg2,hg3,hg4,hg5⟩:=gw.o.open (by simp;omega);obtain rfl:w.heap.size=g:=by simpa using hg
  have:=hg4 i (by simp;omega)
  rw[List.getD_eq_getElem?_getD,List.getElem?_replicate,if_pos (by omega)] at this;exact this
 have ik:∀ j,(w.alloc (.cells (Zv (List.replicate n 0)).toArray 204)).frozen? ⟨w.heap.size,j,none⟩=false:=by
  obtain⟨g,hg,fF,hg2,hg3,hg4,hg5⟩:=gw.o.open (by simp;omega);obtain rfl:w.heap.size=g:=by simpa using hg
  exact hg5
 generalize w.alloc (.cells (Zv (List.replicate n 0)).toArray 204)=w1 at *;have cu:bits .or .u64 (0:Int) (IntKind.u64.wrap ((p:Int)*2^r))=((p*2^r%18446744073709551616:Nat):Int):=by
  have e2:IntKind.u64.wrap ((p:Int)*2^r)=((p*2^r%18446744073709551616:Nat):Int):=by
   rw[IntKind.wrap_u64,Int.natCast_emod,Int.natCast_mul,Int.natCast_pow];rfl
  rw[e2];exact Zgd _ (Nat.mod_lt _ (by decide))
 obtain⟨x,hx⟩:∃ x,p*2^r%18446744073709551616=x:=⟨_,rfl⟩;rw[hx] at cu gQ F7 gd;have nw:=ik i;have PJ:IntKind.u64.wrap (p:Int)=(p:Int):=IntWalk.u64_in _ (by omega);rw[ht];go_enter Tryz.func292,Tryz.ntmps292;go_wp2_with fail;have Fb:=hd_ (gw.o.store i x);have GU:=hd_ (Hb.o.setCell (p:=⟨w.heap.size,i,none⟩) nr_ (.int .u64 (x:Nat)));have q1:=NW.cell bO;have gn:Nonempty (NW w1):=⟨⟨w1,Below.refl _ _⟩⟩;have I:Hid (Bw_ w1 w1.drew):=(Below.refl _ _).drew;refine wn_ 12 [(2,0),(2,1),(2,2),(2,3),(1,4),(2,5),(2,6),(2,7),(2,8),(2,9),(2,10),(2,11),(0,12)] I ?_;iterate 4 (refine wa_ rfl ?_;go_big_quiet_step (fail);refine wq_ ?_)
 refine wr_ rfl ?_;go_big_quiet_step (fail);refine wq_ ?_;iterate 7 (refine wa_ rfl ?_;go_big_quiet_step (fail);refine wq_ ?_)
 iterate 1 (refine wm_ rfl ?_;go_wp2_with fail)
 simp only[RP.walkR];have F0:Hid (Vb (w1.setCell ⟨w.heap.size,i,none⟩ (.int .u64 (x:Nat))).drew w.heap.size (some ⟨w.heap.size,0,none⟩) n ((List.replicate n 0).set i x)):=Fb.o.below (Qd _ 1) nr_;have Gt:Hid (Bw_ w (w1.setCell ⟨w.heap.size,i,none⟩ (.int .u64 (x:Nat))).drew):=Qe GU.o 1;clear Fb GU I gn q1 bO nw cu gw Hb;generalize (w1.setCell ⟨w.heap.size,i,none⟩ (.int .u64 (x:Nat))).drew=w2 at *
 by_cases h0:0<r
 ·have IK:(0:Int)<r:=by omega
  have ij:IntKind.i64.wrap (64-(r:Int))=((64-r:Nat):Int):=by rw[show (64:Int)-r=((64-r:Nat):Int) by omega];exact iw_ _ (by omega)
  have cw:IntKind.i64.wrap ((i:Int)+1)=((i+1:Nat):Int):=by rw[<- Int.natCast_succ];exact iw_ _ (by omega)
  have In:((List.replicate n 0).set i x).length=n:=by simp
  have LV:w2.cell? ⟨w.heap.size,i+1,none⟩=some (.int .u64 (0:Int)):=by
   obtain⟨g,hg,fF,hg2,hg3,hg4,hg5⟩:=F0.o.open (by simp;omega);obtain rfl:w.heap.size=g:=by simpa using hg
   have:=hg4 (i+1) (by simp;omega)
   rw[List.getD_eq_getElem?_getD,List.getElem?_set_ne (by omega),List.getElem?_replicate,if_pos (by omega)] at this;exact this
  have nU:w2.frozen? ⟨w.heap.size,i+1,none⟩=false:=by
   obtain⟨g,hg,fF,hg2,hg3,hg4,hg5⟩:=F0.o.open (by simp;omega);obtain rfl:w.heap.size=g:=by simpa using hg
   exact hg5 _
  obtain⟨y,hy⟩:∃ y,p/2^(64-r)=y:=⟨_,rfl⟩;have PF:(p:Int)/2^(64-r)=(y:Nat):=by rw[<- hy,Int.natCast_ediv,Int.natCast_pow];rfl
  have lB:y<18446744073709551616:=by rw[<- hy];have:=Nat.div_le_self p (2^(64-r));omega
  have Ib:=Zgd y lB;rw[if_pos h0,hy] at gQ F7 gd;have HV:=hd_ gQ;have HW:=hd_ F7;have HL:=hd_ gd;have N9:=hd_ (F0.o.store (i+1) y);have GY:=hd_ (Gt.o.setCell (p:=⟨w.heap.size,i+1,none⟩) nr_ (.int .u64 (y:Nat)));have q1:=NW.cell LV;have gn:Nonempty (NW w2):=⟨⟨w2,Below.refl _ _⟩⟩;have I:Hid (Bw_ w2 w2.drew):=(Below.refl _ _).drew;clear gQ F7 gd hy F0 Gt;go_wp2_with fail;refine wn_ 14 [(2,0),(2,1),(2,2),(2,3),(2,4),(1,5),(2,6),(2,7),(2,8),(2,9),(2,10),(2,11),(2,12),(2,13),(0,14)] I ?_;iterate 5 (refine wa_ rfl ?_;go_big_quiet_step (fail);refine wq_ ?_)
  refine wr_ rfl ?_;go_big_quiet_step (fail);refine wq_ ?_;iterate 8 (refine wa_ rfl ?_;go_big_quiet_step (fail);refine wq_ ?_)
  iterate 1 (refine wm_ rfl ?_;go_wp2_with fail)
  simp only[RP.walkR];have AC:Hid (Vb (w2.setCell ⟨w.heap.size,i+1,none⟩ (.int .u64 (y:Nat))).drew w.heap.size (some ⟨w.heap.size,0,none⟩) n (((List.replicate n 0).set i x).set (i+1) y)):=N9.o.below (Qd _ 1) nr_;have GX:Hid (Bw_ w (w2.setCell ⟨w.heap.size,i+1,none⟩ (.int .u64 (y:Nat))).drew):=Qe GY.o 1;clear N9 GY I gn q1 LV nU Ib;generalize (w2.setCell ⟨w.heap.size,i+1,none⟩ (.int .u64 (y:Nat))).drew=w3 at *;generalize ((List.replicate n 0).set i x).set (i+1) y=Ls at *;have HC:=Zfg w3 (some ⟨w.heap.size,0,none⟩) n Ls AC.o.reads (by rw[HL.o];omega) (by rw[HL.o];omega);rw[HL.o] at HC;have Jb:=hd_ HC;clear HC;go_wp2_with fail;refine cm_ Jb.o ?_;rintro e w4 ⟨g,d,rfl,ho,hb⟩;have O1:=hd_ (AC.o.below hb nr_);have O2:=hd_ (ho.mono GX.o.size);have B5:=bt_ GX hb;have fL:=hd_ B5.o.size;clear ho hb Jb AC GX;go_wp2_with fail;go_ret;refine⟨w4.heap.size,rfl,⟨_,_,Ls,_,_,Ls,⟨?_,O1.o.below ((Below.refl _ _).alloc nr_ _) nr_,O2.o.below ((Below.refl _ _).alloc nr_ _) nr_,HW.o,HW.o⟩,fL.o,by rw[HL.o];omega,by rw[HL.o];omega,HV.o,HV.o⟩,B5.o.alloc fL.o _⟩;have:=heap_alloc_new w4 (.cells #[.slice (some ⟨w.heap.size,0,none⟩) n n,.slice (some ⟨g,0,none⟩) n d,.int .i64 P] 375)
  rw[HL.o];exact this
 ·have IK:¬ (0:Int)<r:=by omega
  rw[if_neg h0] at gQ F7 gd;have HV:=hd_ gQ;have HW:=hd_ F7;have HL:=hd_ gd;have AC:=F0;have GX:=Gt;clear gQ F7 gd F0 Gt;generalize w2=w3 at *;generalize (List.replicate n 0).set i x=Ls at *;have HC:=Zfg w3 (some ⟨w.heap.size,0,none⟩) n Ls AC.o.reads (by rw[HL.o];omega) (by rw[HL.o];omega);rw[HL.o] at HC;have Jb:=hd_ HC;clear HC;go_wp2_with fail;refine cm_ Jb.o ?_;rintro e w4 ⟨g,d,rfl,ho,hb⟩;have O1:=hd_ (AC.o.below hb nr_);have O2:=hd_ (ho.mono GX.o.size);have B5:=bt_ GX hb;have fL:=hd_ B5.o.size;clear ho hb Jb AC GX;go_wp2_with fail;go_ret;refine⟨w4.heap.size,rfl,⟨_,_,Ls,_,_,Ls,⟨?_,O1.o.below ((Below.refl _ _).alloc nr_ _) nr_,O2.o.below ((Below.refl _ _).alloc nr_ _) nr_,HW.o,HW.o⟩,fL.o,by rw[HL.o];omega,by rw[HL.o];omega,HV.o,HV.o⟩,B5.o.alloc fL.o _⟩;have:=heap_alloc_new w4 (.cells #[.slice (some ⟨w.heap.size,0,none⟩) n n,.slice (some ⟨g,0,none⟩) n d,.int .i64 P] 375)
  rw[HL.o];exact this
def frX (z:Int) (a:OA_) (c d:Nat) (b:OA_) (e:Nat):Value := .agg #[.bool (decide (z<0)),.slice a (wN z.natAbs).length c,.slice b (wN d).length e]
def Ze4 (f:FuncId) (args:Array Value) (w:World) (z:Int) (d:Nat):Prop:=Calls Tryz.prog f args w fun e_ w'=>∃ a c b e,e_ = .returned (frX z a c d b e)/\IsX w' a c z.natAbs/\IsX w' b e d/\Bw_ w w'
theorem Zh4(n:Nat)(a:OA_)(c:Nat):igV (n:Int) a c = .agg #[.bool false,.slice a (wN n).length c]:=by
 unfold igV;rw[Int.natAbs_natCast,decide_eq_false (by omega)]
theorem Zn{w0 w:World}{B g:Nat}{a b c:Value}(x y z:Value)(k0:w.cell? ⟨g,0,none⟩=some a)(k1:w.cell? ⟨g,1,none⟩=some b)(k2:w.cell? ⟨g,2,none⟩=some c)(hB:B<=g)(hb:Below B w0 w):
  (((w.setCell ⟨g,0,none⟩ x).setCell ⟨g,1,none⟩ y).setCell ⟨g,2,none⟩ z).cell? ⟨g,0,none⟩=some x/\(((w.setCell ⟨g,0,none⟩ x).setCell ⟨g,1,none⟩ y).setCell ⟨g,2,none⟩ z).cell? ⟨g,1,none⟩=some y/\(((w.setCell ⟨g,0,none⟩ x).setCell ⟨g,1,none⟩ y).setCell ⟨g,2,none⟩ z).cell? ⟨g,2,none⟩=some z /\
  Below B w0 (((w.setCell ⟨g,0,none⟩ x).setCell ⟨g,1,none⟩ y).setCell ⟨g,2,none⟩ z):=by
 refine⟨?_,?_,?_,?_⟩
 ·rw[World.cell?_setCell_other _ _ _ _ (by simp),World.cell?_setCell_other _ _ _ _ (by simp),World.cell?_setCell_same _ _ _ k0]
 ·rw[World.cell?_setCell_other _ _ _ _ (by simp),World.cell?_setCell_same _ _ _ (by rw[World.cell?_setCell_other _ _ _ _ (by simp)];exact k1)]
 ·rw[World.cell?_setCell_same _ _ _ (by rw[World.cell?_setCell_other _ _ _ _ (by simp),World.cell?_setCell_other _ _ _ _ (by simp)];exact k2)]
 ·exact((hb.setCell (p:=⟨g,0,none⟩) hB x).setCell (p:=⟨g,1,none⟩) hB y).setCell (p:=⟨g,2,none⟩) hB z
theorem Zgu(w:World)(z:Int)(a b:OA_)(c d e:Nat):Kc Tryz.prog 63 #[frX z a c d b e] w (.bool (decide (z=0))):=by
 unfold Kc frX;have hz:(decide (z=0))=(((wN z.natAbs).length:Int)==0):=by
  by_cases h:z=0
  ·rw[decide_eq_true h,h,show (0:Int).natAbs=0 from rfl,Vg];rfl
  ·have:=Zx.2 (show 0<z.natAbs by omega)
   rw[decide_eq_false h];symm;rw[beq_eq_false_iff_ne];omega
 rw[hz];clear hz;generalize decide (z<0)=s;generalize (wN z.natAbs).length=n;generalize (wN d).length=m;have N0:=Kk w #[.bool s,.slice a n c,.slice b m e] 121 _ rfl;have B0:=hd_ ((Below.refl w.heap.size w).alloc nr_ (.cells #[.bool s,.slice a n c,.slice b m e] 121));obtain⟨k0,k1,k2,-⟩:=Kd N0;clear N0;go_enter Tryz.func63,Tryz.ntmps63;go_wp2_with fail;go_ret;exact⟨rfl,B0.o⟩
theorem Zso(w:World)(x y:Int)(d e:Nat)(a1 a2 b1 b2:OA_)(c1 c2 e1 e2:Nat)(h1:IsX w a1 c1 x.natAbs)(h2:IsX w a2 c2 y.natAbs)(g1:IsX w b1 e1 d)(g2:IsX w b2 e2 e)(l1:Vf x.natAbs)(l2:Vf y.natAbs)(m1:Vf d)(m2:Vf e):
  Ze4 70 #[frX x a1 c1 d b1 e1,frX y a2 c2 e b2 e2] w (x*y) (d*e):=by
 unfold Ze4 frX;have HT:=hd_ (fun W (hW:Bw_ w W)=>Ze8 W x y a1 a2 c1 c2 (h1.below hW nr_) (h2.below hW nr_) l1 l2);have HP:=hd_ (fun W (hW:Bw_ w W)=>Zak W b1 b2 e1 e2 d e (g1.below hW nr_).1 (g2.below hW nr_).1 m1 m2);unfold Zdh igV at HT;unfold Yk at HP;clear h1 h2 g1 g2 l1 l2 m1 m2;generalize decide (x<0)=sx at *;generalize decide (y<0)=sy at *;generalize decide (x*y<0)=sz at *;generalize (x*y).natAbs=pz at *;generalize (wN x.natAbs).length=m1 at *;generalize (wN y.natAbs).length=m2 at *;generalize (wN d).length=n1 at *;generalize (wN e).length=n2 at *;generalize d*e=de at *;have H3:=hd_ (Qbm.mk' w #[.bool sx,.slice a1 m1 c1,.slice b1 n1 e1] #[.bool sy,.slice a2 m2 c2,.slice b2 n2 e2] #[.bool false,.slice none 0 0,.slice none 0 0] 121 121 121);go_enter Tryz.func70,Tryz.ntmps70;go_wp2_with fail;generalize ((w.alloc (.cells #[.bool sx,.slice a1 m1 c1,.slice b1 n1 e1] 121)).alloc (.cells #[.bool sy,.slice a2 m2 c2,.slice b2 n2 e2] 121)).alloc (.cells #[.bool false,.slice none 0 0,.slice none 0 0] 121)=W1 at *;obtain⟨k0,k1,k2,-⟩:=Kd H3.o.fa;obtain⟨k3,k4,k5,-⟩:=Kd H3.o.fb;have q0:=NW.cell k0;have q1:=NW.cell k1;have q2:=NW.cell k2;have q3:=NW.cell k3;have q4:=NW.cell k4;have q5:=NW.cell k5;have gn:Nonempty (NW W1):=⟨⟨W1,Below.refl _ _⟩⟩;have I:Hid (Bw_ W1 W1.drew):=(Below.refl _ _).drew;clear k0 k1 k2 k3 k4 k5;refine wn_ 11 [(1,0),(1,1),(1,2),(1,3),(1,5),(1,6),(1,7),(1,8),(0,4),(0,9),(2,10),(0,11)] I ?_;iterate 8 (refine wr_ rfl ?_;go_big_quiet_step (fail);refine wq_ ?_)
 refine wm_ rfl ?_;go_wp2_with fail;refine cm_ (HT.o _ (H3.o.bel.trans (I.o.mono H3.o.bel.size))) ?_;rintro e_ y0 ⟨ra0,rc0,rfl,hi_,hb_⟩;have J0:Hid (Bw_ W1 y0):=I.o.trans (hb_.mono I.o.size);have R0:=hd_ hi_;clear hb_ hi_;go_wp2_with fail;refine⟨⟨⟨_,J0.o⟩,rfl⟩,?_⟩;clear HT I;refine wm_ rfl ?_;go_wp2_with fail;refine cm_ (HP.o _ (H3.o.bel.trans (J0.o.mono H3.o.bel.size))) ?_;rintro e_ y1 ⟨ra1,rc1,rfl,hi_,hb_⟩;have J1:Hid (Bw_ W1 y1):=J0.o.trans (hb_.mono J0.o.size);have R1:=hd_ hi_;replace R0:=hd_ (R0.o.below hb_ nr_);clear hb_ hi_;go_wp2_with fail;refine⟨⟨⟨_,J1.o⟩,rfl⟩,?_⟩;clear HP J0;refine wa_ rfl ?_;go_big_quiet_step (fail);refine wq_ ?_;have H5:=hd_ (H3.o.next J1.o);obtain⟨k0_,k1_,k2_,f_⟩:=Kd H5.o.fr;have gR:=hd_ (Zn (.bool sz) (.slice ra0 (wN pz).length rc0) (.slice ra1 (wN de).length rc1) k0_ k1_ k2_ (show w.heap.size<=w.heap.size+1+1 by omega) H5.o.bel);have GT:=Zca H5.o.fr;have EU:=f_ 0;have dj:=f_ 1;have IL:=f_ 2;refine wm_ rfl ?_;go_wp2_with fail;simp only[RP.walkR];go_wp2_with fail;obtain⟨c0_,c1_,c2_,hb_⟩:=gR.o;exact bodyPost_ret (v := .agg #[.bool sz,.slice ra0 (wN pz).length rc0,.slice ra1 (wN de).length rc1]) (by simp[results,Tryz.results70,go_sem,c0_,c1_,c2_]) rfl ⟨ra0,rc0,ra1,rc1,rfl,R0.o.set3 GT _ _ _,R1.o.set3 GT _ _ _,hb_⟩
theorem Zxv{x y:Nat}:(Vt x y==0)=decide (x=y):=by
 unfold Vt
 by_cases h1:x<y
 ·rw[if_pos h1,decide_eq_false (by omega)];rfl
 ·rw[if_neg h1]
  by_cases h2:x=y
  ·rw[if_pos h2,decide_eq_true h2];rfl
  ·rw[if_neg h2,decide_eq_false h2];rfl
def Zuk (p q:Int×Nat):Int×Nat:=if p.2=q.2 then (p.1+q.1,p.2) else (p.1*q.2+q.1*p.2,p.2*q.2)
theorem Qbj(w:World)(x y:Int)(d e:Nat)(a1 a2 b1 b2:OA_)(c1 c2 e1 e2:Nat)(h1:IsX w a1 c1 x.natAbs)(h2:IsX w a2 c2 y.natAbs)(g1:IsX w b1 e1 d)(g2:IsX w b2 e2 e)(l1:Vf x.natAbs)(l2:Vf y.natAbs)(m1:Vf d)(m2:Vf e)(lx:Vf (x*e).natAbs)(ly:Vf (y*d).natAbs):
  Ze4 69 #[frX x a1 c1 d b1 e1,frX y a2 c2 e b2 e2] w (Zuk (x,d) (y,e)).1 (Zuk (x,d) (y,e)).2:=by
 unfold Ze4 frX;have HC:=hd_ (fun W (hW:Bw_ w W)=>Za2 W b1 b2 e1 e2 d e (g1.below hW nr_).1 (g2.below hW nr_).1 (Nat.le_trans m1 (by decide)));have hc:=Zxv (x:=d) (y:=e);have H3:=hd_ (Qbm.mk' w #[.bool (decide (x<0)),.slice a1 (wN x.natAbs).length c1,.slice b1 (wN d).length e1] #[.bool (decide (y<0)),.slice a2 (wN y.natAbs).length c2,.slice b2 (wN e).length e2] #[.bool false,.slice none 0 0,.slice none 0 0] 121 121 121)
 by_cases Fx:d=e
 ·subst Fx;rw[decide_eq_true rfl] at hc;have HS:=hd_ (fun W (hW:Bw_ w W)=>Zl2 W x y a1 a2 c1 c2 (h1.below hW nr_) (h2.below hW nr_) l1 l2);unfold Zdh igV at HS;have G1:=hd_ g1;have hv:Zuk (x,d) (y,d)=(x+y,d):=by unfold Zuk;rw[if_pos rfl]
  rw[hv];clear h1 h2 g1 g2 l1 l2 m1 m2 lx ly hv
  dsimp only
  obtain⟨v,hv⟩:∃ v,Vt d d=v:=⟨_,rfl⟩;rw[hv] at HC hc;clear hv;generalize decide (x<0)=sx at *;generalize decide (y<0)=sy at *;generalize decide (x+y<0)=sz at *;generalize (x+y).natAbs=pz at *;generalize (wN x.natAbs).length=m1 at *;generalize (wN y.natAbs).length=m2 at *;obtain⟨k0,k1,k2,-⟩:=Kd H3.o.fa;obtain⟨k3,k4,k5,-⟩:=Kd H3.o.fb;go_enter Tryz.func69,Tryz.ntmps69;go_wp2_with fail;generalize ((w.alloc (.cells #[.bool sx,.slice a1 m1 c1,.slice b1 (wN d).length e1] 121)).alloc (.cells #[.bool sy,.slice a2 m2 c2,.slice b2 (wN d).length e2] 121)).alloc (.cells #[.bool false,.slice none 0 0,.slice none 0 0] 121)=W0 at *;clear k0 k1 k2 k3 k4 k5;refine cm_ (HC.o _ H3.o.bel) ?_;rintro e_ W1 ⟨rfl,hb⟩;replace H3:=hd_ (H3.o.next hb);clear hb HC;go_wp2_with fail;obtain⟨k0,k1,k2,-⟩:=Kd H3.o.fa;obtain⟨k3,k4,k5,-⟩:=Kd H3.o.fb;have q0:=NW.cell k0;have q1:=NW.cell k1;have q2:=NW.cell k2;have q3:=NW.cell k3;have q4:=NW.cell k4;have q5:=NW.cell k5;have gn:Nonempty (NW W1):=⟨⟨W1,Below.refl _ _⟩⟩;have I:Hid (Bw_ W1 W1.drew):=(Below.refl _ _).drew;clear k0 k1 k2 k3 k4 k5;refine wn_ 8 [(1,0),(1,1),(1,2),(1,3),(1,5),(1,6),(0,4),(2,7),(0,8)] I ?_;iterate 6 (refine wr_ rfl ?_;go_big_quiet_step (fail);refine wq_ ?_)
  refine wm_ rfl ?_;go_wp2_with fail;refine cm_ (HS.o _ (H3.o.bel.trans (I.o.mono H3.o.bel.size))) ?_;rintro e_ y0 ⟨ra0,rc0,rfl,hi_,hb_⟩;have J0:Hid (Bw_ W1 y0):=I.o.trans (hb_.mono I.o.size);have R0:=hd_ hi_;clear hb_ hi_;go_wp2_with fail;refine⟨⟨⟨_,J0.o⟩,rfl⟩,?_⟩;have GB:=hd_ (G1.o.below (H3.o.bel.trans (J0.o.mono H3.o.bel.size)) nr_);clear HS I G1;refine wa_ rfl ?_;go_big_quiet_step (fail);refine wq_ ?_;have H5:=hd_ (H3.o.next J0.o);obtain⟨k0_,k1_,k2_,f_⟩:=Kd H5.o.fr;have gR:=hd_ (Zn (.bool sz) (.slice ra0 (wN pz).length rc0) (.slice b1 (wN d).length e1) k0_ k1_ k2_ (show w.heap.size<=w.heap.size+1+1 by omega) H5.o.bel);have GT:=Zca H5.o.fr;have EU:=f_ 0;have dj:=f_ 1;have IL:=f_ 2;refine wm_ rfl ?_;go_wp2_with fail;simp only[RP.walkR];go_wp2_with fail;obtain⟨c0_,c1_,c2_,hb_⟩:=gR.o;exact bodyPost_ret (v := .agg #[.bool sz,.slice ra0 (wN pz).length rc0,.slice b1 (wN d).length e1]) (by simp[results,Tryz.results69,go_sem,c0_,c1_,c2_]) rfl ⟨ra0,rc0,b1,e1,rfl,R0.o.set3 GT _ _ _,GB.o.set3 GT _ _ _,hb_⟩
 ·rw[decide_eq_false Fx] at hc;have hv:Zuk (x,d) (y,e)=(x*e+y*d,d*e):=by unfold Zuk;rw[if_neg Fx]
  have jR:=hd_ (fun W (hW:Bw_ w W)=>Ze8 W x (e:Int) a1 b2 c1 e2 (h1.below hW nr_) (g2.below hW nr_) l1 m2);have fw:=hd_ (fun W (hW:Bw_ w W)=>Ze8 W y (d:Int) a2 b1 c2 e1 (h2.below hW nr_) (g1.below hW nr_) l2 m1);have HS:=hd_ (fun W r1 s1 r2 s2 (k1:IsX W r1 s1 (x*(e:Int)).natAbs) (k2:IsX W r2 s2 (y*(d:Int)).natAbs)=>Zl2 W (x*e) (y*d) r1 r2 s1 s2 k1 k2 lx ly);have HP:=hd_ (fun W (hW:Bw_ w W)=>Zak W b1 b2 e1 e2 d e (g1.below hW nr_).1 (g2.below hW nr_).1 m1 m2);simp only[Zh4] at jR fw;unfold Zdh igV at jR fw HS;unfold Yk at HP;rw[hv];clear h1 h2 g1 g2 l1 l2 m1 m2 lx ly hv Fx
  dsimp only
  obtain⟨v,hv⟩:∃ v,Vt d e=v:=⟨_,rfl⟩;rw[hv] at HC hc;clear hv;obtain⟨xe,Bl⟩:∃ z,x*(e:Int)=z:=⟨_,rfl⟩;obtain⟨yd,hyd⟩:∃ z,y*(d:Int)=z:=⟨_,rfl⟩;rw[Bl] at jR HS ⊢;rw[hyd] at fw HS ⊢;clear Bl hyd;generalize decide (x<0)=sx at *;generalize decide (y<0)=sy at *;generalize decide (xe+yd<0)=sz at *;generalize (xe+yd).natAbs=pz at *;generalize decide (xe<0)=s1 at *;generalize decide (yd<0)=s2 at *;generalize xe.natAbs=p1 at *;generalize yd.natAbs=p2 at *;generalize d*e=de at *;generalize (wN x.natAbs).length=m1 at *;generalize (wN y.natAbs).length=m2 at *;generalize (wN d).length=n1 at *;generalize (wN e).length=n2 at *;obtain⟨k0,k1,k2,-⟩:=Kd H3.o.fa;obtain⟨k3,k4,k5,-⟩:=Kd H3.o.fb;go_enter Tryz.func69,Tryz.ntmps69;go_wp2_with fail;generalize ((w.alloc (.cells #[.bool sx,.slice a1 m1 c1,.slice b1 n1 e1] 121)).alloc (.cells #[.bool sy,.slice a2 m2 c2,.slice b2 n2 e2] 121)).alloc (.cells #[.bool false,.slice none 0 0,.slice none 0 0] 121)=W0 at *;clear k0 k1 k2 k3 k4 k5;refine cm_ (HC.o _ H3.o.bel) ?_;rintro e_ W1 ⟨rfl,hb⟩;replace H3:=hd_ (H3.o.next hb);clear hb HC;go_wp2_with fail;obtain⟨k0,k1,k2,-⟩:=Kd H3.o.fa;obtain⟨k3,k4,k5,-⟩:=Kd H3.o.fb;have q0:=NW.cell k0;have q1:=NW.cell k1;have q2:=NW.cell k2;have q3:=NW.cell k3;have q4:=NW.cell k4;have q5:=NW.cell k5;have gn:Nonempty (NW W1):=⟨⟨W1,Below.refl _ _⟩⟩;have I:Hid (Bw_ W1 W1.drew):=(Below.refl _ _).drew;clear k0 k1 k2 k3 k4 k5;refine wn_ 19 [(1,0),(1,1),(1,2),(1,3),(2,4),(1,6),(1,7),(1,8),(1,9),(2,10),(1,13),(1,14),(1,15),(1,16),(0,5),(0,11),(0,12),(0,17),(2,18),(0,19)] I ?_;iterate 4 (refine wr_ rfl ?_;go_big_quiet_step (fail);refine wq_ ?_)
  refine wa_ rfl ?_;go_big_quiet_step (fail);refine wq_ ?_;iterate 4 (refine wr_ rfl ?_;go_big_quiet_step (fail);refine wq_ ?_)
  refine wa_ rfl ?_;go_big_quiet_step (fail);refine wq_ ?_;iterate 4 (refine wr_ rfl ?_;go_big_quiet_step (fail);refine wq_ ?_)
  refine wm_ rfl ?_;go_wp2_with fail;refine cm_ (jR.o _ (H3.o.bel.trans (I.o.mono H3.o.bel.size))) ?_;rintro e_ y0 ⟨ra0,rc0,rfl,hi_,hb_⟩;have J0:Hid (Bw_ W1 y0):=I.o.trans (hb_.mono I.o.size);have R0:=hd_ hi_;clear hb_ hi_;go_wp2_with fail;refine⟨⟨⟨_,J0.o⟩,rfl⟩,?_⟩;clear jR I;refine wm_ rfl ?_;go_wp2_with fail;refine cm_ (fw.o _ (H3.o.bel.trans (J0.o.mono H3.o.bel.size))) ?_;rintro e_ y1 ⟨ra1,rc1,rfl,hi_,hb_⟩;have J1:Hid (Bw_ W1 y1):=J0.o.trans (hb_.mono J0.o.size);have R1:=hd_ hi_;replace R0:=hd_ (R0.o.below hb_ nr_);clear hb_ hi_;go_wp2_with fail;refine⟨⟨⟨_,J1.o⟩,rfl⟩,?_⟩;clear fw J0;refine wm_ rfl ?_;go_wp2_with fail;refine cm_ (HS.o _ ra0 rc0 ra1 rc1 R0.o R1.o) ?_;rintro e_ y2 ⟨ra2,rc2,rfl,hi_,hb_⟩;have J2:Hid (Bw_ W1 y2):=J1.o.trans (hb_.mono J1.o.size);have R2:=hd_ hi_;clear hb_ hi_;go_wp2_with fail;refine⟨⟨⟨_,J2.o⟩,rfl⟩,?_⟩;clear HS J1 R0 R1;refine wm_ rfl ?_;go_wp2_with fail;refine cm_ (HP.o _ (H3.o.bel.trans (J2.o.mono H3.o.bel.size))) ?_;rintro e_ y3 ⟨ra3,rc3,rfl,hi_,hb_⟩;have J3:Hid (Bw_ W1 y3):=J2.o.trans (hb_.mono J2.o.size);have R3:=hd_ hi_;replace R2:=hd_ (R2.o.below hb_ nr_);clear hb_ hi_;go_wp2_with fail;refine⟨⟨⟨_,J3.o⟩,rfl⟩,?_⟩;clear HP J2;refine wa_ rfl ?_;go_big_quiet_step (fail);refine wq_ ?_;have H5:=hd_ (H3.o.next J3.o);obtain⟨k0_,k1_,k2_,f_⟩:=Kd H5.o.fr;have gR:=hd_ (Zn (.bool sz) (.slice ra2 (wN pz).length rc2) (.slice ra3 (wN de).length rc3) k0_ k1_ k2_ (show w.heap.size<=w.heap.size+1+1 by omega) H5.o.bel);have GT:=Zca H5.o.fr;have EU:=f_ 0;have dj:=f_ 1;have IL:=f_ 2;refine wm_ rfl ?_;go_wp2_with fail;simp only[RP.walkR];go_wp2_with fail;obtain⟨c0_,c1_,c2_,hb_⟩:=gR.o;exact bodyPost_ret (v := .agg #[.bool sz,.slice ra2 (wN pz).length rc2,.slice ra3 (wN de).length rc3]) (by simp[results,Tryz.results69,go_sem,c0_,c1_,c2_]) rfl ⟨ra2,rc2,ra3,rc3,rfl,R2.o.set3 GT _ _ _,R3.o.set3 GT _ _ _,hb_⟩
theorem Zzn(w:World):Ze4 64 #[] w 0 1:=by
 unfold Ze4 frX;have N0:=hd_ (Kk w #[.bool false,.slice none 0 0,.slice none 0 0] 121 _ rfl);have B0:=hd_ ((Below.refl w.heap.size w).alloc nr_ (.cells #[.bool false,.slice none 0 0,.slice none 0 0] 121));go_enter Tryz.func64,Tryz.ntmps64
 go_upto_region 1 with fail
 generalize w.alloc (.cells #[.bool false,.slice none 0 0,.slice none 0 0] 121)=w1 at *;have C1:=hd_ ((Below.refl w1.heap.size w1).alloc nr_ (.cells #[.int .u32 1] 131));have N1:=hk_ N0 C1.o;have B1:=bt_ B0 C1.o;have R1:Hid (IsX (w1.alloc (.cells #[.int .u32 1] 131)) (some ⟨w1.heap.size,0,none⟩) 1 1):=IsX.one (Kk w1 #[.int .u32 1] 131 _ rfl);obtain⟨k0_,k1_,k2_,f_⟩:=Kd N1.o;have gR:=hd_ (Zn (.bool false) (.slice none 0 0) (.slice (some ⟨w1.heap.size,0,none⟩) 1 1) k0_ k1_ k2_ nr_ B1.o);have GT:=Zca N1.o;have EU:=f_ 0;have dj:=f_ 1;have IL:=f_ 2;go_wp2_with fail;obtain⟨c0_,c1_,c2_,hb_⟩:=gR.o;exact bodyPost_ret (v := .agg #[.bool false,.slice none 0 0,.slice (some ⟨w1.heap.size,0,none⟩) 1 1]) (by simp[results,Tryz.results64,go_sem,c0_,c1_,c2_]) rfl ⟨none,0,some ⟨w1.heap.size,0,none⟩,1,by rw[show (0:Int).natAbs=0 from rfl,Vg,Vs];rfl,IsX.zero _,R1.o.set3 GT _ _ _,hb_⟩
theorem Qhz(w:World)(s:ByteArray)(k:Nat)(h:k<s.size):
  (Instr.index 9 (.string s) (.int .i64 k)).run Tryz.prog w = .ok (.int .u8 ((lb s).getD k 0).toNat) w:=by
 rw[run_index_string _ _ _ _ _ Tryz.underlying9];have h2:(0:Int)<=k/\(k:Int)<s.size:=by omega
 rw[dif_pos h2];have e:(lb s).getD k 0=s[((k:Nat):Int).toNat]'(by omega):=by
  unfold lb;rw[List.getD_eq_getElem?_getD,List.getElem?_eq_getElem (show k<s.data.toList.length by rw[Array.length_toList];exact h)];rfl
 rw[e]
theorem Qd6{n k:Nat}(h:k<(dec n).size):48<=((lb (dec n)).getD k 0).toNat/\((lb (dec n)).getD k 0).toNat<=57:=by
 rw[Yo];rw[Kw] at h;exact Zaz n _ (by rw[List.getD_eq_getElem?_getD,List.getElem?_eq_getElem h];exact List.getElem_mem _)
theorem Qa3{n:Nat}:((lb (dec n)).getD 0 0).toNat=48->n=0/\(dec n).size=1:=by
 intro h;rw[Yo] at h;have hc:=Zny n;have hp:=Zac n;rcases hc.2.2 with h1|h1
 ·refine⟨?_,by rw[Kw];exact h1⟩
  match hl:Lib.decDigits n,h1 with
  | [c],_ =>
   have hv:=Zs n;rw[hl] at hv h;have:Vo [c]=c.toNat-48:=by simp[Vo]
   have h':c.toNat=48:=h;omega
 ·exfalso;refine h1 ?_
  match hl:Lib.decDigits n,hp with
  | c::l,_ =>
   rw[hl] at h;have h':c.toNat=48:=h;have:c=48:=UInt8.toNat_inj.1 (by rw[h'];rfl)
   rw[this];rfl
theorem Qg.set1{w:World}{g i:Nat}{a:OA_}{l:List Nat}(h:Qg w a l)(hn:Zqn w g)(x:Value):Qg (w.setCell ⟨g,i,none⟩ x) a l:=by
 rcases h.apart hn with h|⟨b,o,h1,h2,h3,h4⟩
 ·exact .inl h
 ·refine .inr ⟨b,o,h1,⟨h2.choose,by rw[Below.heap_setCell _ _ _ _ h3];exact h2.choose_spec⟩,fun j hj=>?_⟩;rw[World.cell?_setCell_other _ _ _ _ (by simp)];exact h4 j hj
theorem IsX.set1{w:World}{g i c n:Nat}{a:OA_}(h:IsX w a c n)(hn:Zqn w g)(x:Value):IsX (w.setCell ⟨g,i,none⟩ x) a c n:=⟨h.1.set1 hn x,h.2⟩
theorem Zza{w:World}{g:Nat}{a b:Value}{t:TypeId}(h:w.heap[g]?=some (.cells #[a,b] t (0,0)))(x:Value):(w.setCell ⟨g,1,none⟩ x).heap[g]?=some (.cells #[a,x] t (0,0)):=by
 have:=heap_setCell_same w g 1 _ t x h
 exact this
theorem Zzb{w:World}{g:Nat}{a b:Value}{t:TypeId}(h:w.heap[g]?=some (.cells #[a,b] t (0,0)))(x:Value):(w.setCell ⟨g,0,none⟩ x).heap[g]?=some (.cells #[x,b] t (0,0)):=by
 have:=heap_setCell_same w g 0 _ t x h
 exact this
theorem Zgm{w:World}{g g' i:Nat}{o:Obj}(h:w.heap[g]?=some o)(gh:g≠g')(x:Value):(w.setCell ⟨g',i,none⟩ x).heap[g]?=some o:=by
 exact(Below.heap_setCell _ _ _ _ gh).trans h
theorem IsX.ten{w:World}{g:Nat}(h:w.heap[g]?=some (.cells #[.int .u32 10] 131 (0,0))):IsX w (some ⟨g,0,none⟩) 1 10:=by
 have e:wN 10=[10]:=Zqq (by decide) (by decide);refine⟨.inr ⟨g,0,rfl,⟨_,h⟩,fun i hi=>?_⟩,by rw[e];exact Nat.le_refl _⟩;rw[e] at hi ⊢;have Lk:i<1:=hi;obtain rfl:i=0:=by omega
 exact cell_of_row _ _ 0 _ _ _ h
structure RdX (w:World) (neg:Bool) (n k:Nat) (a:OA_) (c:Nat) (wr:World):Prop where
 res:wr.heap[w.heap.size]?=some (.cells #[.bool false,.slice none 0 0] 119 (0,0))
 o:wr.heap[w.heap.size+1]?=some (.cells #[.bool neg,.slice a (wN (Vo ((lb (dec n)).take k))).length c] 119 (0,0))
 num:IsX wr a c (Vo ((lb (dec n)).take k))
 bel:Bw_ w wr
theorem Zel(w:World)(z:Int)(hz:(dec z.natAbs).size<=400):
  Calls Tryz.prog 66 #[.string (itx z)] w fun e w'=>∃ a c,e = .returned (.tuple #[igV z a c,.bool true])/\IsX w' a c z.natAbs/\Bw_ w w':=by
 unfold igV;obtain⟨n,hn⟩:∃ n,z.natAbs=n:=⟨_,rfl⟩;rw[hn] at hz ⊢;have HD:Hid (∀ k,k<(dec n).size->∃ u:Nat,((lb (dec n)).getD k 0).toNat=u/\48<=u/\u<=57/\(∀ W,(Instr.index 9 (.string (dec n)) (.int .i64 k)).run Tryz.prog W = .ok (.int .u8 u) W)/\Vo ((lb (dec n)).take (k+1))=10*Vo ((lb (dec n)).take k)+(u-48)):=fun k hk=>by
  have h:=Qd6 hk;refine⟨_,rfl,h.1,h.2,fun W=>Qhz W _ k hk,Zb4 _ _ (by rw[Yo,<- Kw];exact hk)⟩
 have j4:Hid (Vf n):=by
  have h1:n<10^400:=(Kv n 400 (by decide)).1 (by rw[<- Kw];exact hz);have h2:n<4294967296^1000:=Nat.lt_of_lt_of_le h1 (by decide +kernel);exact Nat.le_trans (Zl9 h2) (by decide)
 have iF:Hid (∀ k,Vo ((lb (dec n)).take k)<=n):=fun k=>by
  have h1:=Zbg ((lb (dec n)).take k) ((lb (dec n)).drop k);rw[List.take_append_drop,Yo,Zs] at h1;rw[Yo];have h2:Vo ((Lib.decDigits n).take k)*1<=Vo ((Lib.decDigits n).take k)*10^((Lib.decDigits n).drop k).length:=Nat.mul_le_mul_left _ (Nat.pow_pos (by decide));omega
 have EI:Hid (Vo ((lb (dec n)).take (dec n).size)=n):=by
  show _=_
  rw[Yo,Kw,List.take_length,Zs]
 have De:=Zab n;have Hh:=hd_ (Qa3 (n:=n));obtain⟨L,hL⟩:∃ L,(dec n).size=L:=⟨_,rfl⟩;rw[hL] at hz HD De Hh EI;have HL:=hd_ hL;have gh:((dec n).toList==([]:List UInt8))=false:=by
  rw[beq_eq_false_iff_ne];intro e;have:=congrArg List.length e
  rw[ByteArray.toList_eq] at this;simp only[Array.length_toList,List.length_nil] at this;have h2:(dec n).data.size=L:=hL;omega
 have aq:(dec n).toList.isEmpty=false:=by
  cases h:(dec n).toList with
  | nil=>rw[h] at gh;exact absurd gh (by decide)
  | cons a l=>rfl
 have Az:Hid ((decide (z<0)=true/\1<=n/\itx z=itx (-(n:Int)))\/(decide (z<0)=false/\itx z=dec n)):=by
  by_cases h:z<0
  ·exact .inl ⟨decide_eq_true h,by omega,by rw[<- hn];congr 1;omega⟩
  ·exact .inr ⟨decide_eq_false h,by rw[show z=(n:Int) by omega,Kg]⟩
 obtain⟨neg,Gi⟩:∃ b,decide (z<0)=b:=⟨_,rfl⟩;rw[Gi] at Az ⊢;clear Gi hn;generalize itx z=s0 at *;have Ny:Hid (neg=true->1<=n):=fun h=>by
  rcases Az.o with h2|h2
  ·exact h2.2.1
  ·rw[h] at h2;exact absurd h2.1 (by decide)
 obtain⟨v0,hixg,hv45,hpos0⟩:∃ v0:Nat,(∀ W,(Instr.index 9 (.string s0) (.int .i64 0)).run Tryz.prog W = .ok (.int .u8 v0) W)/\((v0:Int)==45)=neg/\(0:Int)<s0.size:=by
  rcases Az.o with⟨rfl,h1,rfl⟩|⟨rfl,rfl⟩
  ·have Gu:=Vl n h1;refine⟨45,fun W=>?_,rfl,by omega⟩;have:=Qhz W (itx (-(n:Int))) 0 (by omega)
   rw[Zf n h1] at this;exact this
  ·obtain⟨u,hu,Bo,ag,Ej,-⟩:=HD.o 0 De;exact⟨u,Ej,by rw[beq_eq_false_iff_ne];omega,by rw[hL];omega⟩
 have K0:=Kk w #[.bool false,.slice none 0 0] 119 _ rfl;have e1:(w.alloc (.cells #[.bool false,.slice none 0 0] 119)).heap.size=w.heap.size+1:=by simp
 have N1:=hd_ (Kk (w.alloc (.cells #[.bool false,.slice none 0 0] 119)) #[.bool false,.slice none 0 0] 119 _ e1);have N0:=hd_ (Kh K0 (.cells #[.bool false,.slice none 0 0] 119));have B0:=hd_ (((Below.refl w.heap.size w).alloc nr_ (.cells #[.bool false,.slice none 0 0] 119)).alloc (by rw[e1];omega) (.cells #[.bool false,.slice none 0 0] 119));clear K0 e1;go_enter Tryz.func66,Tryz.ntmps66
 go_upto_if 15 with fail
 generalize (w.alloc (.cells #[.bool false,.slice none 0 0] 119)).alloc (.cells #[.bool false,.slice none 0 0] 119)=w2 at *;clear hixg hpos0
 go_cut [4] from 16 to 18 (fun s wx=>s = .string (dec n)/\Hid (wx.heap[w.heap.size]?=some (.cells #[.bool false,.slice none 0 0] 119 (0,0)))/\Hid (wx.heap[w.heap.size+1]?=some (.cells #[.bool neg,.slice none 0 0] 119 (0,0)))/\Hid (Bw_ w wx))
 case first =>
  rcases Az.o with⟨rfl,h1,rfl⟩|⟨rfl,hs0'⟩
  ·have Gu:=Vl n h1;have FB:(1:Int)<=(itx (-(n:Int))).size:=by omega
   have Hr:=hd_ (Zle n h1);clear Gu Az hv45;generalize itx (-(n:Int))=s at *;obtain⟨k0,k1,f0,f1⟩:=Ka N1.o;go_wp2_with fail;refine RP.wp_region_readers 3 [(2,0),(2,1),(2,2),(0,3),(0,4)] (fun _=>True) (by kernel_rfl) (by kernel_rfl) ?_ ?_
   ·trivial
   iterate 3 (refine wa_ rfl ?_;go_big_quiet_step (fail);refine wq_ ?_)
   refine wm_ rfl ?_;go_wp2_with fail;refine wm_ rfl ?_;go_wp2_with fail;simp only[RP.walkR];go_wp2_with fail
   go_meet
   have hD:=(Below.refl w2.heap.size w2).drew;exact⟨by rw[Hr.o],Zgm (hj_ N0 hD) (by omega) _,Zzb (hj_ N1 hD) _,(bu_ B0 hD).setCell (p:=⟨w.heap.size+1,0,none⟩) (by show w.heap.size<=w.heap.size+1;omega) _⟩
  ·have pH:=hd_ hs0';clear hv45 hs0' Az;go_wp2_with fail
   go_meet
   exact⟨by rw[pH.o],N0.o,N1.o,B0.o⟩
 case rest =>
 obtain⟨rfl,M0,M1,B1⟩:=hcut;clear N0 N1 B0 Az hv45;obtain⟨k0,-,-,-⟩:=Ka M1.o
 go_upto_region 5 with fail
 go_cut [39] from 19 to 39 (fun c wx=>c = .bool false/\wc=wx)
 case first =>
  obtain⟨u,hu,Bo,ag,hix0,-⟩:=HD.o 0 De;have Ej:∀ W,(Instr.index 9 (.string (dec n)) (.int .i64 0)).run Tryz.prog W = .ok (.int .u8 u) W:=hix0;clear hix0;have gd:¬ (400:Int)<(L:Int):=by omega
  by_cases h48:u=48
  ·obtain⟨dP,f9⟩:=Hh.o (by rw[hu];exact h48);have lS:neg=false:=by
    cases hb:neg with
    | false=>rfl
    | true=>have:=Ny.o hb;omega
   subst lS;subst h48;subst f9;clear dP hu Bo ag;go_wp2_with fail
   go_meet
   exact⟨rfl,rfl⟩
  ·have bM:((u:Int)==48)=false:=by rw[beq_eq_false_iff_ne];omega
   have O9:(u==48)=false:=by rw[beq_eq_false_iff_ne];exact h48
   clear hu Bo ag;go_wp2_with fail
   go_meet
   exact⟨rfl,rfl⟩
 case rest =>
 obtain⟨rfl,rfl⟩:=hcut;clear k0 gh aq Hh Ny;have HR:Hid (RdX w neg n 0 none 0 wc):=by
  refine⟨M0.o,?_,?_,B1.o⟩
  ·rw[List.take_zero,show Vo []=0 from rfl,Vg];exact M1.o
  ·rw[List.take_zero];exact IsX.zero _
 have rz:=HL.o;clear M0 M1 B1;go_wp2_with fail
 go_loopw [43] (fun i wr=>∃ (k:Nat) (a:OA_) (c:Nat),k<=L/\i = .int .i64 k/\Hid (RdX w neg n k a c wr)) (fun i _=>L-(intOf i).toNat)
 case atStart=>exact⟨0,none,0,Nat.zero_le _,rfl,HR.o⟩
 case round =>
  obtain⟨k,a,c,hk,rfl,HI⟩:=hrel;clear HR
  by_cases H7:k<L
  ·obtain⟨x,hx⟩:∃ x,Vo ((lb (dec n)).take k)=x:=⟨_,rfl⟩;obtain⟨u,hu,Bo,ag,Ej,GT⟩:=HD.o k H7;have N1:=hd_ HI.o.o;have X1:=hd_ HI.o.num;have N0:=hd_ HI.o.res;have B1:=hd_ HI.o.bel;rw[hx] at N1 X1 GT;have EB:=hd_ GT;have Lx:Hid (Vf x):=(j4.o).le (by rw[<- hx];exact iF.o k);clear GT hx HI;obtain⟨k0,k1,f0,f1⟩:=Ka N1.o;have q0:=NW.cell k1;have gn:Nonempty (NW wr):=⟨⟨wr,Below.refl _ _⟩⟩;have I:Hid (Bw_ wr wr.drew):=(Below.refl _ _).drew;have Oh:¬ u<48:=by omega
   have Ou:¬ 57<u:=by omega
   have ng:¬ (u:Int)<48:=by omega
   have nt:¬ (57:Int)<u:=by omega
   have FR:IntKind.u8.wrap ((u:Int)-48)=((u-48:Nat):Int):=by rw[IntKind.wrap_u8];omega
   have oY:IntKind.u64.wrap ((u-48:Nat):Int)=((u-48:Nat):Int):=Qq _ (by omega);have HP:=hd_ (fun W r1 s1 r2 s2 (k1:IsX W r1 s1 x) (k2:IsX W r2 s2 10)=>Zak W r1 r2 s1 s2 x 10 k1.1 k2.1 Lx.o (show Vf 10 by unfold Vf;rw[Zqq (by decide) (by decide)];decide));have Mg:=hd_ (fun W=>Zk1 W (u-48) (by omega));have Cm:=hd_ (fun W r1 s1 r2 s2 (k1:IsX W r1 s1 (x*10)) (k2:IsX W r2 s2 (u-48))=>Zen W r1 r2 s1 s2 (x*10) (u-48) k1.1 k2.1 (j4.o.le (by have:=iF.o (k+1);rw[EB.o] at this;omega)) (j4.o.le (by have:=iF.o (k+1);rw[EB.o] at this;omega)));unfold Yk at HP Mg Cm;rw[Zqq (show 0<10 by decide) (by decide)] at HP;clear k0 k1 f0 f1 hu Bo ag;have gi:(k:Int)<L:=by omega
   go_wp2_with fail;refine wn_ 12 [(1,0),(1,1),(2,4),(2,5),(2,6),(2,7),(2,8),(0,2),(0,3),(0,9),(0,10),(2,11),(0,12)] I ?_;iterate 2 (refine wr_ rfl ?_;go_big_quiet_step (fail);refine wq_ ?_)
   iterate 5 (refine wa_ rfl ?_;go_big_quiet_step (fail);refine wq_ ?_)
   refine wm_ rfl ?_;go_wp2_with fail;have T0:=hd_ ((I.o).alloc I.o.size (.cells #[.int .u32 10] 131));refine⟨⟨⟨_,T0.o⟩,rfl⟩,?_⟩;have XT:=hd_ (X1.o.below T0.o nr_);have nZ:Hid (IsX (wr.drew.alloc (.cells #[.int .u32 10] 131)) (some ⟨wr.drew.heap.size,0,none⟩) 1 10):=IsX.ten (Kk wr.drew #[.int .u32 10] 131 _ rfl);clear X1 I gn q0;refine wm_ rfl ?_;go_wp2_with fail;refine cm_ (HP.o _ _ _ _ _ XT.o nZ.o) ?_;rintro e_ y1 ⟨ra1,rc1,rfl,hi_,hb_⟩;have J1:Hid (Bw_ wr y1):=T0.o.trans (hb_.mono T0.o.size);have R1:=hd_ hi_;clear hb_ hi_ HP XT nZ T0;go_wp2_with fail;refine⟨⟨⟨_,J1.o⟩,rfl⟩,?_⟩;refine wm_ rfl ?_;go_wp2_with fail;refine cm_ (Mg.o _) ?_;rintro e_ y2 ⟨ra2,rc2,rfl,hi_,hb_⟩;have J2:Hid (Bw_ wr y2):=J1.o.trans (hb_.mono J1.o.size);have R2:=hd_ hi_;replace R1:=hd_ (R1.o.below hb_ nr_);clear hb_ hi_ Mg J1;go_wp2_with fail;refine⟨⟨⟨_,J2.o⟩,rfl⟩,?_⟩;refine wm_ rfl ?_;go_wp2_with fail;refine cm_ (Cm.o _ _ _ _ _ R1.o R2.o) ?_;rintro e_ y3 ⟨ra3,rc3,rfl,hi_,hb_⟩;have J3:Hid (Bw_ wr y3):=J2.o.trans (hb_.mono J2.o.size);have R3:=hd_ hi_;clear hb_ hi_ Cm J2 R1 R2;go_wp2_with fail;refine⟨⟨⟨_,J3.o⟩,rfl⟩,?_⟩;have M1:=hk_ N1 J3.o;have M0:=hk_ N0 J3.o;have B3:=bt_ B1 J3.o;obtain⟨k0_,k1_,EU,dj⟩:=Ka M1.o;have Od:=Zag M1.o;have lI:x*10+(u-48)=Vo ((lb (dec n)).take (k+1)):=by rw[EB.o];omega
   have pD:=hd_ lI;have R4:Hid (IsX y3 ra3 rc3 (Vo ((lb (dec n)).take (k+1)))):=by rw[<- lI];exact R3
   clear N0 N1 B1 J3 lI EB Lx R3;refine wa_ rfl ?_;go_big_quiet_step (fail);refine wq_ ?_;refine wm_ rfl ?_;go_wp2_with fail;simp only[RP.walkR];go_wp2_with fail;rw[pD.o];refine⟨⟨k+1,ra3,rc3,by omega,by go_num,⟨Zgm M0.o (by omega) _,Zza M1.o _,R4.o.set1 Od _,B3.o.setCell (p:=⟨w.heap.size+1,1,none⟩) (by show w.heap.size<=w.heap.size+1;omega) _⟩⟩,by simp[intOf];omega⟩
  ·obtain rfl:k=L:=by omega
   have N1:=hd_ HI.o.o;have X1:=hd_ HI.o.num;have N0:=hd_ HI.o.res;have B1:=hd_ HI.o.bel;rw[EI.o] at N1 X1;clear HI H7;obtain⟨k0,k1,-,-⟩:=Ka N1.o;obtain⟨k0_,k1_,EU,dj⟩:=Ka N0.o;have gR:=hd_ (Kl (.bool neg) (.slice a (wN n).length c) k0_ k1_ nr_ B1.o);have dE:=hd_ (X1.o.set2 (Zag N0.o) (.bool neg) (.slice a (wN n).length c));go_wp2_with fail;obtain⟨c0_,c1_,hb_⟩:=gR.o;exact bodyPost_ret (v := .tuple #[.agg #[.bool neg,.slice a (wN n).length c],.bool true]) (by simp[results,Tryz.results66,go_sem,c0_,c1_]) rfl ⟨a,c,rfl,dE.o,hb_⟩
end Go.Proofs.YtbielfplgbammaaGreatDoor

namespace Go.Proofs.YtbielfplgbammaaGreatDoor.LN
def sg (x:Rat):Int:=if 1<x then 1 else if x<1 then -1 else 0
theorem Zvo:sg 1=0:=by decide
theorem Zvn{x:Rat}:sg x=1↔1<x:=by
 unfold sg
 by_cases h:1<x
 ·simp[h]
 ·rw[if_neg h];split<;>simp[h]
theorem Zvp{x:Rat}:sg x = -1↔x<1:=by
 unfold sg
 by_cases h:1<x
 ·rw[if_pos h];constructor
  ·intro h2;cases h2
  ·intro h2;exact absurd h2 (by grind)
 ·rw[if_neg h];split<;>simp_all
theorem Qhc{x:Rat}:0<=sg x↔1<=x:=by
 constructor
 ·intro h;refine Rat.not_lt.1 fun h2=>?_
  rw[Zvp.2 h2] at h;omega
 ·intro h;unfold sg;split
  ·decide
  ·split
   ·rename_i h2;exact absurd h (Rat.not_le.2 h2)
   ·decide
theorem Qhb{x:Rat}:sg x<=0↔x<=1:=by
 constructor
 ·intro h;refine Rat.not_lt.1 fun h2=>?_
  rw[Zvn.2 h2] at h;omega
 ·intro h;unfold sg;split
  ·rename_i h2;exact absurd h (Rat.not_le.2 h2)
  ·split<;>decide
theorem Qc7{x:Rat}:sg x=0↔x=1:=by
 constructor
 ·intro h;exact Rat.le_antisymm (Qhb.1 (by omega)) (Qhc.1 (by omega))
 ·rintro rfl;exact Zvo
theorem Zy7(x:Rat):sg x=1\/sg x=0\/sg x = -1:=by
 unfold sg;split
 ·exact .inl rfl
 ·split
  ·exact .inr (.inr rfl)
  ·exact .inr (.inl rfl)
theorem Ztc{x y:Rat}(hx:1<=x)(hy:1<=y):1<=x*y:=by
 have h:=Rat.mul_le_mul_of_nonneg_left hy (show 0<=x by grind);rw[Rat.mul_one] at h;exact Rat.le_trans hx h
theorem Ztb{x y:Rat}(hx:1<x)(hy:1<=y):1<x*y:=by
 have h:=Rat.mul_le_mul_of_nonneg_left hy (show 0<=x by grind);rw[Rat.mul_one] at h
 grind
theorem Zti{x y:Rat}(h0:0<x)(hx:x<=1)(hy:y<=1):x*y<=1:=by
 have h:=Rat.mul_le_mul_of_nonneg_left hy (show 0<=x by grind);rw[Rat.mul_one] at h
 grind
theorem Zth{x y:Rat}(h0:0<x)(hx:x<1)(hy:y<=1):x*y<1:=by
 have h:=Rat.mul_le_mul_of_nonneg_left hy (show 0<=x by grind);rw[Rat.mul_one] at h
 grind
theorem Zjp{x:Rat}(hx:1<=x):∀ m:Nat,1<=x^m
 | 0=>by rw[Rat.pow_zero];exact Rat.le_refl
 | m+1=>by rw[Rat.pow_succ];exact Ztc (Zjp hx m) hx
theorem Zjo{x:Rat}(hx:1<x)(m:Nat)(hm:0<m):1<x^m:=by
 obtain⟨k,rfl⟩:=Nat.exists_eq_succ_of_ne_zero (by omega:m≠0);rw[Rat.pow_succ,Rat.mul_comm];exact Ztb hx (Zjp (by grind) k)
theorem Zjq{x:Rat}(h0:0<x)(hx:x<=1):∀ m:Nat,x^m<=1
 | 0=>by rw[Rat.pow_zero];exact Rat.le_refl
 | m+1=>by rw[Rat.pow_succ];exact Zti (Rat.pow_pos h0) (Zjq h0 hx m) hx
theorem Zs8{x:Rat}(h0:0<x)(hx:x<1)(m:Nat)(hm:0<m):x^m<1:=by
 obtain⟨k,rfl⟩:=Nat.exists_eq_succ_of_ne_zero (by omega:m≠0);rw[Rat.pow_succ,Rat.mul_comm];exact Zth h0 hx (Zjq h0 (by grind) k)
theorem Qfk{x:Rat}(h0:0<x){m:Nat}(hm:0<m):sg (x^m)=sg x:=by
 rcases Zy7 x with h|h|h
 ·rw[h];exact Zvn.2 (Zjo (Zvn.1 h) m hm)
 ·rw[h];rw[Qc7.1 h];have:(1:Rat)^m=1:=by
   clear hm
   induction m with
   | zero=>rfl
   | succ m ih=>rw[Rat.pow_succ,ih,Rat.mul_one]
  rw[this];exact Zvo
 ·rw[h];exact Zvp.2 (Zs8 h0 (Zvp.1 h) m hm)
def vp:List Int->List Int->Rat
 | p::ps,k::ks=>(p:Rat)^k*vp ps ks
 | _,_=>1
theorem Qbs:∀ (ps ks:List Int),(∀ p∈ps,0<p)->0<vp ps ks
 | [],_,_=>by simp only[vp];decide
 | _::_,[],_=>by simp only[vp];decide
 | p::ps,k::ks,h=>by
  simp only[vp];exact Rat.mul_pos (Rat.zpow_pos (by have:=h p List.mem_cons_self;exact Rat.intCast_pos.2 this)) (Qbs ps ks fun q hq=>h q (List.mem_cons_of_mem _ hq))
theorem Qbt:∀ (ps ks ms:List Int),(∀ p∈ps,0<p)->ks.length=ms.length->vp ps (List.zipWith (· + ·) ks ms)=vp ps ks*vp ps ms
 | [],_,_,_,_=>by simp only[vp];rw[Rat.mul_one]
 | _::_,[],[],_,_=>by simp[vp]
 | p::ps,k::ks,m::ms,h,hl=>by
  have ih:=Qbt ps ks ms (fun q hq=>h q (List.mem_cons_of_mem _ hq)) (by simpa using hl);have hp:=h p List.mem_cons_self;have GD:(p:Rat)≠0:=by have:=Rat.intCast_pos.2 hp;grind
  simp only[List.zipWith_cons_cons,vp];rw[ih,Rat.zpow_add GD]
  grind
theorem Zok:∀ (ps ks:List Int),(∀ k∈ks,k=0)->vp ps ks=1
 | [],_,_=>rfl
 | _::_,[],_=>rfl
 | p::ps,k::ks,h=>by
  simp only[vp];rw[h k List.mem_cons_self,Zok ps ks fun x hx=>h x (List.mem_cons_of_mem _ hx),Rat.zpow_zero,Rat.mul_one]
theorem Zqs(ps ks:List Int)(h:∀ p∈ps,0<p):∀ m:Nat,vp ps (ks.map fun k=>(m:Int)*k)=vp ps ks^m
 | 0=>by
  rw[Rat.pow_zero];refine Zok _ _ fun k hk=>?_
  obtain⟨x,_,rfl⟩:=List.mem_map.1 hk;simp
 | m+1=>by
  have ih:=Zqs ps ks h m;have e:=Qbt ps (ks.map fun k=>(m:Int)*k) ks h (by simp);rw[Rat.pow_succ,<- ih,<- e];congr 1;rw[List.zipWith_map_left];refine List.ext_getElem (by simp) fun i h1 h2=>?_
  simp;rw[Int.add_mul,Int.one_mul]
def vt:List (Int×Int)->Rat
 | []=>1
 | x::l=>(x.1:Rat)^x.2*vt l
theorem natCast_pow(a n:Nat):((a^n:Nat):Rat)=(a:Rat)^n:=by
 induction n with
 | zero=>rw[Nat.pow_zero,Rat.pow_zero];rfl
 | succ n ih=>rw[Nat.pow_succ,Rat.pow_succ,Rat.natCast_mul,ih]
theorem Qe8:∀ l:List (Int×Int),(∀ x∈l,0<x.1)->((upT l:Nat):Rat)=vt l*((upT (negT l):Nat):Rat)
 | [],_=>by simp[upT,negT,vt]
 | x::l,h=>by
  have ih:=Qe8 l fun y hy=>h y (List.mem_cons_of_mem _ hy)
  have hx:=h x List.mem_cons_self;have e:negT (x::l)=(x.1,-x.2)::negT l:=rfl;rw[e];simp only[upT,vt];rw[Rat.natCast_mul,Rat.natCast_mul,ih,natCast_pow,natCast_pow];have hp:((x.1.toNat:Nat):Rat)=(x.1:Rat):=by
   rw[<- Rat.intCast_natCast,Int.toNat_of_nonneg (by omega)]
  rw[hp];have GD:(x.1:Rat)≠0:=by have:=Rat.intCast_pos.2 hx;grind
  have Gg:(x.1:Rat)^x.2.toNat=(x.1:Rat)^x.2*(x.1:Rat)^(-x.2).toNat:=by
   rw[<- Rat.zpow_natCast,<- Rat.zpow_natCast,<- Rat.zpow_add GD];congr 1;omega
  rw[Gg]
  grind
theorem Zuw:∀ l:List (Int×Int),(∀ x∈l,0<x.1)->0<upT l
 | [],_=>by simp[upT]
 | x::l,h=>by
  have hx:=h x List.mem_cons_self;exact Nat.mul_pos (Nat.pow_pos (by omega)) (Zuw l fun y hy=>h y (List.mem_cons_of_mem _ hy))
theorem Zy2(l:List (Int×Int))(h:∀ x∈l,0<x.1):signT l=sg (vt l):=by
 have e:=Qe8 l h;have hd:(0:Rat)<((upT (negT l):Nat):Rat):=by
  have:=Zuw (negT l) (by
   intro x hx;obtain⟨y,hy,rfl⟩:=List.mem_map.1 hx;exact h y hy)
  exact Rat.natCast_pos.2 this
 have c1:upT (negT l)<upT l↔1<vt l:=by
  rw[<- Rat.natCast_lt_natCast,e];constructor
  ·intro h1;refine Rat.lt_of_mul_lt_mul_right (c:=((upT (negT l):Nat):Rat)) ?_ (Rat.le_of_lt hd);rw[Rat.one_mul];exact h1
  ·intro h1;have:=Rat.mul_lt_mul_of_pos_right h1 hd
   rw[Rat.one_mul] at this;exact this
 have c2:upT l<upT (negT l)↔vt l<1:=by
  rw[<- Rat.natCast_lt_natCast,e];constructor
  ·intro h1;refine Rat.lt_of_mul_lt_mul_right (c:=((upT (negT l):Nat):Rat)) ?_ (Rat.le_of_lt hd);rw[Rat.one_mul];exact h1
  ·intro h1;have:=Rat.mul_lt_mul_of_pos_right h1 hd
   rw[Rat.one_mul] at this;exact this
 unfold signT sg;simp only[c1,c2]
theorem mkRat_den'(n:Int)(d:Nat)(h:d≠0):(mkRat n d).den=d/Nat.gcd n.natAbs d:=by
 rw[<- Rat.normalize_eq_mkRat h,Rat.den_normalize]
theorem Zzk{q:Rat}:0<q.num↔0<q:=by
 have h1:=@Rat.num_nonneg q;have h2:=@Rat.num_eq_zero q;constructor
 ·intro h;have:=h1.1 (by omega)
  have h3:q≠0:=fun e=>by have:=h2.2 e;omega
  grind
 ·intro h;have:=h1.2 (by grind)
  have h3:q.num≠0:=fun e=>by have:=h2.1 e;grind
  omega
theorem num_neg'{q:Rat}:q.num<0↔q<0:=by
 have h1:=@Zzk (-q);rw[Rat.neg_num] at h1;constructor
 ·intro h;have:=h1.1 (by omega)
  grind
 ·intro h;have:=h1.2 (by grind)
  omega
theorem Zzs(q:Rat):q*(q.den:Rat)=(q.num:Rat):=by
 have h:mkRat q.num q.den=(q.num:Rat)/((q.den:Nat):Rat):=Rat.mkRat_eq_div _ _;rw[Rat.mkRat_self] at h;have h2:((q.den:Nat):Rat)≠0:=by have:=Rat.natCast_pos.2 q.den_pos;grind
 have h3:=Rat.div_mul_cancel (a:=(q.num:Rat)) h2;rw[<- h] at h3;exact h3
def ex (D:Nat) (q:Rat):Int:=q.num*((D/q.den:Nat):Int)
theorem ex_eq{D:Nat}{q:Rat}(h:q.den ∣ D):(ex D q:Rat)=q*(D:Rat):=by
 obtain⟨m,rfl⟩:=h;unfold ex;rw[Nat.mul_div_cancel_left _ q.den_pos,Rat.intCast_mul,Rat.intCast_natCast,Rat.natCast_mul];have h1:=Zzs q
 grind
theorem ex_mul{D m:Nat}{a:Rat}(ha:a.den ∣ D):ex (m*D) a=(m:Int)*ex D a:=by
 have:a.den ∣ m*D:=Nat.dvd_trans ha (Nat.dvd_mul_left ..)
 rw[<- Rat.intCast_inj,Rat.intCast_mul,ex_eq ha,ex_eq this,Rat.natCast_mul,Rat.intCast_natCast]
 grind
theorem Zxc{D:Nat}(a:Rat)(h:a.num=0):ex D a=0:=by unfold ex;rw[h];simp
theorem Zqr(D:Nat):∀ (ps:List Int) (l:List Rat),vt (Qt D ps l)=vp ps (l.map (ex D))
 | [],_=>rfl
 | _::_,[]=>rfl
 | p::ps,q::l=>by
  have ih:=Zqr D ps l;unfold Qt at ih ⊢;rw[List.zip_cons_cons,List.filterMap_cons]
  by_cases h:q.num=0
  ·simp only[h,if_true,List.map_cons,vp];rw[ih,Zxc q h,Rat.zpow_zero,Rat.one_mul]
  ·simp only[h,if_false,List.map_cons,vp,vt];rw[ih];rfl
theorem Qcy(l:List Rat):∀ d:Nat,d ∣ l.foldl (fun d q=>Nat.lcm d q.den) d/\∀ q∈l,q.den ∣ l.foldl (fun d q=>Nat.lcm d q.den) d:=by
 induction l with
 | nil=>intro d;exact⟨Nat.dvd_refl _,by simp⟩
 | cons a l ih =>
  intro d;obtain⟨h1,h2⟩:=ih (Nat.lcm d a.den);refine⟨Nat.dvd_trans (Nat.dvd_lcm_left ..) h1,fun q hq=>?_⟩;rcases List.mem_cons.1 hq with rfl|hq
  ·exact Nat.dvd_trans (Nat.dvd_lcm_right ..) h1
  ·exact h2 q hq
theorem tden_dvd{l:List Rat}{q:Rat}(h:q∈l):q.den ∣ Qn l:=(Qcy l 1).2 q h
theorem Zsp(l:List Rat):∀ (D d:Nat),d ∣ D->(∀ q∈l,q.den ∣ D)->l.foldl (fun d q=>Nat.lcm d q.den) d ∣ D:=by
 induction l with
 | nil=>intro D d h _;exact h
 | cons a l ih =>
  intro D d h h2;exact ih D _ (Nat.lcm_dvd h (h2 a List.mem_cons_self)) fun q hq=>h2 q (List.mem_cons_of_mem _ hq)
theorem tden_min{l:List Rat}{D:Nat}(h:∀ q∈l,q.den ∣ D):Qn l ∣ D:=Zsp l D 1 (Nat.one_dvd _) h
theorem tden_pos'(l:List Rat):0<Qn l:=by
 have:∀ (l:List Rat) (d:Nat),0<d->0<l.foldl (fun d q=>Nat.lcm d q.den) d:=by
  intro l
  induction l with
  | nil=>intro d h;exact h
  | cons a l ih=>intro d h;exact ih _ (Nat.lcm_pos h a.den_pos)
 exact this l 1 Nat.one_pos
def sz (ps:List Int) (l:List Rat):Int:=signT (Qt (Qn l) ps l)
theorem Zuz{D:Nat}{ps:List Int}{l:List Rat}(hp:∀ p∈ps,0<p):∀ x∈Qt D ps l,0<x.1:=by
 intro x hx;unfold Qt at hx;obtain⟨y,hy,he⟩:=List.mem_filterMap.1 hx;have h1:=(List.of_mem_zip hy).1;split at he
 ·cases he
 ·cases he;exact hp _ h1
theorem Qg8{ps:List Int}{l:List Rat}{D:Nat}(hp:∀ p∈ps,0<p)(hD:0<D)(h:∀ q∈l,q.den ∣ D):sz ps l=sg (vp ps (l.map (ex D))):=by
 unfold sz;rw[Zy2 _ (Zuz hp),Zqr];obtain⟨m,rfl⟩:=tden_min h;have hm:0<m:=Nat.pos_of_mul_pos_left hD;have e:l.map (ex (Qn l*m))=(l.map (ex (Qn l))).map fun k=>(m:Int)*k:=by
  rw[List.map_map];refine List.map_congr_left fun q hq=>?_
  rw[Nat.mul_comm,ex_mul (tden_dvd hq)];rfl
 rw[e,Zqs _ _ hp,Qfk (Qbs _ _ hp) hm]
theorem sz_zero{ps:List Int}{l:List Rat}(hp:∀ p∈ps,0<p)(h:∀ q∈l,q=0):sz ps l=0:=by
 rw[Qg8 hp (tden_pos' l) fun q hq=>tden_dvd hq,Zok,Zvo];intro k hk;obtain⟨q,hq,rfl⟩:=List.mem_map.1 hk;exact Zxc q (by rw[h q hq];rfl)
end Go.Proofs.YtbielfplgbammaaGreatDoor.LN

namespace Go.Proofs.YtbielfplgbammaaGreatDoor.LN
theorem Zc2{x:Rat}(hx:x≠0)(a:Int):∀ n:Nat,(x^a)^n=x^(a*n)
 | 0=>by simp
 | n+1=>by
  rw[Rat.pow_succ,Zc2 hx a n,<- Rat.zpow_add hx];congr 1;rw[Int.natCast_add,Int.mul_add];simp
theorem Zl7{x:Rat}(hx:x≠0)(a b:Int):(x^a)^b=x^(a*b):=by
 rcases Int.eq_nat_or_neg b with⟨n,rfl|rfl⟩
 ·rw[Rat.zpow_natCast,Zc2 hx]
 ·rw[Rat.zpow_neg,Rat.zpow_natCast,Zc2 hx,<- Rat.zpow_neg];congr 1;rw[Int.mul_neg]
theorem Zmf:(2:Rat)≠0:=by decide
theorem Zg3{a:Int}(h:0<a):(1:Rat)<2^a:=by
 obtain⟨n,rfl⟩:=Int.eq_ofNat_of_zero_le (Int.le_of_lt h);rw[Rat.zpow_natCast];exact Zjo (by decide) n (by omega)
theorem Zg4{a:Int}(h:a<0):(2:Rat)^a<1:=by
 have h1:=Zg3 (a := -a) (by omega);have h2:(2:Rat)^a*2^(-a)=1:=by rw[<- Rat.zpow_add Zmf];simp[Int.add_right_neg]
 have h3:(0:Rat)<2^a:=Rat.zpow_pos (by decide);refine Rat.not_le.1 fun h4=>?_
 have h5:=Rat.mul_le_mul_of_nonneg_right h4 (c:=2^(-a)) (by grind)
 grind
theorem Zhk{x y:Rat}(h0:0<x)(h:x<=y):∀ n:Nat,x^n<=y^n
 | 0=>by rw[Rat.pow_zero,Rat.pow_zero];exact Rat.le_refl
 | n+1=>by
  have ih:=Zhk h0 h n;rw[Rat.pow_succ,Rat.pow_succ];have h1:=Rat.mul_le_mul_of_nonneg_right ih (c:=x) (by grind);have h2:=Rat.mul_le_mul_of_nonneg_left h (c:=y^n) (Rat.le_of_lt (Rat.pow_pos (by grind)));exact Rat.le_trans h1 h2
theorem Zfj{x y:Rat}(h0:0<x)(h:x<=y):y⁻¹<=x⁻¹:=by
 have hy:0<y:=by grind
 have h1:=Rat.inv_pos.2 h0;have h2:=Rat.inv_pos.2 hy;have e1:=Rat.mul_inv_cancel x (by grind);have e2:=Rat.mul_inv_cancel y (by grind);have h3:=Rat.mul_le_mul_of_nonneg_right h (c:=x⁻¹ * y⁻¹) (Rat.le_of_lt (Rat.mul_pos h1 h2));have e3:x*(x⁻¹ * y⁻¹)=y⁻¹:=by rw[<- Rat.mul_assoc,e1,Rat.one_mul]
 have e4:y*(x⁻¹ * y⁻¹)=x⁻¹:=by rw[Rat.mul_comm x⁻¹,<- Rat.mul_assoc,e2,Rat.one_mul]
 rw[e3,e4] at h3;exact h3
theorem Zcw{x y:Rat}(h0:0<x)(h:x<=y){j:Int}(hj:j<=0):y^j<=x^j:=by
 obtain⟨n,hn⟩:=Int.eq_ofNat_of_zero_le (a := -j) (by omega);have e:j = -(n:Int):=by omega
 rw[e,Rat.zpow_neg,Rat.zpow_neg,Rat.zpow_natCast,Rat.zpow_natCast];exact Zfj (Rat.pow_pos h0) (Zhk h0 h n)
structure Btw (v:Rat) (a b:Int):Prop where
 pos:0<v
 lo:2^a<=v
 hi:v<=2^b
theorem Btw.inv{v:Rat}{a b:Int}(h:Btw v a b):Btw v⁻¹ (-b) (-a):=by
 refine⟨Rat.inv_pos.2 h.pos,?_,?_⟩
 ·rw[Rat.zpow_neg];exact Zfj h.pos h.hi
 ·rw[Rat.zpow_neg];exact Zfj (Rat.zpow_pos (by decide)) h.lo
theorem Btw.zpow_neg{v:Rat}{a b:Int}(h:Btw v a b){j:Int}(hj:j<=0):Btw (v^j) (j*b) (j*a):=by
 refine⟨Rat.zpow_pos h.pos,?_,?_⟩
 ·rw[Int.mul_comm,<- Zl7 Zmf];exact Zcw h.pos h.hi hj
 ·rw[Int.mul_comm,<- Zl7 Zmf];exact Zcw (Rat.zpow_pos (by decide)) h.lo hj
theorem Btw.mul{v u:Rat}{a b c d:Int}(h:Btw v a b)(k:Btw u c d):Btw (v*u) (a+c) (b+d):=by
 refine⟨Rat.mul_pos h.pos k.pos,?_,?_⟩
 ·rw[Rat.zpow_add Zmf];have h1:=Rat.mul_le_mul_of_nonneg_right h.lo (c:=2^c) (Rat.le_of_lt (Rat.zpow_pos (by decide)));have h2:=Rat.mul_le_mul_of_nonneg_left k.lo (c:=v) (Rat.le_of_lt h.pos);exact Rat.le_trans h1 h2
 ·rw[Rat.zpow_add Zmf];have h1:=Rat.mul_le_mul_of_nonneg_right h.hi (c:=u) (Rat.le_of_lt k.pos);have h2:=Rat.mul_le_mul_of_nonneg_left k.hi (c:=2^b) (Rat.le_of_lt (Rat.zpow_pos (by decide)));exact Rat.le_trans h1 h2
theorem Btw.lt{v:Rat}{a b:Int}(h:Btw v a b)(hb:b<0):v<1:=by
 have:=Zg4 hb
 have:=h.hi
 grind
def eLo (f:Int->Nat) (l:List (Int×Int)):Int:=(l.map fun x=>if x.2<0 then x.2*(hiL f x.1:Int) else x.2*(f x.1:Int)).sum
def eHi (f:Int->Nat) (l:List (Int×Int)):Int:=(l.map fun x=>if x.2<0 then x.2*(f x.1:Int) else x.2*(hiL f x.1:Int)).sum
theorem Zjc(k:Int)(a b:Nat):(if k<0 then k*(b:Int) else k*(a:Int))=((k.toNat*a:Nat):Int)-(((-k).toNat*b:Nat):Int):=by
 by_cases h:k<0
 ·rw[if_pos h,show k.toNat=0 by omega];have e:((-k).toNat:Int) = -k:=Int.toNat_of_nonneg (by omega);rw[Int.natCast_mul,Int.natCast_mul,e]
  grind
 ·rw[if_neg h,show (-k).toNat=0 by omega];have e:(k.toNat:Int)=k:=Int.toNat_of_nonneg (by omega);rw[Int.natCast_mul,Int.natCast_mul,e]
  grind
theorem eLo_eq(f:Int->Nat):∀ l:List (Int×Int),eLo f l=(loS f l:Int)-(hiS f (negT l):Int)
 | []=>rfl
 | x::l=>by
  have ih:=eLo_eq f l;unfold eLo at ih ⊢;have e:negT (x::l)=(x.1,-x.2)::negT l:=rfl;rw[List.map_cons,List.sum_cons,ih,e,loS,hiS,Zjc]
  dsimp only
  omega
theorem eHi_eq(f:Int->Nat):∀ l:List (Int×Int),eHi f l=(hiS f l:Int)-(loS f (negT l):Int)
 | []=>rfl
 | x::l=>by
  have ih:=eHi_eq f l;unfold eHi at ih ⊢;have e:negT (x::l)=(x.1,-x.2)::negT l:=rfl;rw[List.map_cons,List.sum_cons,ih,e,hiS,loS,Zjc]
  dsimp only
  omega
end Go.Proofs.YtbielfplgbammaaGreatDoor.LN

namespace Go.Proofs.YtbielfplgbammaaGreatDoor
open Go.RowKit Go.Shelf
attribute [local go_sem] Oper.semAt_some
def lf (n:Nat):Int->Nat:=fun p=>lgN p n
structure Zsh (B:Nat) (n:Int) (slo shi:ByteArray) (W:World):Prop where
 c3:W.cell? ⟨B+1,0,none⟩=some (.int .i64 n)
 c4:W.cell? ⟨B+1+1,0,none⟩=some (.string slo)
 c5:W.cell? ⟨B+1+1+1,0,none⟩=some (.string shi)
 f4:W.frozen? ⟨B+1+1,0,none⟩=false
 f5:W.frozen? ⟨B+1+1+1,0,none⟩=false
 sz:B+4<W.heap.size
theorem Zsh.below{B:Nat}{n:Int}{slo shi:ByteArray}{W W':World}(h:Zsh B n slo shi W)(hb:Bw_ W W'):Zsh B n slo shi W' :=
 ⟨(hb.cell (block_lt_of_cell h.c3)).trans h.c3,(hb.cell (block_lt_of_cell h.c4)).trans h.c4,(hb.cell (block_lt_of_cell h.c5)).trans h.c5,
  (hb.frozen (block_lt_of_cell h.c4)).trans h.f4,(hb.frozen (block_lt_of_cell h.c5)).trans h.f5,Nat.lt_of_lt_of_le h.sz hb.size⟩
theorem Zsh.kept{B:Nat}{n:Int}{slo shi:ByteArray}{W W':World}{row:Option Nat}(h:Zsh B n slo shi W)(hg:W.grownBy W' row)(hr:∀ r,row=some r->∃ o:Obj,W.heap[r]?=some o/\o.isCells=false):Zsh B n slo shi W' :=
 ⟨cell_kept h.c3 hg hr,cell_kept h.c4 hg hr,cell_kept h.c5 hg hr,(frozen_kept h.c4 hg hr).trans h.f4,(frozen_kept h.c5 hg hr).trans h.f5,Nat.lt_of_lt_of_le h.sz hg.size⟩
theorem Zsh.stored{B:Nat}{n:Int}{slo shi:ByteArray}{W:World}(h:Zsh B n slo shi W)(s t:ByteArray):
  Zsh B n s t ((W.setCell ⟨B+1+1,0,none⟩ (.string s)).setCell ⟨B+1+1+1,0,none⟩ (.string t)):=by
 refine⟨?_,?_,?_,?_,?_,?_⟩
 ·rw[World.cell?_setCell_other _ _ _ _ (by simp),World.cell?_setCell_other _ _ _ _ (by simp)];exact h.c3
 ·rw[World.cell?_setCell_other _ _ _ _ (by simp),World.cell?_setCell_same _ _ _ h.c4]
 ·rw[World.cell?_setCell_same _ _ _ (by rw[World.cell?_setCell_other _ _ _ _ (by simp)];exact h.c5)]
 ·rw[World.frozen?_setCell,World.frozen?_setCell];exact h.f4
 ·rw[World.frozen?_setCell,World.frozen?_setCell];exact h.f5
 ·rw[World.size_setCell,World.size_setCell];exact h.sz
theorem Zlk{B:Nat}{W0 W W4:World}(hB:W0.heap.size=B)(hb:Bw_ W0 W)(Gu:B+4<W.heap.size)(h:Bw_ W W4)(v5 v6:Value):
  KT B (B+4) W ((W4.setCell ⟨B+1+1,0,none⟩ v5).setCell ⟨B+1+1+1,0,none⟩ v6):=by
 subst hB;refine⟨((h.mono hb.size).setCell (p:=⟨W0.heap.size+1+1,0,none⟩) (by show _<=W0.heap.size+1+1;omega) _).setCell (p:=⟨W0.heap.size+1+1+1,0,none⟩) (by show _<=W0.heap.size+1+1+1;omega) _,?_⟩;rw[Zq (g:=W0.heap.size+1+1+1) (k:=W0.heap.size+4) (by omega),Zq (g:=W0.heap.size+1+1) (k:=W0.heap.size+4) (by omega),h.block _ Gu]
theorem Qgv(w:World)(o1:Obj)(v2 v3 v4:Value)(t2 t3 t4:TypeId)(W:World)(hW:(((w.alloc o1).alloc (.cells #[v2] t2)).alloc (.cells #[v3] t3)).alloc (.cells #[v4] t4)=W):
  W.heap[w.heap.size+1]?=some (.cells #[v2] t2 (0,0))/\W.heap[w.heap.size+1+1]?=some (.cells #[v3] t3 (0,0))/\W.heap[w.heap.size+1+1+1]?=some (.cells #[v4] t4 (0,0)):=by
 subst hW;exact⟨Kh (Kh (Kk _ _ _ _ (by simp)) _) _,Kh (Kk _ _ _ _ (by simp)) _,Kk _ _ _ _ (by simp)⟩
def PrT (tl:List (Int×Int)):Prop:=∀ x∈tl,∃ q:Nat,x.1=q/\(q=2\/q∈Zba)
theorem Qar(f:Int->Nat)(l:List (Int×Int))(x:Int×Int):LN.eLo f (l++[x])=LN.eLo f l+(if x.2<0 then x.2*(LN.hiL f x.1:Int) else x.2*(f x.1:Int)):=by simp[LN.eLo]
theorem Qat(f:Int->Nat)(l:List (Int×Int))(x:Int×Int):LN.eHi f (l++[x])=LN.eHi f l+(if x.2<0 then x.2*(f x.1:Int) else x.2*(LN.hiL f x.1:Int)):=by simp[LN.eHi]
theorem Qdp{n:Nat}{p:Int}(hp:∃ q:Nat,p=q/\(q=2\/q∈Zba))(hn:n<=1056):lf n p<2^(n+3)/\LN.hiL (lf n) p<2^(n+3):=by
 obtain⟨q,rfl,hq⟩:=hp;have h:=Zwv hq hn;have e:2^(n+3)=8*2^n:=by rw[Nat.pow_add,Nat.mul_comm]
 have h1:=Nat.two_pow_pos n;have h2:lf n q<7*2^n:=h;refine⟨by omega,?_⟩;unfold LN.hiL;split<;>omega
theorem Zdq{k:Int}{a E F:Nat}(hk:k.natAbs<2^E)(ha:a<2^F):(k*(a:Int)).natAbs<2^(E+F):=by
 rw[Int.natAbs_mul,Int.natAbs_natCast,Nat.pow_add];exact Nat.mul_lt_mul'' hk ha
theorem Zxi{n E:Nat}(hn:n<=1056):∀ l:List (Int×Int),PrT l->(∀ x∈l,x.2.natAbs<2^E)->(LN.eLo (lf n) l).natAbs<=l.length*2^(E+(n+3))/\(LN.eHi (lf n) l).natAbs<=l.length*2^(E+(n+3))
 | [],_,_=>by simp[LN.eLo,LN.eHi]
 | x::l,hp,hk=>by
  have ih:=Zxi hn l (fun y hy=>hp y (List.mem_cons_of_mem _ hy)) (fun y hy=>hk y (List.mem_cons_of_mem _ hy));obtain⟨h1,h2⟩:=Qdp (hp x List.mem_cons_self) hn;have hx:=hk x List.mem_cons_self;have a1:=Zdq hx h1;have a2:=Zdq hx h2;have e1:LN.eLo (lf n) (x::l)=(if x.2<0 then x.2*(LN.hiL (lf n) x.1:Int) else x.2*(lf n x.1:Int))+LN.eLo (lf n) l:=by simp[LN.eLo]
  have e2:LN.eHi (lf n) (x::l)=(if x.2<0 then x.2*(lf n x.1:Int) else x.2*(LN.hiL (lf n) x.1:Int))+LN.eHi (lf n) l:=by simp[LN.eHi]
  rw[e1,e2,List.length_cons,Nat.add_mul,Nat.one_mul];generalize 2^(E+(n+3))=T at *;generalize l.length*T=S at *;constructor
  ·refine Nat.le_trans (Int.natAbs_add_le _ _) ?_;split<;>omega
  ·refine Nat.le_trans (Int.natAbs_add_le _ _) ?_;split<;>omega
theorem Qaq{n E:Nat}(hn:n<=1056)(l:List (Int×Int))(hl:l.length<=1000)(hp:PrT l)(hk:∀ x∈l,x.2.natAbs<2^E):
  (LN.eLo (lf n) l).natAbs<2^(E+(n+3)+10)/\(LN.eHi (lf n) l).natAbs<2^(E+(n+3)+10):=by
 obtain⟨h1,h2⟩:=Zxi hn l hp hk;have h3:l.length*2^(E+(n+3))<=1000*2^(E+(n+3)):=Nat.mul_le_mul_right _ hl;have e:2^(E+(n+3)+10)=1024*2^(E+(n+3)):=by rw[Nat.pow_add _ _ 10,Nat.mul_comm]
 have h4:=Nat.two_pow_pos (E+(n+3));rw[e];constructor<;>omega
theorem Zsh.cast{B:Nat}{n:Int}{s s' t t':ByteArray}{W:World}(h:Zsh B n s t W)(e1:s'=s)(e2:t'=t):Zsh B n s' t' W:=by subst e1;subst e2;exact h
theorem Qcj(w:World)(a b:Int)(K:Nat)(hK:K<90000)(ha:a.natAbs<2^K)(hb:b.natAbs<2^K)(L:Qa w):Kc Tryz.prog 205 #[.string (itx a),.string (itx b)] w (.string (itx (a+b))) :=
 Zgt w a b (Vy ha (by omega)) (Vy hb (by omega)) (Vy (K:=K+1) (by rw[Nat.pow_succ];omega) (by omega)) L
theorem Qhw(w:World)(a b:Int)(K M:Nat)(hK:K+M<90000)(ha:a.natAbs<2^K)(hb:b.natAbs<2^M)(L:Qa w):Kc Tryz.prog 14 #[.string (itx a),.string (itx b)] w (.string (itx (a*b))) :=
 Yu w a b (Vy ha (by omega)) (Vy hb (by omega)) (Vy (K:=K+M) (by rw[Int.natAbs_mul,Nat.pow_add];exact Nat.mul_lt_mul'' ha hb) (by omega)) L
def Zpx (w:World) (b1 b2:OA_) (d1 d2 D m:Nat) (n:Int) (p:Int) (k:ByteArray):Act:={ tmps := #[.agg (Ko b1 d1 b2 d2 m D),.int .i64 n,.pointer (some ⟨w.heap.size,0,none⟩),.pointer (some ⟨w.heap.size+1,0,none⟩),.pointer (some ⟨w.heap.size+1+1,0,none⟩),.pointer (some ⟨w.heap.size+1+1+1,0,none⟩),.int .i64 p,.string k,undef,undef,.agg #[.slice b1 m d1,.slice b2 m d2,.string (dec D)],.func (.func 282) #[] #[.pointer (some ⟨w.heap.size+1+1+1+1,0,none⟩)],.int .i64 p,.string k,undef,undef,undef,undef,undef,undef,undef,undef,undef,undef,undef,undef,undef,undef,undef,undef,undef,undef,undef,undef,undef,undef,undef,undef,undef,undef,undef],defers:=[] }
theorem Qao(w:World)(b1 b2:OA_)(d1 d2 D n E:Nat)(tl:List (Int×Int))(T:Zd w tl b1 b2)(hP:PrT tl)(hE:E<=20000)(hK:∀ x∈tl,x.2.natAbs<2^E)(hn:n<=1056)(L:Qa w):
  Kc Tryz.prog 165 #[.agg (Ko b1 d1 b2 d2 tl.length D),.int .i64 n] w (.tuple #[.string (itx (LN.eLo (lf n) tl)),.string (itx (LN.eHi (lf n) tl))]):=by
 unfold Kc;have Dg:=T.r1;have Ef:=T.r2;have hl:=T.len;refine(callsIn_wide (n:=3)).1 ?_;refine callsIn_of_wp_marks Tryz.func165 rfl trivial ?_ rfl;simp only[Tryz.ntmps165,List.size_toArray,List.length_cons,List.length_nil,Nat.reduceAdd,Nat.reduceSub,Array.replicate_succ,Array.replicate_zero,List.push_toArray,List.append_toArray,List.nil_append,List.cons_append];have HT:=hd_ T;have HL:=hd_ L;have Hn:=hd_ hn;have HE:=hd_ hE;have HP:=hd_ hP;have HK:=hd_ hK;have H0:Hid (itx 0=⟨#[48]⟩):=by show _=_;rw[show (0:Int)=((0:Nat):Int) from rfl,Kg,Zdo]
 clear L T hn hE hK hP
 gi_wp2_with fail
 obtain⟨w0,EX⟩:∃ w0,(((w.alloc (Obj.cells (Ko b1 d1 b2 d2 tl.length D) 146)).alloc (Obj.cells #[Value.int IntKind.i64 n] 3)).alloc (Obj.cells #[Value.string ⟨#[48]⟩] 38)).alloc (Obj.cells #[Value.string ⟨#[48]⟩] 38)=w0:=⟨_,rfl⟩;have F9:w0.heap.size=w.heap.size+4:=by rw[<- EX];simp
 have II:Bw_ w w0:=by rw[<- EX];exact((((Below.refl _ w).alloc nr_ _).alloc (by simp) _).alloc (by simp;omega) _).alloc (by simp;omega) _
 have cG:=Qgv w _ _ _ _ _ _ _ w0 EX;rw[EX];refine⟨trivial,?_⟩;refine(callsIn_wide.2 (Zx9 w0 b1 b2 d1 d2 tl.length D)).mono ?_;rintro e w' ⟨rfl,rfl⟩;rw[F9];have aP:(w0.alloc (.cells (Ko b1 d1 b2 d2 tl.length D) 146)).heap[w.heap.size+4]?=some (.cells (Ko b1 d1 b2 d2 tl.length D) 146 (0,0)):=by
  rw[<- F9];exact Go.heap_alloc_new w0 _
 have GP:Bw_ w (w0.alloc (.cells (Ko b1 d1 b2 d2 tl.length D) 146)):=II.alloc (by omega) _;have GG:(w0.alloc (.cells (Ko b1 d1 b2 d2 tl.length D) 146)).heap.size=w.heap.size+5:=by rw[World.size_alloc,F9]
 have cK:Zsh w.heap.size n (itx (LN.eLo (lf n) [])) (itx (LN.eHi (lf n) [])) (w0.alloc (.cells (Ko b1 d1 b2 d2 tl.length D) 146)):=by
  obtain⟨h1,h2,h3⟩:=cG;have h1:=Kh h1 (.cells (Ko b1 d1 b2 d2 tl.length D) 146);have h2:=Kh h2 (.cells (Ko b1 d1 b2 d2 tl.length D) 146);have h3:=Kh h3 (.cells (Ko b1 d1 b2 d2 tl.length D) 146);have e1:itx (LN.eLo (lf n) [])=⟨#[48]⟩:=H0.o;have e2:itx (LN.eHi (lf n) [])=⟨#[48]⟩:=H0.o;rw[e1,e2];exact⟨(Yt h1).1,(Yt h2).1,(Yt h3).1,(Yt h2).2,(Yt h3).2,by rw[GG];omega⟩
 clear II EX cG H0;generalize w0.alloc (.cells (Ko b1 d1 b2 d2 tl.length D) 146)=w1 at *
 gi_wp2_with fail
 refine wpIn_rangeFunc_ownF rfl (by decide) (gf:=282) (lb := #[.pointer (some ⟨w.heap.size+4,0,none⟩)]) rfl trivial (enters_of Tryz.func282 (by kernel_rfl) rfl)
  (Zn8 2 (by decide) w w1 GP (w.heap.size+4) b1 b2 d1 d2 D tl hl aP Dg Ef) Qhx (Qhy (by rw[GG];omega) (by rw[GG];omega)) (Below.refl _ _) (fun _=>rfl)
  (fun pre W=>Zsh w.heap.size n (itx (LN.eLo (lf n) (pre.map Subtype.val))) (itx (LN.eHi (lf n) (pre.map Subtype.val))) W/\Bw_ w W)
  (fun _ _ W=>False/\Bw_ w W)
  (OwnFrom.and (Own.from (fun s A B row hs hg hr=>hs.kept hg hr) _) (ownFrom_below nr_ (by rw[GG];omega)))
  (fun c=>OwnFrom.and (Own.from (fun s A B row hs hg hr=>hs.elim) _) (ownFrom_below nr_ (by rw[GG];omega)))
  ⟨cK,GP⟩
  (fun x=>Zpx w b1 b2 d1 d2 D tl.length n x.1.1 (itx x.1.2)) ?assign ?body ?done ?stop
 case assign =>
  intro l x W K hK;unfold Zpx at hK
  gi_wp2
  exact hK
 case body =>
  rintro l pre ⟨⟨p,k⟩,Gw⟩ W0 ⟨hI,hB⟩ gd;have HI:=hd_ hI;have HB:=hd_ hB;have Dh:=HP.o _ Gw;have CX:=HK.o _ Gw;simp only at Dh CX;have hn:=Hn.o;have hE:=HE.o;obtain⟨g1,g2⟩:=Qdp Dh hn;have Dd:∀ x∈pre.map Subtype.val,x∈tl:=fun x hx=>by
   obtain⟨y,_,rfl⟩:=List.mem_map.1 hx;exact y.2
  have EP:(pre.map Subtype.val).length<=1000:=by rw[List.length_map];omega
  obtain⟨s1,s2⟩:=Qaq hn (pre.map Subtype.val) EP (fun x hx=>HP.o x (Dd x hx)) (fun x hx=>HK.o x (Dd x hx));have e1:LN.eLo (lf n) ((pre++[(⟨(p,k),Gw⟩:{x // x∈tl})]).map Subtype.val)=LN.eLo (lf n) (pre.map Subtype.val)+(if k<0 then (LN.hiL (lf n) p:Int)*k else (lf n p:Int)*k):=by
   rw[List.map_append];have:=Qar (lf n) (pre.map Subtype.val) (p,k)
   simp only at this;rw[Int.mul_comm k,Int.mul_comm k] at this;exact this
  have e2:LN.eHi (lf n) ((pre++[(⟨(p,k),Gw⟩:{x // x∈tl})]).map Subtype.val)=LN.eHi (lf n) (pre.map Subtype.val)+(if k<0 then (lf n p:Int)*k else (LN.hiL (lf n) p:Int)*k):=by
   rw[List.map_append];have:=Qat (lf n) (pre.map Subtype.val) (p,k)
   simp only at this;rw[Int.mul_comm k,Int.mul_comm k] at this;exact this
  have EF:Hid (∀ W,Bw_ w W->Kc Tryz.prog 232 #[.int .i64 p,.int .i64 n] W (.string (dec (lf n p)))):=fun W hW=>by
   obtain⟨q,rfl,hq⟩:=Dh;exact Qdn W q n hq hn (HL.o.below hW)
  have GW:Hid (∀ W,Bw_ w W->Kc Tryz.prog 14 #[.string (dec (lf n p)),.string (itx k)] W (.string (itx ((lf n p:Int)*k)))):=fun W hW=>by
   have:=Qhw W (lf n p:Int) k (n+3) E (by omega) (by rw[Int.natAbs_natCast];exact g1) CX (HL.o.below hW)
   rw[Kg] at this;exact this
  have GR:Hid (∀ W,Bw_ w W->Kc Tryz.prog 14 #[.string (dec (LN.hiL (lf n) p)),.string (itx k)] W (.string (itx ((LN.hiL (lf n) p:Int)*k)))):=fun W hW=>by
   have:=Qhw W (LN.hiL (lf n) p:Int) k (n+3) E (by omega) (by rw[Int.natAbs_natCast];exact g2) CX (HL.o.below hW)
   rw[Kg] at this;exact this
  have gZ:Hid (∀ W,Bw_ w W->Kc Tryz.prog 59 #[.string (itx k)] W (.int .i64 k.sign)):=fun W _=>Yl W k
  have t1:((lf n p:Int)*k).natAbs<2^(E+(n+3)+10):=by
   have:=Zdq CX g1
   rw[Int.mul_comm] at this;exact Nat.lt_of_lt_of_le this (Nat.pow_le_pow_right (by decide) (by omega))
  have t2:((LN.hiL (lf n) p:Int)*k).natAbs<2^(E+(n+3)+10):=by
   have:=Zdq CX g2
   rw[Int.mul_comm] at this;exact Nat.lt_of_lt_of_le this (Nat.pow_le_pow_right (by decide) (by omega))
  have hF:E+(n+3)+10<90000:=by omega
  have one:1<2^(n+3):=Nat.one_lt_two_pow (by omega);have GC:Hid (∀ W,Bw_ w W->Kc Tryz.prog 205 #[.string (dec (lf n p)),.string ⟨#[49]⟩] W (.string (dec (lf n p+1)))):=fun W hW=>by
   have:=Qbk W (lf n p) 1 (n+3) (by omega) g1 one (HL.o.below hW)
   rw[Zt] at this;exact this
  generalize E+(n+3)+10=F at *;unfold Zpx;have DT:=hd_ (Below.refl W0.heap.size W0);have fY:=HI;have DW:=HB;have fS:(k.sign = -1/\k<0)\/(0<=k.sign/\k.sign<=1/\¬ k<0):=by
   rcases Int.lt_trichotomy k 0 with h|h|h
   ·exact .inl ⟨Int.sign_eq_neg_one_of_neg h,h⟩
   ·subst h;exact .inr ⟨by decide,by decide,by decide⟩
   ·rw[Int.sign_eq_one_of_pos h];exact .inr ⟨by decide,by decide,by omega⟩
  clear hI hB Dg Ef cK GP aP Dh CX Dd g1 g2 one;have Gm:=fY.o.c3;have gV:=fY.o.c4;have gU:=fY.o.c5;have gT:=fY.o.f4;have gS:=fY.o.f5;have DU:Hid (∀ W,Bw_ w W->Qa W):=fun W hW=>HL.o.below hW
  by_cases Gl:p=2
  ·subst Gl;have hH:LN.hiL (lf n) 2=lf n 2:=by unfold LN.hiL;rw[if_pos rfl]
   rw[hH] at GR e1 e2 t2;clear hH;rcases fS with⟨hs,hk⟩|⟨FT,G5,hk⟩
   ·rw[if_pos hk] at e1 e2;rw[hs] at gZ;clear hs;have eQ:Hid (∀ W,Bw_ w W->Kc Tryz.prog 205 #[.string (itx (LN.eLo (lf n) (pre.map Subtype.val))),.string (itx ((lf n 2:Int)*k))] W (.string (itx ((LN.eLo (lf n) (pre.map Subtype.val))+(lf n 2:Int)*k)))):=fun W hW=>Qcj W _ _ F hF s1 t2 (DU.o W hW)
    have eP:Hid (∀ W,Bw_ w W->Kc Tryz.prog 205 #[.string (itx (LN.eHi (lf n) (pre.map Subtype.val))),.string (itx ((lf n 2:Int)*k))] W (.string (itx ((LN.eHi (lf n) (pre.map Subtype.val))+(lf n 2:Int)*k)))):=fun W hW=>Qcj W _ _ F hF s2 t1 (DU.o W hW)
    rw[<- e1] at eQ;rw[<- e2] at eP;clear e1 e2 s1 s2 t1 t2 DU gd EP hF;obtain⟨slo2,Gq⟩:∃ s,itx (LN.eLo (lf n) ((pre++[(⟨(2,k),Gw⟩:{x // x∈tl})]).map Subtype.val))=s:=⟨_,rfl⟩;obtain⟨shi2,Gv⟩:∃ s,itx (LN.eHi (lf n) ((pre++[(⟨(2,k),Gw⟩:{x // x∈tl})]).map Subtype.val))=s:=⟨_,rfl⟩;rw[Gq] at eQ;rw[Gv] at eP;have BQ:=hd_ Gq;have Ap:=hd_ Gv;clear Gq Gv;generalize itx (LN.eLo (lf n) (pre.map Subtype.val))=slo at *;generalize itx (LN.eHi (lf n) (pre.map Subtype.val))=shi at *;generalize itx k=sk at *;generalize itx ((lf n 2:Int)*k)=sa at *;generalize dec (lf n 2)=sL at *;clear GC
    gi_wp2_with fail
    refine⟨trivial,?_⟩;refine(CallsIn.inRound l (callsIn_wide.2 (EF.o W0 DW.o))).mono ?_;rintro e W1 ⟨rfl,hb⟩;have fD:=hd_ (fY.o.below hb);have GU:=bt_ DW hb;have ey:=bt_ DT hb;clear hb Gm gV gU gT gS EF fY DW DT;have Gm:=fD.o.c3;have gV:=fD.o.c4;have gU:=fD.o.c5;have gT:=fD.o.f4;have gS:=fD.o.f5
    gi_wp2_with fail
    refine⟨trivial,?_⟩;refine(CallsIn.inRound l (callsIn_wide.2 (GW.o W1 GU.o))).mono ?_;rintro e W2 ⟨rfl,hb⟩;have gk:=hd_ (fD.o.below hb);have Gt:=bt_ GU hb;have FI:=bt_ ey hb;clear hb Gm gV gU gT gS GW fD GU ey;have Gm:=gk.o.c3;have gV:=gk.o.c4;have gU:=gk.o.c5;have gT:=gk.o.f4;have gS:=gk.o.f5
    gi_wp2_with fail
    refine⟨trivial,?_⟩;refine(CallsIn.inRound l (callsIn_wide.2 (GR.o W2 Gt.o))).mono ?_;rintro e W3 ⟨rfl,hb⟩;have gE:=hd_ (gk.o.below hb);have GY:=bt_ Gt hb;have EH:=bt_ FI hb;clear hb Gm gV gU gT gS GR gk Gt FI;have Gm:=gE.o.c3;have gV:=gE.o.c4;have gU:=gE.o.c5;have gT:=gE.o.f4;have gS:=gE.o.f5
    gi_wp2_with fail
    refine⟨trivial,?_⟩;refine(CallsIn.inRound l (callsIn_wide.2 (gZ.o W3 GY.o))).mono ?_;rintro e W4 ⟨rfl,hb⟩;have Gf:=hd_ (gE.o.below hb);have GX:=bt_ GY hb;have EG:=bt_ EH hb;clear hb Gm gV gU gT gS gZ gE GY EH;have Gm:=Gf.o.c3;have gV:=Gf.o.c4;have gU:=Gf.o.c5;have gT:=Gf.o.f4;have gS:=Gf.o.f5
    gi_wp2_with fail
    have q0:=@Zj.h;have q9:Nonempty (Zj ⟨w.heap.size+1+1,0,none⟩ (.string slo)):=⟨⟨W4,Gf.o.c4⟩⟩;have q8:Nonempty (Zj ⟨w.heap.size+1+1+1,0,none⟩ (.string shi)):=⟨⟨W4,Gf.o.c5⟩⟩;refine Qm [(8,0),(1,1),(9,3),(1,4),(0,2),(0,5),(0,6),(0,7)]
     [(6,fun w'=>∃ p:Zj ⟨w.heap.size+1+1,0,none⟩ (.string slo),w'=p.w),(7,fun w'=>∃ p:Zj ⟨w.heap.size+1+1+1,0,none⟩ (.string shi),w'=p.w)]
     (by kernel_rfl) (by kernel_rfl) ⟨.inr ⟨⟨{ W4 with drawn:=W4.drawn+1 },Gf.o.c4⟩,rfl⟩,.inr ⟨⟨{ W4 with drawn:=W4.drawn+1 },Gf.o.c5⟩,rfl⟩,trivial⟩ ?_
    refine Qv (s:=6) _ (List.mem_cons_self ..) rfl ?_;simp only[dz_,Zaj,tz_]
    go_big_quiet_step (fail)
    refine wq_ ?_;refine Vh ?_;simp only[Zbh,dz_,Zaj,tz_]
    go_big_quiet_step (fail)
    refine wq_ ?_;refine Qv (s:=7) _ (List.mem_cons_of_mem _ (List.mem_cons_self ..)) rfl ?_;simp only[Zbh,dz_,Zaj,tz_]
    go_big_quiet_step (fail)
    refine wq_ ?_;refine Vh ?_;simp only[Zbh,dz_,Zaj,tz_]
    go_big_quiet_step (fail)
    refine wq_ ?_;clear q0 q8 q9 Gm gV gU gT gS;obtain⟨V0,Es⟩:∃ V0:World,{ heap:=W4.heap,tape:=W4.tape,drawn:=W4.drawn+1,os:=W4.os,output:=W4.output }=V0:=⟨_,rfl⟩;rw[Es];have eH:Bw_ W4 V0:=by rw[<- Es];exact⟨rfl,rfl,rfl,Nat.le_refl _,fun _ _=>rfl⟩
    have Co:=hd_ (Gf.o.below eH);have dJ:=bt_ GX eH;have dX:=bt_ EG eH;clear Es eH Gf GX EG;refine Kx ?_;simp only[Zbh,dz_,Zaj,tz_];go_wp2_with fail;refine cm_ (eQ.o V0 dJ.o) ?_;rintro e V1 ⟨rfl,hb⟩;have eR:=hd_ (Co.o.below hb);have F4:=bt_ dJ hb;have gC:=bt_ dX hb;clear hb Co dJ dX eQ;go_wp2_with fail;refine⟨⟨.inr ⟨⟨V1,eR.o.c4⟩,rfl⟩,.inr ⟨⟨V1,eR.o.c5⟩,rfl⟩,trivial⟩,?_⟩;refine Kx ?_;simp only[Zbh,dz_,Zaj,tz_];go_wp2_with fail;refine cm_ (eP.o V1 F4.o) ?_;rintro e V2 ⟨rfl,hb⟩;have GL:=hd_ (eR.o.below hb);have fQ:=bt_ F4 hb;have gI:=bt_ gC hb;clear hb eR F4 gC eP;go_wp2_with fail;refine⟨⟨.inr ⟨⟨V2,GL.o.c4⟩,rfl⟩,.inr ⟨⟨V2,GL.o.c5⟩,rfl⟩,trivial⟩,?_⟩;have gV:=GL.o.c4;have gU:=GL.o.c5;have gT:=GL.o.f4;have gS:=GL.o.f5;refine Kx ?_;simp only[Zbh,dz_,Zaj,tz_];go_wp2_with fail;have FF:(V2.setCell ⟨w.heap.size+1+1,0,none⟩ (.string slo2)).cell? ⟨w.heap.size+1+1+1,0,none⟩=some (.string shi):=by
     rw[World.cell?_setCell_other _ _ _ _ (by simp)];exact GL.o.c5
    have cC:(V2.setCell ⟨w.heap.size+1+1,0,none⟩ (.string slo2)).frozen? ⟨w.heap.size+1+1+1,0,none⟩=false:=by rw[World.frozen?_setCell];exact GL.o.f5
    refine⟨⟨.inl rfl,.inr ⟨⟨V2.setCell ⟨w.heap.size+1+1,0,none⟩ (.string slo2),FF⟩,rfl⟩,trivial⟩,?_⟩;clear gV gU gT gS;refine Kx ?_;simp only[Zbh,dz_,Zaj,tz_];go_wp2_with fail;refine⟨⟨.inl rfl,.inl rfl,trivial⟩,?_⟩;simp only[Vu];exact⟨(Qi gI.o).trans ((KeepsOthers.setCell _ _ _).trans (KeepsOthers.setCell _ _ _)),Zlk rfl HB.o HI.o.sz gI.o _ _,(GL.o.stored _ _).cast BQ.o Ap.o,Za3 fQ.o _ _⟩
   ·rw[if_neg hk] at e1 e2;have EM:¬ k.sign<0:=by omega
    have eQ:Hid (∀ W,Bw_ w W->Kc Tryz.prog 205 #[.string (itx (LN.eLo (lf n) (pre.map Subtype.val))),.string (itx ((lf n 2:Int)*k))] W (.string (itx ((LN.eLo (lf n) (pre.map Subtype.val))+(lf n 2:Int)*k)))):=fun W hW=>Qcj W _ _ F hF s1 t1 (DU.o W hW)
    have eP:Hid (∀ W,Bw_ w W->Kc Tryz.prog 205 #[.string (itx (LN.eHi (lf n) (pre.map Subtype.val))),.string (itx ((lf n 2:Int)*k))] W (.string (itx ((LN.eHi (lf n) (pre.map Subtype.val))+(lf n 2:Int)*k)))):=fun W hW=>Qcj W _ _ F hF s2 t2 (DU.o W hW)
    generalize k.sign=sg at *;rw[<- e1] at eQ;rw[<- e2] at eP;clear e1 e2 s1 s2 t1 t2 DU gd EP hF;obtain⟨slo2,Gq⟩:∃ s,itx (LN.eLo (lf n) ((pre++[(⟨(2,k),Gw⟩:{x // x∈tl})]).map Subtype.val))=s:=⟨_,rfl⟩;obtain⟨shi2,Gv⟩:∃ s,itx (LN.eHi (lf n) ((pre++[(⟨(2,k),Gw⟩:{x // x∈tl})]).map Subtype.val))=s:=⟨_,rfl⟩;rw[Gq] at eQ;rw[Gv] at eP;have BQ:=hd_ Gq;have Ap:=hd_ Gv;clear Gq Gv;generalize itx (LN.eLo (lf n) (pre.map Subtype.val))=slo at *;generalize itx (LN.eHi (lf n) (pre.map Subtype.val))=shi at *;generalize itx k=sk at *;generalize itx ((lf n 2:Int)*k)=sa at *;generalize dec (lf n 2)=sL at *;clear GC
    gi_wp2_with fail
    refine⟨trivial,?_⟩;refine(CallsIn.inRound l (callsIn_wide.2 (EF.o W0 DW.o))).mono ?_;rintro e W1 ⟨rfl,hb⟩;have fD:=hd_ (fY.o.below hb);have GU:=bt_ DW hb;have ey:=bt_ DT hb;clear hb Gm gV gU gT gS EF fY DW DT;have Gm:=fD.o.c3;have gV:=fD.o.c4;have gU:=fD.o.c5;have gT:=fD.o.f4;have gS:=fD.o.f5
    gi_wp2_with fail
    refine⟨trivial,?_⟩;refine(CallsIn.inRound l (callsIn_wide.2 (GW.o W1 GU.o))).mono ?_;rintro e W2 ⟨rfl,hb⟩;have gk:=hd_ (fD.o.below hb);have Gt:=bt_ GU hb;have FI:=bt_ ey hb;clear hb Gm gV gU gT gS GW fD GU ey;have Gm:=gk.o.c3;have gV:=gk.o.c4;have gU:=gk.o.c5;have gT:=gk.o.f4;have gS:=gk.o.f5
    gi_wp2_with fail
    refine⟨trivial,?_⟩;refine(CallsIn.inRound l (callsIn_wide.2 (GR.o W2 Gt.o))).mono ?_;rintro e W3 ⟨rfl,hb⟩;have gE:=hd_ (gk.o.below hb);have GY:=bt_ Gt hb;have EH:=bt_ FI hb;clear hb Gm gV gU gT gS GR gk Gt FI;have Gm:=gE.o.c3;have gV:=gE.o.c4;have gU:=gE.o.c5;have gT:=gE.o.f4;have gS:=gE.o.f5
    gi_wp2_with fail
    refine⟨trivial,?_⟩;refine(CallsIn.inRound l (callsIn_wide.2 (gZ.o W3 GY.o))).mono ?_;rintro e W4 ⟨rfl,hb⟩;have Gf:=hd_ (gE.o.below hb);have GX:=bt_ GY hb;have EG:=bt_ EH hb;clear hb Gm gV gU gT gS gZ gE GY EH;have Gm:=Gf.o.c3;have gV:=Gf.o.c4;have gU:=Gf.o.c5;have gT:=Gf.o.f4;have gS:=Gf.o.f5
    gi_wp2_with fail
    have q0:=@Zj.h;have q9:Nonempty (Zj ⟨w.heap.size+1+1,0,none⟩ (.string slo)):=⟨⟨W4,Gf.o.c4⟩⟩;have q8:Nonempty (Zj ⟨w.heap.size+1+1+1,0,none⟩ (.string shi)):=⟨⟨W4,Gf.o.c5⟩⟩;refine Qm [(8,0),(1,1),(9,3),(1,4),(0,2),(0,5),(0,6),(0,7)]
     [(6,fun w'=>∃ p:Zj ⟨w.heap.size+1+1,0,none⟩ (.string slo),w'=p.w),(7,fun w'=>∃ p:Zj ⟨w.heap.size+1+1+1,0,none⟩ (.string shi),w'=p.w)]
     (by kernel_rfl) (by kernel_rfl) ⟨.inr ⟨⟨{ W4 with drawn:=W4.drawn+1 },Gf.o.c4⟩,rfl⟩,.inr ⟨⟨{ W4 with drawn:=W4.drawn+1 },Gf.o.c5⟩,rfl⟩,trivial⟩ ?_
    refine Qv (s:=6) _ (List.mem_cons_self ..) rfl ?_;simp only[dz_,Zaj,tz_]
    go_big_quiet_step (fail)
    refine wq_ ?_;refine Vh ?_;simp only[Zbh,dz_,Zaj,tz_]
    go_big_quiet_step (fail)
    refine wq_ ?_;refine Qv (s:=7) _ (List.mem_cons_of_mem _ (List.mem_cons_self ..)) rfl ?_;simp only[Zbh,dz_,Zaj,tz_]
    go_big_quiet_step (fail)
    refine wq_ ?_;refine Vh ?_;simp only[Zbh,dz_,Zaj,tz_]
    go_big_quiet_step (fail)
    refine wq_ ?_;clear q0 q8 q9 Gm gV gU gT gS;obtain⟨V0,Es⟩:∃ V0:World,{ heap:=W4.heap,tape:=W4.tape,drawn:=W4.drawn+1,os:=W4.os,output:=W4.output }=V0:=⟨_,rfl⟩;rw[Es];have eH:Bw_ W4 V0:=by rw[<- Es];exact⟨rfl,rfl,rfl,Nat.le_refl _,fun _ _=>rfl⟩
    have Co:=hd_ (Gf.o.below eH);have dJ:=bt_ GX eH;have dX:=bt_ EG eH;clear Es eH Gf GX EG;refine Kx ?_;simp only[Zbh,dz_,Zaj,tz_];go_wp2_with fail;refine cm_ (eQ.o V0 dJ.o) ?_;rintro e V1 ⟨rfl,hb⟩;have eR:=hd_ (Co.o.below hb);have F4:=bt_ dJ hb;have gC:=bt_ dX hb;clear hb Co dJ dX eQ;go_wp2_with fail;refine⟨⟨.inr ⟨⟨V1,eR.o.c4⟩,rfl⟩,.inr ⟨⟨V1,eR.o.c5⟩,rfl⟩,trivial⟩,?_⟩;refine Kx ?_;simp only[Zbh,dz_,Zaj,tz_];go_wp2_with fail;refine cm_ (eP.o V1 F4.o) ?_;rintro e V2 ⟨rfl,hb⟩;have GL:=hd_ (eR.o.below hb);have fQ:=bt_ F4 hb;have gI:=bt_ gC hb;clear hb eR F4 gC eP;go_wp2_with fail;refine⟨⟨.inr ⟨⟨V2,GL.o.c4⟩,rfl⟩,.inr ⟨⟨V2,GL.o.c5⟩,rfl⟩,trivial⟩,?_⟩;have gV:=GL.o.c4;have gU:=GL.o.c5;have gT:=GL.o.f4;have gS:=GL.o.f5;refine Kx ?_;simp only[Zbh,dz_,Zaj,tz_];go_wp2_with fail;have FF:(V2.setCell ⟨w.heap.size+1+1,0,none⟩ (.string slo2)).cell? ⟨w.heap.size+1+1+1,0,none⟩=some (.string shi):=by
     rw[World.cell?_setCell_other _ _ _ _ (by simp)];exact GL.o.c5
    have cC:(V2.setCell ⟨w.heap.size+1+1,0,none⟩ (.string slo2)).frozen? ⟨w.heap.size+1+1+1,0,none⟩=false:=by rw[World.frozen?_setCell];exact GL.o.f5
    refine⟨⟨.inl rfl,.inr ⟨⟨V2.setCell ⟨w.heap.size+1+1,0,none⟩ (.string slo2),FF⟩,rfl⟩,trivial⟩,?_⟩;clear gV gU gT gS;refine Kx ?_;simp only[Zbh,dz_,Zaj,tz_];go_wp2_with fail;refine⟨⟨.inl rfl,.inl rfl,trivial⟩,?_⟩;simp only[Vu];exact⟨(Qi gI.o).trans ((KeepsOthers.setCell _ _ _).trans (KeepsOthers.setCell _ _ _)),Zlk rfl HB.o HI.o.sz gI.o _ _,(GL.o.stored _ _).cast BQ.o Ap.o,Za3 fQ.o _ _⟩
  ·have hH:LN.hiL (lf n) p=lf n p+1:=by unfold LN.hiL;rw[if_neg Gl]
   rw[hH] at GR e1 e2 t2;have Oc:(p==2)=false:=by rw[beq_eq_false_iff_ne];exact Gl
   clear hH;rcases fS with⟨hs,hk⟩|⟨FT,G5,hk⟩
   ·rw[if_pos hk] at e1 e2;rw[hs] at gZ;clear hs;have eQ:Hid (∀ W,Bw_ w W->Kc Tryz.prog 205 #[.string (itx (LN.eLo (lf n) (pre.map Subtype.val))),.string (itx (((lf n p+1:Nat):Int)*k))] W (.string (itx ((LN.eLo (lf n) (pre.map Subtype.val))+((lf n p+1:Nat):Int)*k)))):=fun W hW=>Qcj W _ _ F hF s1 t2 (DU.o W hW)
    have eP:Hid (∀ W,Bw_ w W->Kc Tryz.prog 205 #[.string (itx (LN.eHi (lf n) (pre.map Subtype.val))),.string (itx ((lf n p:Int)*k))] W (.string (itx ((LN.eHi (lf n) (pre.map Subtype.val))+(lf n p:Int)*k)))):=fun W hW=>Qcj W _ _ F hF s2 t1 (DU.o W hW)
    rw[<- e1] at eQ;rw[<- e2] at eP;clear e1 e2 s1 s2 t1 t2 DU gd EP hF;obtain⟨slo2,Gq⟩:∃ s,itx (LN.eLo (lf n) ((pre++[(⟨(p,k),Gw⟩:{x // x∈tl})]).map Subtype.val))=s:=⟨_,rfl⟩;obtain⟨shi2,Gv⟩:∃ s,itx (LN.eHi (lf n) ((pre++[(⟨(p,k),Gw⟩:{x // x∈tl})]).map Subtype.val))=s:=⟨_,rfl⟩;rw[Gq] at eQ;rw[Gv] at eP;have BQ:=hd_ Gq;have Ap:=hd_ Gv;clear Gq Gv;generalize itx (LN.eLo (lf n) (pre.map Subtype.val))=slo at *;generalize itx (LN.eHi (lf n) (pre.map Subtype.val))=shi at *;generalize itx k=sk at *;generalize itx ((lf n p:Int)*k)=sa at *;generalize itx (((lf n p+1:Nat):Int)*k)=sb at *;generalize dec (lf n p+1)=sH at *;generalize dec (lf n p)=sL at *
    gi_wp2_with fail
    refine⟨trivial,?_⟩;refine(CallsIn.inRound l (callsIn_wide.2 (EF.o W0 DW.o))).mono ?_;rintro e W1 ⟨rfl,hb⟩;have fD:=hd_ (fY.o.below hb);have GU:=bt_ DW hb;have ey:=bt_ DT hb;clear hb Gm gV gU gT gS EF fY DW DT;have Gm:=fD.o.c3;have gV:=fD.o.c4;have gU:=fD.o.c5;have gT:=fD.o.f4;have gS:=fD.o.f5
    gi_wp2_with fail
    refine⟨trivial,?_⟩;refine(CallsIn.inRound l (callsIn_wide.2 (GC.o W1 GU.o))).mono ?_;rintro e W2 ⟨rfl,hb⟩;have gk:=hd_ (fD.o.below hb);have Gt:=bt_ GU hb;have FI:=bt_ ey hb;clear hb Gm gV gU gT gS GC fD GU ey;have Gm:=gk.o.c3;have gV:=gk.o.c4;have gU:=gk.o.c5;have gT:=gk.o.f4;have gS:=gk.o.f5
    gi_wp2_with fail
    refine⟨trivial,?_⟩;refine(CallsIn.inRound l (callsIn_wide.2 (GW.o W2 Gt.o))).mono ?_;rintro e W3 ⟨rfl,hb⟩;have gE:=hd_ (gk.o.below hb);have GY:=bt_ Gt hb;have EH:=bt_ FI hb;clear hb Gm gV gU gT gS GW gk Gt FI;have Gm:=gE.o.c3;have gV:=gE.o.c4;have gU:=gE.o.c5;have gT:=gE.o.f4;have gS:=gE.o.f5
    gi_wp2_with fail
    refine⟨trivial,?_⟩;refine(CallsIn.inRound l (callsIn_wide.2 (GR.o W3 GY.o))).mono ?_;rintro e W4 ⟨rfl,hb⟩;have Gf:=hd_ (gE.o.below hb);have GX:=bt_ GY hb;have EG:=bt_ EH hb;clear hb Gm gV gU gT gS GR gE GY EH;have Gm:=Gf.o.c3;have gV:=Gf.o.c4;have gU:=Gf.o.c5;have gT:=Gf.o.f4;have gS:=Gf.o.f5
    gi_wp2_with fail
    refine⟨trivial,?_⟩;refine(CallsIn.inRound l (callsIn_wide.2 (gZ.o W4 GX.o))).mono ?_;rintro e W5 ⟨rfl,hb⟩;have Fd:=hd_ (Gf.o.below hb);have Cs:=bt_ GX hb;have jv:=bt_ EG hb;clear hb Gm gV gU gT gS gZ Gf GX EG;have Gm:=Fd.o.c3;have gV:=Fd.o.c4;have gU:=Fd.o.c5;have gT:=Fd.o.f4;have gS:=Fd.o.f5
    gi_wp2_with fail
    have q0:=@Zj.h;have q9:Nonempty (Zj ⟨w.heap.size+1+1,0,none⟩ (.string slo)):=⟨⟨W5,Fd.o.c4⟩⟩;have q8:Nonempty (Zj ⟨w.heap.size+1+1+1,0,none⟩ (.string shi)):=⟨⟨W5,Fd.o.c5⟩⟩;refine Qm [(8,0),(1,1),(9,3),(1,4),(0,2),(0,5),(0,6),(0,7)]
     [(6,fun w'=>∃ p:Zj ⟨w.heap.size+1+1,0,none⟩ (.string slo),w'=p.w),(7,fun w'=>∃ p:Zj ⟨w.heap.size+1+1+1,0,none⟩ (.string shi),w'=p.w)]
     (by kernel_rfl) (by kernel_rfl) ⟨.inr ⟨⟨{ W5 with drawn:=W5.drawn+1 },Fd.o.c4⟩,rfl⟩,.inr ⟨⟨{ W5 with drawn:=W5.drawn+1 },Fd.o.c5⟩,rfl⟩,trivial⟩ ?_
    refine Qv (s:=6) _ (List.mem_cons_self ..) rfl ?_;simp only[dz_,Zaj,tz_]
    go_big_quiet_step (fail)
    refine wq_ ?_;refine Vh ?_;simp only[Zbh,dz_,Zaj,tz_]
    go_big_quiet_step (fail)
    refine wq_ ?_;refine Qv (s:=7) _ (List.mem_cons_of_mem _ (List.mem_cons_self ..)) rfl ?_;simp only[Zbh,dz_,Zaj,tz_]
    go_big_quiet_step (fail)
    refine wq_ ?_;refine Vh ?_;simp only[Zbh,dz_,Zaj,tz_]
    go_big_quiet_step (fail)
    refine wq_ ?_;clear q0 q8 q9 Gm gV gU gT gS;obtain⟨V0,Es⟩:∃ V0:World,{ heap:=W5.heap,tape:=W5.tape,drawn:=W5.drawn+1,os:=W5.os,output:=W5.output }=V0:=⟨_,rfl⟩;rw[Es];have eH:Bw_ W5 V0:=by rw[<- Es];exact⟨rfl,rfl,rfl,Nat.le_refl _,fun _ _=>rfl⟩
    have Co:=hd_ (Fd.o.below eH);have dJ:=bt_ Cs eH;have dX:=bt_ jv eH;clear Es eH Fd Cs jv;refine Kx ?_;simp only[Zbh,dz_,Zaj,tz_];go_wp2_with fail;refine cm_ (eQ.o V0 dJ.o) ?_;rintro e V1 ⟨rfl,hb⟩;have eR:=hd_ (Co.o.below hb);have F4:=bt_ dJ hb;have gC:=bt_ dX hb;clear hb Co dJ dX eQ;go_wp2_with fail;refine⟨⟨.inr ⟨⟨V1,eR.o.c4⟩,rfl⟩,.inr ⟨⟨V1,eR.o.c5⟩,rfl⟩,trivial⟩,?_⟩;refine Kx ?_;simp only[Zbh,dz_,Zaj,tz_];go_wp2_with fail;refine cm_ (eP.o V1 F4.o) ?_;rintro e V2 ⟨rfl,hb⟩;have GL:=hd_ (eR.o.below hb);have fQ:=bt_ F4 hb;have gI:=bt_ gC hb;clear hb eR F4 gC eP;go_wp2_with fail;refine⟨⟨.inr ⟨⟨V2,GL.o.c4⟩,rfl⟩,.inr ⟨⟨V2,GL.o.c5⟩,rfl⟩,trivial⟩,?_⟩;have gV:=GL.o.c4;have gU:=GL.o.c5;have gT:=GL.o.f4;have gS:=GL.o.f5;refine Kx ?_;simp only[Zbh,dz_,Zaj,tz_];go_wp2_with fail;have FF:(V2.setCell ⟨w.heap.size+1+1,0,none⟩ (.string slo2)).cell? ⟨w.heap.size+1+1+1,0,none⟩=some (.string shi):=by
     rw[World.cell?_setCell_other _ _ _ _ (by simp)];exact GL.o.c5
    have cC:(V2.setCell ⟨w.heap.size+1+1,0,none⟩ (.string slo2)).frozen? ⟨w.heap.size+1+1+1,0,none⟩=false:=by rw[World.frozen?_setCell];exact GL.o.f5
    refine⟨⟨.inl rfl,.inr ⟨⟨V2.setCell ⟨w.heap.size+1+1,0,none⟩ (.string slo2),FF⟩,rfl⟩,trivial⟩,?_⟩;clear gV gU gT gS;refine Kx ?_;simp only[Zbh,dz_,Zaj,tz_];go_wp2_with fail;refine⟨⟨.inl rfl,.inl rfl,trivial⟩,?_⟩;simp only[Vu];exact⟨(Qi gI.o).trans ((KeepsOthers.setCell _ _ _).trans (KeepsOthers.setCell _ _ _)),Zlk rfl HB.o HI.o.sz gI.o _ _,(GL.o.stored _ _).cast BQ.o Ap.o,Za3 fQ.o _ _⟩
   ·rw[if_neg hk] at e1 e2;have EM:¬ k.sign<0:=by omega
    have eQ:Hid (∀ W,Bw_ w W->Kc Tryz.prog 205 #[.string (itx (LN.eLo (lf n) (pre.map Subtype.val))),.string (itx ((lf n p:Int)*k))] W (.string (itx ((LN.eLo (lf n) (pre.map Subtype.val))+(lf n p:Int)*k)))):=fun W hW=>Qcj W _ _ F hF s1 t1 (DU.o W hW)
    have eP:Hid (∀ W,Bw_ w W->Kc Tryz.prog 205 #[.string (itx (LN.eHi (lf n) (pre.map Subtype.val))),.string (itx (((lf n p+1:Nat):Int)*k))] W (.string (itx ((LN.eHi (lf n) (pre.map Subtype.val))+((lf n p+1:Nat):Int)*k)))):=fun W hW=>Qcj W _ _ F hF s2 t2 (DU.o W hW)
    generalize k.sign=sg at *;rw[<- e1] at eQ;rw[<- e2] at eP;clear e1 e2 s1 s2 t1 t2 DU gd EP hF;obtain⟨slo2,Gq⟩:∃ s,itx (LN.eLo (lf n) ((pre++[(⟨(p,k),Gw⟩:{x // x∈tl})]).map Subtype.val))=s:=⟨_,rfl⟩;obtain⟨shi2,Gv⟩:∃ s,itx (LN.eHi (lf n) ((pre++[(⟨(p,k),Gw⟩:{x // x∈tl})]).map Subtype.val))=s:=⟨_,rfl⟩;rw[Gq] at eQ;rw[Gv] at eP;have BQ:=hd_ Gq;have Ap:=hd_ Gv;clear Gq Gv;generalize itx (LN.eLo (lf n) (pre.map Subtype.val))=slo at *;generalize itx (LN.eHi (lf n) (pre.map Subtype.val))=shi at *;generalize itx k=sk at *;generalize itx ((lf n p:Int)*k)=sa at *;generalize itx (((lf n p+1:Nat):Int)*k)=sb at *;generalize dec (lf n p+1)=sH at *;generalize dec (lf n p)=sL at *
    gi_wp2_with fail
    refine⟨trivial,?_⟩;refine(CallsIn.inRound l (callsIn_wide.2 (EF.o W0 DW.o))).mono ?_;rintro e W1 ⟨rfl,hb⟩;have fD:=hd_ (fY.o.below hb);have GU:=bt_ DW hb;have ey:=bt_ DT hb;clear hb Gm gV gU gT gS EF fY DW DT;have Gm:=fD.o.c3;have gV:=fD.o.c4;have gU:=fD.o.c5;have gT:=fD.o.f4;have gS:=fD.o.f5
    gi_wp2_with fail
    refine⟨trivial,?_⟩;refine(CallsIn.inRound l (callsIn_wide.2 (GC.o W1 GU.o))).mono ?_;rintro e W2 ⟨rfl,hb⟩;have gk:=hd_ (fD.o.below hb);have Gt:=bt_ GU hb;have FI:=bt_ ey hb;clear hb Gm gV gU gT gS GC fD GU ey;have Gm:=gk.o.c3;have gV:=gk.o.c4;have gU:=gk.o.c5;have gT:=gk.o.f4;have gS:=gk.o.f5
    gi_wp2_with fail
    refine⟨trivial,?_⟩;refine(CallsIn.inRound l (callsIn_wide.2 (GW.o W2 Gt.o))).mono ?_;rintro e W3 ⟨rfl,hb⟩;have gE:=hd_ (gk.o.below hb);have GY:=bt_ Gt hb;have EH:=bt_ FI hb;clear hb Gm gV gU gT gS GW gk Gt FI;have Gm:=gE.o.c3;have gV:=gE.o.c4;have gU:=gE.o.c5;have gT:=gE.o.f4;have gS:=gE.o.f5
    gi_wp2_with fail
    refine⟨trivial,?_⟩;refine(CallsIn.inRound l (callsIn_wide.2 (GR.o W3 GY.o))).mono ?_;rintro e W4 ⟨rfl,hb⟩;have Gf:=hd_ (gE.o.below hb);have GX:=bt_ GY hb;have EG:=bt_ EH hb;clear hb Gm gV gU gT gS GR gE GY EH;have Gm:=Gf.o.c3;have gV:=Gf.o.c4;have gU:=Gf.o.c5;have gT:=Gf.o.f4;have gS:=Gf.o.f5
    gi_wp2_with fail
    refine⟨trivial,?_⟩;refine(CallsIn.inRound l (callsIn_wide.2 (gZ.o W4 GX.o))).mono ?_;rintro e W5 ⟨rfl,hb⟩;have Fd:=hd_ (Gf.o.below hb);have Cs:=bt_ GX hb;have jv:=bt_ EG hb;clear hb Gm gV gU gT gS gZ Gf GX EG;have Gm:=Fd.o.c3;have gV:=Fd.o.c4;have gU:=Fd.o.c5;have gT:=Fd.o.f4;have gS:=Fd.o.f5
    gi_wp2_with fail
    have q0:=@Zj.h;have q9:Nonempty (Zj ⟨w.heap.size+1+1,0,none⟩ (.string slo)):=⟨⟨W5,Fd.o.c4⟩⟩;have q8:Nonempty (Zj ⟨w.heap.size+1+1+1,0,none⟩ (.string shi)):=⟨⟨W5,Fd.o.c5⟩⟩;refine Qm [(8,0),(1,1),(9,3),(1,4),(0,2),(0,5),(0,6),(0,7)]
     [(6,fun w'=>∃ p:Zj ⟨w.heap.size+1+1,0,none⟩ (.string slo),w'=p.w),(7,fun w'=>∃ p:Zj ⟨w.heap.size+1+1+1,0,none⟩ (.string shi),w'=p.w)]
     (by kernel_rfl) (by kernel_rfl) ⟨.inr ⟨⟨{ W5 with drawn:=W5.drawn+1 },Fd.o.c4⟩,rfl⟩,.inr ⟨⟨{ W5 with drawn:=W5.drawn+1 },Fd.o.c5⟩,rfl⟩,trivial⟩ ?_
    refine Qv (s:=6) _ (List.mem_cons_self ..) rfl ?_;simp only[dz_,Zaj,tz_]
    go_big_quiet_step (fail)
    refine wq_ ?_;refine Vh ?_;simp only[Zbh,dz_,Zaj,tz_]
    go_big_quiet_step (fail)
    refine wq_ ?_;refine Qv (s:=7) _ (List.mem_cons_of_mem _ (List.mem_cons_self ..)) rfl ?_;simp only[Zbh,dz_,Zaj,tz_]
    go_big_quiet_step (fail)
    refine wq_ ?_;refine Vh ?_;simp only[Zbh,dz_,Zaj,tz_]
    go_big_quiet_step (fail)
    refine wq_ ?_;clear q0 q8 q9 Gm gV gU gT gS;obtain⟨V0,Es⟩:∃ V0:World,{ heap:=W5.heap,tape:=W5.tape,drawn:=W5.drawn+1,os:=W5.os,output:=W5.output }=V0:=⟨_,rfl⟩;rw[Es];have eH:Bw_ W5 V0:=by rw[<- Es];exact⟨rfl,rfl,rfl,Nat.le_refl _,fun _ _=>rfl⟩
    have Co:=hd_ (Fd.o.below eH);have dJ:=bt_ Cs eH;have dX:=bt_ jv eH;clear Es eH Fd Cs jv;refine Kx ?_;simp only[Zbh,dz_,Zaj,tz_];go_wp2_with fail;refine cm_ (eQ.o V0 dJ.o) ?_;rintro e V1 ⟨rfl,hb⟩;have eR:=hd_ (Co.o.below hb);have F4:=bt_ dJ hb;have gC:=bt_ dX hb;clear hb Co dJ dX eQ;go_wp2_with fail;refine⟨⟨.inr ⟨⟨V1,eR.o.c4⟩,rfl⟩,.inr ⟨⟨V1,eR.o.c5⟩,rfl⟩,trivial⟩,?_⟩;refine Kx ?_;simp only[Zbh,dz_,Zaj,tz_];go_wp2_with fail;refine cm_ (eP.o V1 F4.o) ?_;rintro e V2 ⟨rfl,hb⟩;have GL:=hd_ (eR.o.below hb);have fQ:=bt_ F4 hb;have gI:=bt_ gC hb;clear hb eR F4 gC eP;go_wp2_with fail;refine⟨⟨.inr ⟨⟨V2,GL.o.c4⟩,rfl⟩,.inr ⟨⟨V2,GL.o.c5⟩,rfl⟩,trivial⟩,?_⟩;have gV:=GL.o.c4;have gU:=GL.o.c5;have gT:=GL.o.f4;have gS:=GL.o.f5;refine Kx ?_;simp only[Zbh,dz_,Zaj,tz_];go_wp2_with fail;have FF:(V2.setCell ⟨w.heap.size+1+1,0,none⟩ (.string slo2)).cell? ⟨w.heap.size+1+1+1,0,none⟩=some (.string shi):=by
     rw[World.cell?_setCell_other _ _ _ _ (by simp)];exact GL.o.c5
    have cC:(V2.setCell ⟨w.heap.size+1+1,0,none⟩ (.string slo2)).frozen? ⟨w.heap.size+1+1+1,0,none⟩=false:=by rw[World.frozen?_setCell];exact GL.o.f5
    refine⟨⟨.inl rfl,.inr ⟨⟨V2.setCell ⟨w.heap.size+1+1,0,none⟩ (.string slo2),FF⟩,rfl⟩,trivial⟩,?_⟩;clear gV gU gT gS;refine Kx ?_;simp only[Zbh,dz_,Zaj,tz_];go_wp2_with fail;refine⟨⟨.inl rfl,.inl rfl,trivial⟩,?_⟩;simp only[Vu];exact⟨(Qi gI.o).trans ((KeepsOthers.setCell _ _ _).trans (KeepsOthers.setCell _ _ _)),Zlk rfl HB.o HI.o.sz gI.o _ _,(GL.o.stored _ _).cast BQ.o Ap.o,Za3 fQ.o _ _⟩
 case done =>
  rintro D' ys W hD rfl ⟨hI,hB⟩ hK;rw[List.attach_map_subtype_val] at hI;have HI:=hd_ hI;have HB:=hd_ hB;have HK:=hd_ hK;clear hI hB hK Dg Ef cK GP aP;have Hv:Hid (∀ s t,itx (LN.eLo (lf n) tl)=s->itx (LN.eHi (lf n) tl)=t->Ending.returned (.tuple #[.string s,.string t])=Ending.returned (.tuple #[.string (itx (LN.eLo (lf n) tl)),.string (itx (LN.eHi (lf n) tl))])):=by
   intro s t h1 h2;rw[h1,h2]
  obtain⟨lo,fy⟩:∃ s,itx (LN.eLo (lf n) tl)=s:=⟨_,rfl⟩;obtain⟨hi,ec⟩:∃ s,itx (LN.eHi (lf n) tl)=s:=⟨_,rfl⟩;have Hr:=hd_ (Hv.o lo hi fy ec);rw[fy,ec] at HI;clear Hv fy ec;have gV:=HI.o.c4;have gU:=HI.o.c5;have gT:=HI.o.f4;have gS:=HI.o.f5
  gi_wp2_with fail
  gi_region
  gi_wp2
  clear gV gU gT gS;have e4:((W.setCell { block:=w.heap.size+1+1,off:=0 } (Value.string lo)).setCell { block:=w.heap.size+1+1+1,off:=0 } (Value.string hi)).drew.cell? ⟨w.heap.size+1+1,0,none⟩=some (.string lo):=by
   show World.cell? ((W.setCell { block:=w.heap.size+1+1,off:=0 } (Value.string lo)).setCell { block:=w.heap.size+1+1+1,off:=0 } (Value.string hi)) _=_
   rw[World.cell?_setCell_other _ _ _ _ (by simp),World.cell?_setCell_same _ _ _ HI.o.c4]
  have e5:((W.setCell { block:=w.heap.size+1+1,off:=0 } (Value.string lo)).setCell { block:=w.heap.size+1+1+1,off:=0 } (Value.string hi)).drew.cell? ⟨w.heap.size+1+1+1,0,none⟩=some (.string hi):=by
   show World.cell? ((W.setCell { block:=w.heap.size+1+1,off:=0 } (Value.string lo)).setCell { block:=w.heap.size+1+1+1,off:=0 } (Value.string hi)) _=_
   rw[World.cell?_setCell_same _ _ _ (by rw[World.cell?_setCell_other _ _ _ _ (by simp)];exact HI.o.c5)]
  have Ij:=((KeepsOthers.setCell W ⟨w.heap.size+1+1,0,none⟩ (.string lo)).trans (KeepsOthers.setCell _ ⟨w.heap.size+1+1+1,0,none⟩ (.string hi))).trans (KeepsOthers.drew _);have DO:=Ij.same D' _ HK.o rfl;have bJ:=((HB.o.setCell (p:=⟨w.heap.size+1+1,0,none⟩) (by show _<=w.heap.size+1+1;omega) (.string lo)).setCell (p:=⟨w.heap.size+1+1+1,0,none⟩) (by show _<=w.heap.size+1+1+1;omega) (.string hi)).drew;generalize ((W.setCell { block:=w.heap.size+1+1,off:=0 } (Value.string lo)).setCell { block:=w.heap.size+1+1+1,off:=0 } (Value.string hi)).drew=w9 at *;have g4:=cell_kept e4 (grownBy_putObj' _ D' (.deferred none)) (fun r e=>by cases e;exact⟨_,DO,rfl⟩);have g5:=cell_kept e5 (grownBy_putObj' _ D' (.deferred none)) (fun r e=>by cases e;exact⟨_,DO,rfl⟩);refine⟨by simp,.inl ⟨_,_,rfl,run_takeDeferred DO,?_⟩⟩;refine⟨.tuple #[.string lo,.string hi],?_,Hr.o,bJ.trans (belowK_b (w:=w) nr_ w9 D' _ _ (by rw[GG] at hD;omega) DO rfl rfl)⟩;simp[results,Tryz.results165,go_sem,g4,g5]
 case stop =>
  rintro D' c pre W hD hSp ⟨hf,_⟩ hK;exact hf.elim
end Go.Proofs.YtbielfplgbammaaGreatDoor

namespace Go.Proofs.YtbielfplgbammaaGreatDoor.LN
end Go.Proofs.YtbielfplgbammaaGreatDoor.LN

namespace Go.Proofs.YtbielfplgbammaaGreatDoor
open Go.RowKit
theorem Qfw{n:Nat}{tl:List (Int×Int)}(h:PrT tl)(hn:n<=1056):∀ x∈tl,LN.LogAt n x.1 (lf n x.1):=fun x hx=>by
 obtain⟨q,e,hq⟩:=h x hx;rw[e];exact Qb8 hq hn
structure TrT (tl:List (Int×Int)):Prop where
 p:PrT tl
 nz:∀ x∈tl,x.2≠0
 nd:(tl.map Prod.fst).Nodup
theorem Zje{n:Nat}{tl:List (Int×Int)}(h:TrT tl)(hn:n<=1056)(gh:tl≠[])(h0:0<=LN.eLo (lf n) tl):LN.signT tl=1:=by
 rw[LN.eLo_eq] at h0;exact LN.sign_low n (lf n) tl (Qfw h.p hn) h.nz gh h.nd (by omega)
theorem Zjf{n:Nat}{tl:List (Int×Int)}(h:TrT tl)(hn:n<=1056)(gh:tl≠[])(h0:LN.eHi (lf n) tl<=0):LN.signT tl = -1:=by
 rw[LN.eHi_eq] at h0;exact LN.sign_high n (lf n) tl (Qfw h.p hn) h.nz gh h.nd (by omega)
theorem Qab(N:Nat):Qey 2 N N:=⟨Nat.le_refl _,Nat.pow_lt_pow_right (by decide) (by omega)⟩
theorem Qax(more n:Nat)(hm:1<=more){s:Nat×Nat×Nat}(h:Vm 2 more n=some s):s.2.2=2^n :=
 Zrs (Zev 2 more (by decide) hm n s h).lg (Qab _)
theorem Qfu{p:Int}(hp:∃ q:Nat,p=q/\(q=2\/q∈Zba))(h:(Vm p.toNat 62 26).isSome=true):lgA p=(lf 26 p:Int)/\lgB p=(LN.hiL (lf 26) p:Int):=by
 obtain⟨q,rfl,hq⟩:=hp;obtain⟨s,hs⟩:=Option.isSome_iff_exists.1 h;rw[Int.toNat_natCast] at hs;have e:lgA q=(lf 26 q:Int):=by
  unfold lgA;rw[Int.toNat_natCast,hs]
  show ((s.2.2:Nat):Int)=((lgN q 26:Nat):Int)
  rcases hq with rfl|hq
  ·rw[Qax 62 26 (by decide) hs];rw[show ((2:Nat):Int)=2 from rfl,Zb1]
  ·rw[Zeu hq (by decide) (by decide) hs]
 refine⟨e,?_⟩;unfold lgB LN.hiL;rw[e];split
 ·rfl
 ·rfl
theorem Zwq{most:Int}:∀ tl:List (Int×Int),PrT tl->(∀ x∈tl,okT most x)->Zb7 tl=LN.eLo (lf 26) tl/\Vq tl=LN.eHi (lf 26) tl
 | [],_,_=>⟨rfl,rfl⟩
 | x::l,hp,ho=>by
  obtain⟨i1,i2⟩:=Zwq l (fun y hy=>hp y (List.mem_cons_of_mem _ hy)) (fun y hy=>ho y (List.mem_cons_of_mem _ hy));obtain⟨a1,a2⟩:=Qfu (hp x List.mem_cons_self) (ho x List.mem_cons_self).2;have e1:Zb7 (x::l)=min (x.2*lgA x.1) (x.2*lgB x.1)+Zb7 l:=by simp[Zb7]
  have e2:Vq (x::l)=max (x.2*lgA x.1) (x.2*lgB x.1)+Vq l:=by simp[Vq]
  have f1:LN.eLo (lf 26) (x::l)=(if x.2<0 then x.2*(LN.hiL (lf 26) x.1:Int) else x.2*(lf 26 x.1:Int))+LN.eLo (lf 26) l:=by simp[LN.eLo]
  have f2:LN.eHi (lf 26) (x::l)=(if x.2<0 then x.2*(lf 26 x.1:Int) else x.2*(LN.hiL (lf 26) x.1:Int))+LN.eHi (lf 26) l:=by simp[LN.eHi]
  have fz:lf 26 x.1<=LN.hiL (lf 26) x.1:=by unfold LN.hiL;split<;>omega
  rw[e1,e2,f1,f2,i1,i2,a1,a2]
  by_cases hk:x.2<0
  ·have h1:x.2*(LN.hiL (lf 26) x.1:Int)<=x.2*(lf 26 x.1:Int):=Int.mul_le_mul_of_nonpos_left (by omega) (by omega);rw[if_pos hk,if_pos hk,Int.min_eq_right h1,Int.max_eq_left h1];exact⟨rfl,rfl⟩
  ·have h1:x.2*(lf 26 x.1:Int)<=x.2*(LN.hiL (lf 26) x.1:Int):=Int.mul_le_mul_of_nonneg_left (by omega) (by omega);rw[if_neg hk,if_neg hk,Int.min_eq_left h1,Int.max_eq_right h1];exact⟨rfl,rfl⟩
theorem Zs3{tl:List (Int×Int)}(h:TrT tl)(gh:tl≠[])(hq:Zo tl≠0):Zo tl=LN.signT tl:=by
 unfold Zo at hq ⊢;split at hq
 ·rename_i ho
  obtain⟨e1,e2⟩:=Zwq tl h.p ho;rw[if_pos ho];rw[e1,e2] at hq ⊢;split
  ·rename_i h1;rw[Zje h (by decide) gh h1]
  ·rename_i h1
   rw[if_neg h1] at hq;split
   ·rename_i h2;rw[Zjf h (by decide) gh h2]
   ·rename_i h2;rw[if_neg h2] at hq;exact absurd rfl hq
 ·exact absurd rfl hq
def Pw (n:Nat):Prop:=n=64\/n=128\/n=256\/n=512\/n=1024
def Dec (tl:List (Int×Int)):Prop:=0<=LN.eLo (lf 1024) tl\/LN.eHi (lf 1024) tl<=0
theorem Zy1(w:World)(b1 b2:OA_)(d1 d2 D E:Nat)(tl:List (Int×Int))(T:Zd w tl b1 b2)(R:TrT tl)(hE:E<=20000)(hK:∀ x∈tl,x.2.natAbs<2^E)(hd:tl≠[]->Dec tl)(L:Qa w):
  Kc Tryz.prog 80 #[.agg (Ko b1 d1 b2 d2 tl.length D)] w (.int .i64 (LN.signT tl)):=by
 by_cases h0:tl=[]
 ·have:=Zfb w b1 b2 d1 d2 D tl T L (.inl h0)
  rw[if_pos h0] at this;rw[h0] at this ⊢;exact this
 by_cases hq:Zo tl≠0
 ·have:=Zfb w b1 b2 d1 d2 D tl T L (.inr hq)
  rw[if_neg h0,Zs3 R h0 hq] at this;exact this
 ·have DI:Zo tl=0:=by omega
  unfold Kc;have gm:=hd_ ((Below.refl w.heap.size w).alloc nr_ (.cells (Ko b1 d1 b2 d2 tl.length D) 146));have Hn:=hd_ (Zm1 _ b1 b2 d1 d2 D tl (T.below gm.o) (L.below gm.o));rw[DI] at Hn;have Ih:((tl.length:Int)==0)=false:=by
   rw[beq_eq_false_iff_ne];intro h;exact h0 (List.eq_nil_of_length_eq_zero (by omega))
  have He:Hid (∀ (n:Nat) W,n<=1056->Bw_ w W->Kc Tryz.prog 165 #[.agg (Ko b1 d1 b2 d2 tl.length D),.int .i64 n] W (.tuple #[.string (itx (LN.eLo (lf n) tl)),.string (itx (LN.eHi (lf n) tl))])) :=
   fun n W hn hW=>Qao W b1 b2 d1 d2 D n E tl (T.below hW) R.p hE hK hn (L.below hW)
  have Cg:Hid (∀ n:Nat,n<=1056->0<=LN.eLo (lf n) tl->LN.signT tl=1):=fun n hn h=>Zje R hn h0 h
  have C':Hid (∀ n:Nat,n<=1056->LN.eHi (lf n) tl<=0->LN.signT tl = -1):=fun n hn h=>Zjf R hn h0 h
  have jD:=hd_ (hd h0);clear T L hq h0 DI R hE hK hd;generalize LN.signT tl=sv at *;generalize hm:tl.length=m at *;clear hm;have mz:=hd_ (Kk w (Ko b1 d1 b2 d2 m D) 146 w.heap.size rfl);obtain⟨m0,m1,m2,m3⟩:=Kz mz.o;clear m3;go_enter Tryz.func80,Tryz.ntmps80;go_wp2_with fail
  go_step3
  go_wp2_with fail;refine cm_ Hn.o ?_;rintro e w1 ⟨rfl,hZ⟩;have H6:=bt_ gm hZ;have ey:=hk_ mz hZ;clear hZ Hn gm mz m0 m1 m2;go_wp2_with fail
  go_step3
  go_wp2_with fail
  go_loopw [4] (fun a wr=>∃ (n:Nat),Hid (Pw n)/\n<=1024/\a = .int .i64 n/\Hid (Bw_ w wr)/\Hid (wr.heap[w.heap.size]?=some (.cells (Ko b1 d1 b2 d2 m D) 146 (0,0)))) (fun a _=>1024-(intOf a).toNat)
  case atStart=>exact⟨64,.inl rfl,by decide,rfl,H6,ey⟩
  case round =>
   clear H6 ey;obtain⟨n,Hp,hn,rfl,Hb,Hk⟩:=hrel;obtain⟨m0,m1,m2,m3⟩:=Kz Hk.o;clear m3;have mN:=hd_ (He.o n wr (by omega) Hb.o);have fy:=Cg.o n (by omega);have ec:=C'.o n (by omega);have el:n=1024->0<=LN.eLo (lf n) tl\/LN.eHi (lf n) tl<=0:=fun h=>by rw[h];exact jD.o
   clear He Cg C' jD;generalize LN.eLo (lf n) tl=lo at *;generalize LN.eHi (lf n) tl=hi at *;have Ai:Hid (∀ W,Kc Tryz.prog 59 #[.string (itx lo)] W (.int .i64 lo.sign)):=fun W=>Yl W lo
   have Ah:Hid (∀ W,Kc Tryz.prog 59 #[.string (itx hi)] W (.int .i64 hi.sign)):=fun W=>Yl W hi
   have c1:=Za0 lo;have c2:=Za0 hi;have hw:IntKind.i64.wrap ((n:Int)*2)=((n*2:Nat):Int):=by rw[show (n:Int)*2=((n*2:Nat):Int) by omega];exact iw_ _ (by omega)
   by_cases h1:0<=lo
   ·have Hv:=hd_ (fy h1);have Eu:0<=lo.sign:=by omega
    generalize lo.sign=sl at *;clear c1 c2 fy ec el Ah h1;generalize itx lo=slo at *;generalize itx hi=shi at *;have B1:=Hb;have K1:=Hk;clear Hb Hk;go_wp2_with fail;refine cm_ (mN.o) ?_;rintro e w2 ⟨rfl,hb⟩;have B2:=bt_ B1 hb;have K2:=hk_ K1 hb;clear hb B1 K1;go_wp2_with fail;refine cm_ (Ai.o _) ?_;rintro e w3 ⟨rfl,hb⟩;have B3:=bt_ B2 hb;have K3:=hk_ K2 hb;clear hb B2 K2;go_wp2_with fail;rw[Exit.noGoto_ret];go_ret;exact⟨by rw[Hv.o];rfl,B3.o⟩
   ·have Eu:lo.sign<0:=by omega
    by_cases h2:hi<=0
    ·have Hv:=hd_ (ec h2);have eX:hi.sign<=0:=by omega
     generalize lo.sign=sl at *;generalize hi.sign=sh at *;clear c1 c2 fy ec el h1 h2;generalize itx lo=slo at *;generalize itx hi=shi at *;have B1:=Hb;have K1:=Hk;clear Hb Hk;go_wp2_with fail;refine cm_ (mN.o) ?_;rintro e w2 ⟨rfl,hb⟩;have B2:=bt_ B1 hb;have K2:=hk_ K1 hb;clear hb B1 K1;go_wp2_with fail;refine cm_ (Ai.o _) ?_;rintro e w3 ⟨rfl,hb⟩;have B3:=bt_ B2 hb;have K3:=hk_ K2 hb;clear hb B2 K2;go_wp2_with fail;refine cm_ (Ah.o _) ?_;rintro e w4 ⟨rfl,hb⟩;have B4:=bt_ B3 hb;have K4:=hk_ K3 hb;clear hb B3 K3;go_wp2_with fail;rw[Exit.noGoto_ret];go_ret;exact⟨by rw[Hv.o];rfl,B4.o⟩
    ·have eX:0<hi.sign:=by omega
     have A9:n*2<=1024:=by
      rcases Hp.o with h|h|h|h|h
      ·omega
      ·omega
      ·omega
      ·omega
      ·have:=el h;omega
     have Gl:Hid (Pw (n*2)):=by
      rcases Hp.o with h|h|h|h|h
      ·subst h;exact .inr (.inl rfl)
      ·subst h;exact .inr (.inr (.inl rfl))
      ·subst h;exact .inr (.inr (.inr (.inl rfl)))
      ·subst h;exact .inr (.inr (.inr (.inr rfl)))
      ·have:=el h;omega
     have dP:0<n:=by rcases Hp.o with h | h | h | h | h<;>omega
     generalize lo.sign=sl at *;generalize hi.sign=sh at *;clear c1 c2 fy ec el h1 h2;generalize itx lo=slo at *;generalize itx hi=shi at *;have B1:=Hb;have K1:=Hk;clear Hb Hk;go_wp2_with fail;refine cm_ (mN.o) ?_;rintro e w2 ⟨rfl,hb⟩;have B2:=bt_ B1 hb;have K2:=hk_ K1 hb;clear hb B1 K1;go_wp2_with fail;refine cm_ (Ai.o _) ?_;rintro e w3 ⟨rfl,hb⟩;have B3:=bt_ B2 hb;have K3:=hk_ K2 hb;clear hb B2 K2;go_wp2_with fail;refine cm_ (Ah.o _) ?_;rintro e w4 ⟨rfl,hb⟩;have B4:=bt_ B3 hb;have K4:=hk_ K3 hb;clear hb B3 K3;go_wp2_with fail
     go_roundw
     case rel=>exact⟨n*2,Gl,A9,rfl,B4,K4⟩
     case measure=>simp[intOf];omega
def Vj:List Int:=[2,3,5,7,11,13]
theorem Qb6{p n L:Nat}(hp:p∈Zba)(hn:n<=1056)(h:LN.lg p p.log2 n 1120=some L):lgN p n=L:=by
 rw[Zwu] at h;obtain⟨s,hs,e⟩:=Option.map_eq_some_iff.1 h;rw[<- Zeu hp hn (by decide) hs,e]
theorem Qdo:([3,5,7,11,13]:List Nat).map (fun p=>LN.lg p p.log2 1024 1120)=LN.certL.tail.map fun x=>some x.toNat:=by decide +kernel
theorem Zud:LN.certL.head?=some (2^1024):=by decide +kernel
theorem Zxx:∀ x∈LN.certL,(0:Int)<=x:=by decide +kernel
theorem Qb9(n:Nat):((lf n 2:Nat):Int)=2^n:=by
 show ((lgN 2 n:Nat):Int)=_
 rw[Zb1,Int.natCast_pow];rfl
theorem Zjv{a k m:Nat}(ha:a<=100)(h:7+k<=m):a*2^k<=2^m:=by
 have:a*2^k<=2^7*2^k:=Nat.mul_le_mul_right _ (by omega)
 rw[<- Nat.pow_add] at this;exact Nat.le_trans this (Nat.pow_le_pow_right (by decide) h)
theorem Zgq:Vj.map (fun p=>((lf 1024 p:Nat):Int))=LN.certL:=by
 have h:=Qdo;have h0:=Zud;have hp:=Zxx;obtain⟨c0,c1,c2,c3,c4,c5,e⟩:∃ c0 c1 c2 c3 c4 c5,LN.certL=[c0,c1,c2,c3,c4,c5]:=⟨_,_,_,_,_,_,rfl⟩;rw[e] at h h0 hp ⊢;have Gg:∀ (p:Nat) (c:Int),p∈Zba->0<=c->LN.lg p p.log2 1024 1120=some c.toNat->((lf 1024 (p:Int):Nat):Int)=c:=fun p c hp h0 h=>by
  have:=Qb6 hp (by decide) h
  show ((lgN p 1024:Nat):Int)=c
  rw[this];omega
 simp only[List.map_cons,List.map_nil,List.tail_cons,List.cons.injEq,and_true] at h;obtain⟨h1,h2,h3,h4,h5⟩:=h;simp only[List.head?_cons,Option.some.injEq] at h0;have p1:=hp c1 (by simp);have p2:=hp c2 (by simp);have p3:=hp c3 (by simp);have p4:=hp c4 (by simp);have p5:=hp c5 (by simp);have k1:=Gg 3 c1 (by decide) p1 h1;have k2:=Gg 5 c2 (by decide) p2 h2;have k3:=Gg 7 c3 (by decide) p3 h3;have k4:=Gg 11 c4 (by decide) p4 h4;have k5:=Gg 13 c5 (by decide) p5 h5;have k0:((lf 1024 2:Nat):Int)=c0:=by
  rw[h0];exact Qb9 1024
 show [((lf 1024 2:Nat):Int),((lf 1024 3:Nat):Int),((lf 1024 5:Nat):Int),((lf 1024 7:Nat):Int),((lf 1024 11:Nat):Int),((lf 1024 13:Nat):Int)]=_
 rw[k0];rw[show ((lf 1024 3:Nat):Int)=c1 from k1,show ((lf 1024 5:Nat):Int)=c2 from k2,show ((lf 1024 7:Nat):Int)=c3 from k3,show ((lf 1024 11:Nat):Int)=c4 from k4,show ((lf 1024 13:Nat):Int)=c5 from k5]
def Kb:Nat:=2^100
theorem Zp7{tl:List (Int×Int)}(h1:∀ x∈tl,x.1∈Vj)(h0:∀ x∈tl,x.2≠0)(hd:(tl.map Prod.fst).Nodup)(hk:∀ x∈tl,x.2.natAbs<=Kb)(hl:tl.length<=100)(gh:tl≠[]):Dec tl:=by
 have hc:=LN.cert_ok;rw[<- Zgq] at hc;have hS:=@Zjv tl.length 100 503 hl (by decide);have:=LN.ends_decide hc (by decide) tl hS gh (fun x hx=>⟨h1 x hx,h0 x hx,hk x hx⟩) hd
 unfold Dec;rw[LN.eLo_eq,LN.eHi_eq];omega
def Zir:List Int:=[2,3,5,7,11,13,17,19,23,29,31,37,41,43,47,53,59,61,67,71,73,79,83,89,97]
structure Zl6 (ps:List Int) (l:List Rat):Prop where
 pr:∀ p∈ps,p∈Zir
 nd:ps.Nodup
 kb:∀ x∈tlQ ps l,x.2.natAbs<=Kb
 dc:ps.length<=100->tlQ ps l≠[]->Dec (tlQ ps l)
theorem Zb9(D:Nat):∀ (ps:List Int) (l:List Rat),((Qt D ps l).map Prod.fst).Sublist ps
 | [],_=>by simp[Qt]
 | _::_,[]=>by simp[Qt]
 | p::ps,q::l=>by
  have ih:=Zb9 D ps l;unfold Qt at ih ⊢;rw[List.zip_cons_cons,List.filterMap_cons]
  by_cases h:q.num=0
  ·simp only[h,if_true];exact ih.cons _
  ·simp only[h,if_false];exact ih.cons_cons _
theorem Zqw{ps:List Int}{l:List Rat}{x:Int×Int}(h:x∈tlQ ps l):x.2≠0:=by
 obtain⟨_,q,hq,hn,he⟩:=Zm h;rw[he];refine Int.mul_ne_zero hn ?_;have h1:=LN.tden_dvd hq;have h2:=LN.tden_pos' l;have h3:0<Qn l/q.den:=Nat.div_pos (Nat.le_of_dvd h2 h1) q.den_pos;omega
theorem Zsf:Zir=2::Zba.map (fun p=>((p:Nat):Int)):=by decide +kernel
theorem Zfv{p:Int}(h:p∈Zir):∃ q:Nat,p=q/\(q=2\/q∈Zba):=by
 rw[Zsf] at h;rcases List.mem_cons.1 h with rfl|h
 ·exact⟨2,rfl,.inl rfl⟩
 ·obtain⟨q,hq,rfl⟩:=List.mem_map.1 h;exact⟨q,rfl,.inr hq⟩
theorem Za8{p:Int}(h:p∈Vj):p∈Zir:=by
 have:∀ p∈Vj,p∈Zir:=by decide
 exact this p h
theorem Zmg{ps:List Int}{l:List Rat}(h1:∀ p∈ps,p∈Zir)(h2:ps.Nodup):TrT (tlQ ps l) :=
 ⟨fun _ hx=>Zfv (h1 _ (Zm hx).1),fun _ hx=>Zqw hx,(Zb9 _ ps l).nodup h2⟩
theorem Zl6.trt{ps:List Int}{l:List Rat}(h:Zl6 ps l):TrT (tlQ ps l):=Zmg h.pr h.nd
theorem Zl6.lt{ps:List Int}{l:List Rat}(h:Zl6 ps l):∀ x∈tlQ ps l,x.2.natAbs<2^101:=fun x hx=>Nat.lt_of_le_of_lt (h.kb x hx) (by decide)
theorem Zl6.dec{ps:List Int}{l:List Rat}(h:Zl6 ps l)(hn:ps.length<=100)(gh:tlQ ps l≠[]):Dec (tlQ ps l):=h.dc hn gh
theorem Zjb{ps:List Int}{l:List Rat}(hn:ps.length<=100):(tlQ ps l).length<=100 :=
 Nat.le_trans (by have:=(Zb9 (Qn l) ps l).length_le;rw[List.length_map] at this;exact this) hn
theorem Zl6.small{ps:List Int}{l:List Rat}(h1:∀ p∈ps,p∈Vj)(h2:ps.Nodup)(hk:∀ x∈tlQ ps l,x.2.natAbs<=Kb):Zl6 ps l :=
 ⟨fun p hp=>Za8 (h1 p hp),h2,hk,fun hn gh=>Zp7 (fun _ hx=>h1 _ (Zm hx).1) (Zmg (fun p hp=>Za8 (h1 p hp)) h2).nz (Zmg (fun p hp=>Za8 (h1 p hp)) h2).nd hk (Zjb hn) gh⟩
theorem Zqa(w:World)(ps:List Int)(a0 a1 a2:OA_)(c0 c1 c2 D:Nat)(la lb:List Rat)(A:Qo w ps a0 a1 la D)(B:Qo w ps a0 a2 lb D)(L:Qa w)(hD:D<=400)
  (hq:Zl6 ps (Vx ps.length [la,lb] [1,-1])) :
  Kc Tryz.prog 81 #[.slice a0 ps.length c0,.slice a1 la.length c1,.slice a2 lb.length c2] w (.int .i64 (LN.sz ps (Vx ps.length [la,lb] [1,-1]))):=by
 unfold Kc;have HL:=hd_ L;have HA:=hd_ A;have HB:=hd_ B;have HD:=hd_ hD;have Hq:=hd_ hq;have Hn:=hd_ A.n;have Nq:Hid (LN.sz ps (Vx ps.length [la,lb] [1,-1])=LN.signT (tlQ ps (Vx ps.length [la,lb] [1,-1]))):=hd_ rfl;have EC:Hid (∀ W,Bw_ w W->Kc Tryz.prog 58 #[.int .i64 1] W (.agg #[.string (itx 1),.string (dec 1)])):=fun W hW=>Ym W 1 (by decide) (by decide) (HL.o.below hW)
 have et:Hid (∀ W,Bw_ w W->Kc Tryz.prog 58 #[.int .i64 (-1)] W (.agg #[.string (itx (-1)),.string (dec 1)])):=fun W hW=>Ym W (-1) (by decide) (by decide) (HL.o.below hW)
 clear hq hD A B L;obtain⟨r,hr⟩:∃ r,LN.sz ps (Vx ps.length [la,lb] [1,-1])=r:=⟨_,rfl⟩;have gZ:Hid (LN.signT (tlQ ps (Vx ps.length [la,lb] [1,-1]))=r):=by show _=_;rw[<- Nq.o,hr]
 rw[hr];clear hr Nq;go_enter Tryz.func81,Tryz.ntmps81;go_wp2_with fail;have K1:=hd_ (Kk w #[.slice a1 la.length c1,.slice a2 lb.length c2] 35 _ rfl);have B1:=hd_ ((Below.refl w.heap.size w).alloc nr_ (.cells #[.slice a1 la.length c1,.slice a2 lb.length c2] 35));generalize fg:w.alloc (.cells #[.slice a1 la.length c1,.slice a2 lb.length c2] 35)=w1 at *;clear fg;refine cm_ (EC.o _ B1.o) ?_;rintro e w2 ⟨rfl,hb⟩;have K2:=hk_ K1 hb;have B2:=bt_ B1 hb;clear hb;go_wp2_with fail;refine cm_ (et.o _ B2.o) ?_;rintro e w3 ⟨rfl,hb⟩;have K3:=hk_ K2 hb;have B3:=bt_ B2 hb;clear hb;go_wp2_with fail;have K4:=hd_ (Kh K3.o (.cells #[.string (itx 1),.string (dec 1),.string (itx (-1)),.string (dec 1)] 101));have B4:=hd_ (B3.o.alloc B3.o.size (.cells #[.string (itx 1),.string (dec 1),.string (itx (-1)),.string (dec 1)] 101));have M4:=hd_ (Kk w3 #[.string (itx 1),.string (dec 1),.string (itx (-1)),.string (dec 1)] 101 _ rfl);generalize Fk:w3.alloc (.cells #[.string (itx 1),.string (dec 1),.string (itx (-1)),.string (dec 1)] 101)=w4 at *;clear Fk;have Hs:=hd_ (Zkl w4 _ _ a1 a2 c1 c2 ps.length D la lb 1 (-1) K4.o M4.o (HA.o.below B4.o).rl (HB.o.below B4.o).rl HA.o.len HB.o.len HA.o.sm HB.o.sm Sm.one Sm.minus Hn.o HD.o (HL.o.below B4.o));refine cm_ Hs.o ?_;rintro e w5 ⟨a5,c5,rfl,ho,hb⟩;have iq:=hd_ ho.rd;have B5:=bt_ B4 hb;clear hb ho;have S5:Hid (Qo w5 ps a0 a5 (Vx ps.length [la,lb] [1,-1]) (2*D+5)) :=
  ⟨(HA.o.below B5.o).rp,iq.o,Zc7 HA.o.len HB.o.len,Hn.o,HA.o.pr,Zd3 HA.o.sm HB.o.sm Sm.one Sm.minus,by have:=HD.o;omega⟩
 have Ht:=hd_ (Zei (c0:=c0) (c:=c5) S5.o (HL.o.below B5.o));go_wp2_with fail;refine cm_ Ht.o ?_;rintro e w6 ⟨b1,d1,b2,d2,rfl,T,hb⟩;have B6:=bt_ B5 hb;have Hg:Hid (Kc Tryz.prog 80 #[.agg (Ko b1 d1 b2 d2 (tlQ ps (Vx ps.length [la,lb] [1,-1])).length (Qn (Vx ps.length [la,lb] [1,-1])))] w6 (.int .i64 r)):=by
  rw[<- gZ.o];exact Zy1 w6 b1 b2 d1 d2 _ 101 _ T Hq.o.trt (by decide) Hq.o.lt (Hq.o.dec Hn.o) (HL.o.below B6.o)
 clear hb T;go_wp2_with fail;refine cm_ Hg.o ?_;rintro e w7 ⟨rfl,hb⟩;have B7:=bt_ B6 hb;clear hb;go_wp2_with fail;go_ret;exact⟨rfl,B7.o⟩
theorem Zqp(w:World)(ps:List Int)(a0 a1 a2:OA_)(c0 c1 c2:Nat)(la lb:List Rat)(A:Qo w ps a0 a1 la 30)(B:Qo w ps a0 a2 lb 30)(hp:Qx ps=0)(L:Qa w)
  (hq:Zl6 ps (Vx ps.length [la,lb] [1,-1])) :
  Kc Tryz.prog 24 #[.slice a0 ps.length c0,.slice a1 la.length c1,.slice a2 lb.length c2] w (.tuple #[.int .i64 (LN.sz ps (Vx ps.length [la,lb] [1,-1])),.int .i64 0]):=by
 unfold Kc;have Hc:Hid (∀ W,Bw_ w W->Kc Tryz.prog 81 #[.slice a0 ps.length c0,.slice a1 la.length c1,.slice a2 lb.length c2] W (.int .i64 (LN.sz ps (Vx ps.length [la,lb] [1,-1])))):=fun W hW =>
  Zqa W ps a0 a1 a2 c0 c1 c2 30 la lb (A.below hW) (B.below hW) (L.below hW) (by decide) hq
 have Hk:Hid (∀ W g,Bw_ w W->W.heap[g]?=some (.cells #[.slice a1 la.length c1,.slice a2 lb.length c2] 35 (0,0))->Kc Tryz.prog 20 #[.slice a0 ps.length c0,.slice (some ⟨g,0,none⟩) 2 2] W (.int .i64 0)):=fun W g hW hg =>
  Zdd W ps g a0 a1 a2 c0 c1 c2 la lb (A.below hW) (B.below hW) hp (L.below hW) hg
 clear A B hp L hq;generalize LN.sz ps (Vx ps.length [la,lb] [1,-1])=r at *;go_enter Tryz.func24,Tryz.ntmps24;go_wp2_with fail;have B1:=hd_ ((Below.refl w.heap.size w).alloc nr_ (.cells #[.slice a1 la.length c1,.slice a2 lb.length c2] 35));refine cm_ (Hk.o _ _ B1.o (Kk w _ _ _ rfl)) ?_;rintro e w1 ⟨rfl,hb⟩;have B2:=bt_ B1 hb;clear hb Hk B1;go_wp2_with fail;refine cm_ (Hc.o _ B2.o) ?_;rintro e w2 ⟨rfl,hb⟩;have B3:=bt_ B2 hb;clear hb Hc;go_wp2_with fail
 go_ret2
 exact⟨rfl,B3.o⟩
theorem Zau:∀ k,k<10->(∀ p∈Kn k,p∈Vj)/\(Kn k).Nodup:=by decide +kernel
theorem Zsu{ps:List Int}(h:∀ p∈ps,p∈Vj):∀ p∈ps,0<p:=fun p hp=>by
 have Gg:∀ q∈Vj,0<q:=by decide
 exact Gg p (h p hp)
def Sml (N M:Nat) (l:List Rat):Prop:=∀ q∈l,q.den ∣ M/\(LN.ex M q).natAbs<=N
theorem Sml.le{N K M:Nat}{l:List Rat}(h:Sml N M l)(hK:N<=K):Sml K M l:=fun q hq=>⟨(h q hq).1,Nat.le_trans (h q hq).2 hK⟩
theorem Qcf{M:Nat}{q:Rat}(z:Int)(hM:0<M)(h:q*(M:Rat)=(z:Rat)):q.den ∣ M/\LN.ex M q=z:=by
 have OQ:(M:Rat)≠0:=by have:=Rat.natCast_pos.2 hM;grind
 have e:q=mkRat z M:=by
  rw[Rat.mkRat_eq_div];have:=Rat.mul_div_cancel (a:=q) OQ
  rw[<- h];exact this.symm
 have hd:q.den ∣ M:=by
  rw[e,LN.mkRat_den' _ _ (by omega)];exact Nat.div_dvd_of_dvd (Nat.gcd_dvd_right _ _)
 refine⟨hd,?_⟩;rw[<- Rat.intCast_inj,LN.ex_eq hd,h]
theorem Sml.comb{N K M:Nat}{la lb:List Rat}(hM:0<M)(ha:Sml N M la)(hb:Sml K M lb)(f g:Int):Sml (N*f.natAbs+K*g.natAbs) M (Vr la lb (f:Rat) (g:Rat)):=by
 intro q hq;obtain⟨i,hi,rfl⟩:=List.mem_iff_getElem.1 hq;have dS:i<la.length/\i<lb.length:=by simp[Vr] at hi;omega
 simp only[Vr,List.getElem_zipWith];obtain⟨d1,n1⟩:=ha _ (List.getElem_mem dS.1);obtain⟨d2,n2⟩:=hb _ (List.getElem_mem dS.2);have h:(la[i]'dS.1*(f:Rat)+lb[i]'dS.2*(g:Rat))*(M:Rat)=((LN.ex M (la[i]'dS.1)*f+LN.ex M (lb[i]'dS.2)*g:Int):Rat):=by
  rw[Rat.intCast_add,Rat.intCast_mul,Rat.intCast_mul,LN.ex_eq d1,LN.ex_eq d2]
  grind
 obtain⟨r1,r2⟩:=Qcf _ hM h;refine⟨r1,?_⟩;rw[r2];refine Nat.le_trans (Int.natAbs_add_le _ _) ?_;rw[Int.natAbs_mul,Int.natAbs_mul];exact Nat.add_le_add (Nat.mul_le_mul_right _ n1) (Nat.mul_le_mul_right _ n2)
theorem Sml.good{N M:Nat}{ps:List Int}{l:List Rat}(hM:0<M)(h:Sml N M l)(hN:N<=Kb)(h1:∀ p∈ps,p∈Vj)(h2:ps.Nodup):Zl6 ps l:=by
 refine Zl6.small h1 h2 fun x hx=>?_
 obtain⟨_,q,hq,_,he⟩:=Zm hx;have e:x.2=LN.ex (Qn l) q:=he;obtain⟨m,hm⟩:=LN.tden_min (fun q hq=>(h q hq).1);have h3:=(h q hq).2;rw[hm,Nat.mul_comm,LN.ex_mul (LN.tden_dvd hq),Int.natAbs_mul,Int.natAbs_natCast] at h3;have ER:0<m:=by
  rcases Nat.eq_zero_or_pos m with h0|h0
  ·rw[h0,Nat.mul_zero] at hm;omega
  ·exact h0
 rw[e];have h4:1*(LN.ex (Qn l) q).natAbs<=m*(LN.ex (Qn l) q).natAbs:=Nat.mul_le_mul_right _ ER;omega
def Zao (la lb:List Rat):List Rat:=Vr la lb ((1:Int):Rat) ((-1:Int):Rat)
theorem Zlo(la lb:List Rat)(i:Nat)(h1:i<la.length)(h2:i<lb.length)(h:i<(Zao la lb).length):(Zao la lb)[i]=la[i]-lb[i]:=by
 simp only[Zao,Vr,List.getElem_zipWith]
 grind
theorem Zcr(la lb:List Rat)(h:la.length=lb.length):(Zao la lb).length=la.length:=Zbi _ _ _ _ h
theorem Zxq:∀ d,d<6->0<Zif d/\Zif d ∣ 12:=by decide
theorem Zo5:((1:Int):Rat)=1:=rfl
theorem Zmz:((-1:Int):Rat) = -1:=by decide +kernel
theorem Zax(z:Int)(d:Nat)(hd:0<d):mkRat z d*(d:Rat)=(z:Rat):=by
 rw[Rat.mkRat_eq_div];exact Rat.div_mul_cancel (by have:=Rat.natCast_pos.2 hd;grind)
theorem Znp(n:Int)(d:Nat):∃ z:Int,Zi0 n d*((12:Nat):Rat)=(z:Rat)/\z.natAbs<=480:=by
 obtain⟨h1,m,hm⟩:=Zxq (d%6) (Nat.mod_lt _ (by decide));have t1:=Int.tmod_lt_of_pos n (show (0:Int)<41 by decide);have t2:=Int.lt_tmod_of_pos n (show (0:Int)<41 by decide);refine⟨n.tmod 41*m,?_,?_⟩
 ·unfold Zi0;have e:=Zax (n.tmod 41) (Zif (d%6)) h1;rw[hm,Rat.natCast_mul,<- Rat.mul_assoc,e,Rat.intCast_mul,Rat.intCast_natCast]
 ·have eG:m<=12:=by
   have:1*m<=Zif (d%6)*m:=Nat.mul_le_mul_right _ h1
   omega
  rw[Int.natAbs_mul,Int.natAbs_natCast];exact Nat.le_trans (Nat.mul_le_mul (show (n.tmod 41).natAbs<=40 by omega) eG) (by decide)
theorem Zjs(nu:Nat->Int)(de:Nat->Nat)(m:Nat):Sml 480 12 (Zw nu de m):=by
 intro q hq;obtain⟨i,_,rfl⟩:=List.mem_map.1 hq;obtain⟨z,h,hz⟩:=Znp (nu i) (de i);obtain⟨r1,r2⟩:=Qcf z (by decide) h;exact⟨r1,by rw[r2];exact hz⟩
theorem Qgr{W:World}{ps:List Int}{a0 a1 a2:OA_}(c0 c1 c2:Nat){la lb:List Rat}(hp:Qx ps=0)(LS:∀ p∈ps,2<=p/\p<=13)(hn:ps.length<=100)(rp:Rd W a0 (Vd ps))(r1:Rd W a1 (Kj la))(r2:Rd W a2 (Kj lb))
  (l1:la.length=ps.length) (l2:lb.length=ps.length) (s1:∀ q∈la,Sm 30 q) (s2:∀ q∈lb,Sm 30 q) (g:Zl6 ps (Zao la lb)) (L:Qa W) :
  Kc Tryz.prog 24 #[.slice a0 ps.length c0,.slice a1 ps.length c1,.slice a2 ps.length c2] W (.tuple #[.int .i64 (LN.sz ps (Zao la lb)),.int .i64 0]):=by
 have e:Vx ps.length [la,lb] [1,-1]=Zao la lb:=by
  rw[Zkn _ _ _ _ _ l1 l2];unfold Zao;rw[Zo5,Zmz]
 have aQ:∀ p∈ps,2<=p/\p<=97:=fun p hp=>by have:=LS p hp;omega
 have h:=Zqp W ps a0 a1 a2 c0 c1 c2 la lb ⟨rp,r1,l1,hn,aQ,s1,by decide⟩ ⟨rp,r2,l2,hn,aQ,s2,by decide⟩ hp L (by rw[e];exact g);rw[e,l1,l2] at h;exact h
theorem Qfn{a:Nat}(h:a<=1000000000):a<=Kb:=by
 have:(1000000000:Nat)<=Kb:=by decide
 omega
structure Qbl (w:World) (s t s' t':ByteArray) (W0:World):Prop where
 fa:W0.heap[w.heap.size]?=some (.cells #[.string s,.string t] 101 (0,0))
 fb:W0.heap[w.heap.size+1]?=some (.cells #[.string s',.string t'] 101 (0,0))
 bel:Bw_ w W0
theorem Qbl.mk'(w:World)(s t s' t':ByteArray):Qbl w s t s' t' ((w.alloc (.cells #[.string s,.string t] 101)).alloc (.cells #[.string s',.string t'] 101)):=by
 have hA:=heap_alloc_new w (.cells #[.string s,.string t] 101);have hB:=heap_alloc_new (w.alloc (.cells #[.string s,.string t] 101)) (.cells #[.string s',.string t'] 101);have e1:(w.alloc (.cells #[.string s,.string t] 101)).heap.size=w.heap.size+1:=by simp
 refine⟨?_,?_,?_⟩
 ·exact Ki hA ((Below.refl _ _).alloc nr_ _)
 ·rw[e1] at hB;exact hB
 ·exact((Below.refl _ _).alloc nr_ _).alloc (by simp) _
theorem Qbl.next{w W0 W:World}{s t s' t':ByteArray}(h:Qbl w s t s' t' W0)(hb:Bw_ W0 W):Qbl w s t s' t' W :=
 ⟨Ki h.fa hb,Ki h.fb hb,h.bel.trans (hb.mono h.bel.size)⟩
theorem Qa8{n m:Int}{d:Nat}(h:0<d):Ze5 (n*d) (m*d)=Ze5 n m:=by
 have h':(0:Int)<d:=by omega
 unfold Ze5;have e1:n*(d:Int)<m*d↔n<m:=Int.mul_lt_mul_right h';have e2:n*(d:Int)=m*d↔n=m:=⟨fun h1=>Int.eq_of_mul_eq_mul_right (by omega) h1,fun h1=>by rw[h1]⟩
 by_cases h1:n<m
 ·rw[if_pos h1,if_pos (e1.2 h1)]
 ·rw[if_neg h1,if_neg (fun h=>h1 (e1.1 h))]
  by_cases h2:n=m
  ·rw[if_pos h2,if_pos (e2.2 h2)]
  ·rw[if_neg h2,if_neg (fun h=>h2 (e2.1 h))]
theorem Qcg{d e:Nat}(h:d≠e):((dec d).toList==(dec e).toList)=false:=by
 rw[beq_eq_false_iff_ne];intro h1;refine h (Zp8 ?_);rw[<- Yo,<- Yo];rw[<- Ya,<- Ya];exact h1
theorem Znz(w:World)(n m:Int)(d e:Nat)(hn:Zbu n)(hm:Zbu m)(hd:Num d)(he:Num e)(fh:0<d)
  (gh:Num (n*e).natAbs) (bz:Num (m*d).natAbs) (L:Qa w) :
  Kc Tryz.prog 261 #[fv n d,fv m e] w (.int .i64 (Ze5 (n*e) (m*d))):=by
 have H3:=hd_ (Qbl.mk' w (itx n) (dec d) (itx m) (dec e));have HL:=hd_ (L.below H3.o.bel);clear L;obtain⟨v,hv⟩:∃ v,Ze5 (n*e) (m*d)=v:=⟨_,rfl⟩;have Hv:=hd_ hv;rw[hv];unfold Kc;have GW:Hid (∀ W,Below ((w.alloc (.cells #[.string (itx n),.string (dec d)] 101)).alloc (.cells #[.string (itx m),.string (dec e)] 101)).heap.size ((w.alloc (.cells #[.string (itx n),.string (dec d)] 101)).alloc (.cells #[.string (itx m),.string (dec e)] 101)) W->∀ d' os,Calls Tryz.prog 14 #[.string (itx n),.string (dec e)] (Go.Sort.grow (redrawn W d') os) fun e' w'=>e' = .returned (.string (itx (n*e)))/\∃ p:Regrown,w'=Go.Sort.grow (redrawn W p.d) p.os):=fun W hW d' os=>by
  have:=Yu (Go.Sort.grow (redrawn W d') os) n (e:Int) hn (show Num _ from he) gh ((HL.o.below hW).below (below_regrown W d' os))
  rw[Kg] at this;exact Calls.regrown_of this
 have GR:Hid (∀ W,Below ((w.alloc (.cells #[.string (itx n),.string (dec d)] 101)).alloc (.cells #[.string (itx m),.string (dec e)] 101)).heap.size ((w.alloc (.cells #[.string (itx n),.string (dec d)] 101)).alloc (.cells #[.string (itx m),.string (dec e)] 101)) W->∀ d' os,Calls Tryz.prog 14 #[.string (itx m),.string (dec d)] (Go.Sort.grow (redrawn W d') os) fun e' w'=>e' = .returned (.string (itx (m*d)))/\∃ p:Regrown,w'=Go.Sort.grow (redrawn W p.d) p.os):=fun W hW d' os=>by
  have:=Yu (Go.Sort.grow (redrawn W d') os) m (d:Int) hm (show Num _ from hd) bz ((HL.o.below hW).below (below_regrown W d' os))
  rw[Kg] at this;exact Calls.regrown_of this
 have Fa:Hid (∀ W d' os,Calls Tryz.prog 17 #[.string (itx (n*e)),.string (itx (m*d))] (Go.Sort.grow (redrawn W d') os) fun e' w'=>e' = .returned (.int .i64 v)/\∃ p:Regrown,w'=Go.Sort.grow (redrawn W p.d) p.os):=fun W d' os=>by
  have:=Zdc (Go.Sort.grow (redrawn W d') os) (n*e) (m*d) gh bz
  rw[hv] at this;exact Calls.regrown_of this
 have Ea:Hid (d=e->∀ W,Kc Tryz.prog 17 #[.string (itx n),.string (itx m)] W (.int .i64 v)):=fun h W=>by
  have:=Zdc W n m hn hm
  rw[<- Qa8 fh,show ((d:Nat):Int)=d from rfl] at this;subst h;rw[hv] at this;exact this
 clear hv
 by_cases h1:(itx n).size<=9/\(dec d).size<=9
 ·have gD:=hd_ (Zg n d hn hd h1)
  by_cases h2:(itx m).size<=9/\(dec e).size<=9
  ·have gP:=hd_ (Zg m e hm he h2);have q1:=Yy n 9 (by decide) h1.1;have q2:=Yy m 9 (by decide) h2.1;have q3:=(Kv d 9 (by decide)).1 (by rw[<- Kw];exact h1.2);have q4:=(Kv e 9 (by decide)).1 (by rw[<- Kw];exact h2.2);have q5:(n*e).natAbs<=1000000000*1000000000:=by rw[Int.natAbs_mul];exact Nat.mul_le_mul (by omega) (by omega)
   have q7:(m*d).natAbs<=1000000000*1000000000:=by rw[Int.natAbs_mul];exact Nat.mul_le_mul (by omega) (by omega)
   have fg:IntKind.i64.wrap (n*e)=n*e:=iw_ _ (by omega);have Da:IntKind.i64.wrap (m*d)=m*d:=iw_ _ (by omega);have Gj:n*e<m*d->v = -1:=fun h=>by rw[<- Hv.o];unfold Ze5;rw[if_pos h]
   have ep:m*d<n*e->v=1:=fun h=>by rw[<- Hv.o];unfold Ze5;rw[if_neg (by omega),if_neg (by omega)]
   have Ed:n*e=m*d->v=0:=fun h=>by rw[<- Hv.o];unfold Ze5;rw[if_neg (by omega),if_pos h]
   unfold fv at gD gP ⊢;have DA:=hd_ Gj;have jy:=hd_ ep;have je:=hd_ Ed;clear GW GR Fa Ea q1 q2 q3 q4 q5 q7 h1 h2 gh bz Gj ep Ed Hv;go_enter Tryz.func261,Tryz.ntmps261;obtain⟨k0,k1,-,-⟩:=Ka H3.o.fa;obtain⟨k2,k3,-,-⟩:=Ka H3.o.fb;go_wp2_with fail;generalize (w.alloc (.cells #[.string (itx n),.string (dec d)] 101)).alloc (.cells #[.string (itx m),.string (dec e)] 101)=W0 at *;clear k0 k1 k2 k3;refine cm_ (gD.o _) ?_;rintro e_ w1 ⟨rfl,hZ⟩;have H6:=hd_ hZ;clear hZ gD;obtain⟨k0,k1,-,-⟩:=Ka (H3.o.next H6.o).fa;obtain⟨k2,k3,-,-⟩:=Ka (H3.o.next H6.o).fb;go_wp2_with fail;clear k0 k1 k2 k3;refine cm_ (gP.o _) ?_;rintro e_ w2 ⟨rfl,HU⟩;have H9:=bt_ H6 HU;clear HU H6 gP;have B5:=hd_ (H3.o.bel.trans (H9.o.mono H3.o.bel.size))
   by_cases c1:n*(e:Int)<m*(d:Int)
   ·go_wp2_with fail;go_ret;exact⟨by rw[DA.o c1];rfl,B5.o⟩
   ·by_cases c2:m*(d:Int)<n*(e:Int)
    ·go_wp2_with fail;go_ret;exact⟨by rw[jy.o c2];rfl,B5.o⟩
    ·go_wp2_with fail;go_ret;exact⟨by rw[je.o (by omega)];rfl,B5.o⟩
  ·obtain⟨x,y,Gb⟩:=Zh m e hm he h2;have gP:=hd_ Gb;unfold fv at gD gP ⊢;clear h1 h2 Gb gh bz;go_enter Tryz.func261,Tryz.ntmps261;obtain⟨k0,k1,-,-⟩:=Ka H3.o.fa;obtain⟨k2,k3,-,-⟩:=Ka H3.o.fb;go_wp2_with fail;generalize (w.alloc (.cells #[.string (itx n),.string (dec d)] 101)).alloc (.cells #[.string (itx m),.string (dec e)] 101)=W0 at *;clear k0 k1 k2 k3;refine cm_ (gD.o _) ?_;rintro e_ w1 ⟨rfl,hZ⟩;have H6:=hd_ hZ;clear hZ gD;obtain⟨k0,k1,-,-⟩:=Ka (H3.o.next H6.o).fa;obtain⟨k2,k3,-,-⟩:=Ka (H3.o.next H6.o).fb;go_wp2_with fail;clear k0 k1 k2 k3;refine cm_ (gP.o _) ?_;rintro e_ w2 ⟨rfl,HU⟩;have H9:=bt_ H6 HU;clear HU H6 gP
   by_cases Fx:d=e
   ·have Hq:=hd_ (Ea.o Fx);obtain⟨k0,k1,-,-⟩:=Ka (H3.o.next H9.o).fa;obtain⟨k2,k3,-,-⟩:=Ka (H3.o.next H9.o).fb;subst Fx;clear GW GR Fa Ea;go_wp2_with fail;clear k0 k1 k2 k3;refine cm_ (Hq.o _) ?_;rintro e_ w5 ⟨rfl,hb_⟩;have B5:=hd_ (H3.o.bel.trans ((bu_ H9 hb_).mono H3.o.bel.size));clear hb_ Hq;go_wp2_with fail;go_ret;exact⟨rfl,B5.o⟩
   ·have hq:=Qcg Fx;obtain⟨k0,k1,-,-⟩:=Ka (H3.o.next H9.o).fa;obtain⟨k2,k3,-,-⟩:=Ka (H3.o.next H9.o).fb;have q0:=cell_regrown k0;have q1:=cell_regrown k1;have q2:=cell_regrown k2;have q3:=cell_regrown k3;have gW:=GW.o w2 H9.o;have Ga:=GR.o w2 H9.o;have Gx:=Fa.o w2;clear GW GR Fa Ea Fx;go_wp2_with fail;clear k0 k1 k2 k3;refine wp_region_quiet_below (by kernel_rfl) (by kernel_rfl) ?_
    repeat (first | go_big_quiet_step (first | with_reducible exact gW _ _ | with_reducible exact Ga _ _ | with_reducible exact Gx _ _) | quiet_step (first | with_reducible exact gW _ _ | with_reducible exact Ga _ _ | with_reducible exact Gx _ _))
    refine wq_ ?_;intro w8 FR;obtain⟨⟨dq,osq⟩,rfl⟩:=FR;have B5:=hd_ (H3.o.bel.trans ((H9.o.trans ((below_regrown w2 dq osq).mono H9.o.size)).mono H3.o.bel.size));generalize Go.Sort.grow (redrawn w2 dq) osq=w8 at *;clear gW Ga Gx q0 q1 q2 q3;go_wp2;go_ret;exact⟨rfl,B5.o⟩
 ·obtain⟨x,y,gG⟩:=Zh n d hn hd h1;have gD:=hd_ gG;unfold fv at gD ⊢;clear h1 gG gh bz;go_enter Tryz.func261,Tryz.ntmps261;obtain⟨k0,k1,-,-⟩:=Ka H3.o.fa;obtain⟨k2,k3,-,-⟩:=Ka H3.o.fb;go_wp2_with fail;generalize (w.alloc (.cells #[.string (itx n),.string (dec d)] 101)).alloc (.cells #[.string (itx m),.string (dec e)] 101)=W0 at *;clear k0 k1 k2 k3;refine cm_ (gD.o _) ?_;rintro e_ w1 ⟨rfl,hZ⟩;have H6:=hd_ hZ;clear hZ gD
  by_cases Fx:d=e
  ·have Hq:=hd_ (Ea.o Fx);obtain⟨k0,k1,-,-⟩:=Ka (H3.o.next H6.o).fa;obtain⟨k2,k3,-,-⟩:=Ka (H3.o.next H6.o).fb;subst Fx;clear GW GR Fa Ea;go_wp2_with fail;clear k0 k1 k2 k3;refine cm_ (Hq.o _) ?_;rintro e_ w5 ⟨rfl,hb_⟩;have B5:=hd_ (H3.o.bel.trans ((bu_ H6 hb_).mono H3.o.bel.size));clear hb_ Hq;go_wp2_with fail;go_ret;exact⟨rfl,B5.o⟩
  ·have hq:=Qcg Fx;obtain⟨k0,k1,-,-⟩:=Ka (H3.o.next H6.o).fa;obtain⟨k2,k3,-,-⟩:=Ka (H3.o.next H6.o).fb;have q0:=cell_regrown k0;have q1:=cell_regrown k1;have q2:=cell_regrown k2;have q3:=cell_regrown k3;have gW:=GW.o w1 H6.o;have Ga:=GR.o w1 H6.o;have Gx:=Fa.o w1;clear GW GR Fa Ea Fx;go_wp2_with fail;clear k0 k1 k2 k3;refine wp_region_quiet_below (by kernel_rfl) (by kernel_rfl) ?_
   repeat (first | go_big_quiet_step (first | with_reducible exact gW _ _ | with_reducible exact Ga _ _ | with_reducible exact Gx _ _) | quiet_step (first | with_reducible exact gW _ _ | with_reducible exact Ga _ _ | with_reducible exact Gx _ _))
   refine wq_ ?_;intro w8 FR;obtain⟨⟨dq,osq⟩,rfl⟩:=FR;have B5:=hd_ (H3.o.bel.trans ((H6.o.trans ((below_regrown w1 dq osq).mono H6.o.size)).mono H3.o.bel.size));generalize Go.Sort.grow (redrawn w1 dq) osq=w8 at *;clear gW Ga Gx q0 q1 q2 q3;go_wp2;go_ret;exact⟨rfl,B5.o⟩
def Zix (a b:Rat):Rat:=if b<a then b else a
def Ziy (a b:Rat):Rat:=if a<b then b else a
theorem Zr6(w:World)(a b:Rat)(D E:Nat)(ha:Sm D a)(hb:Sm E b)(h6:D+E+2<=1000000)(L:Qa w):
  Kc Tryz.prog 261 #[fr a,fr b] w (.int .i64 (Ze5 (a.num*b.den) (b.num*a.den))):=by
 have p1:=ha.pos;have p2:=hb.pos;have h1:(a.num*(b.den:Int)).natAbs<10^(D+E):=by rw[Int.natAbs_mul,Int.natAbs_natCast];exact Qh ha.1 hb.2
 have h2:(b.num*(a.den:Int)).natAbs<10^(D+E):=by rw[Int.natAbs_mul,Int.natAbs_natCast,Nat.add_comm];exact Qh hb.1 ha.2
 exact Znz w a.num b.num a.den b.den (Kr ha.1 p1 (by omega)) (Kr hb.1 p2 (by omega)) (Kr ha.2 p1 (by omega)) (Kr hb.2 p2 (by omega)) a.den_pos
  (Kr h1 (by omega) (by omega)) (Kr h2 (by omega) (by omega)) L
theorem Qb4(a b:Rat):a<b↔a.num*b.den<b.num*a.den:=Rat.lt_iff a b
theorem Zxt(a b:Rat):(Ze5 (a.num*b.den) (b.num*a.den)<0↔a<b)/\(0<Ze5 (a.num*b.den) (b.num*a.den)↔b<a):=by
 rw[Qb4,Qb4];unfold Ze5;split
 ·constructor<;>omega
 ·split
  ·constructor<;>omega
  ·constructor<;>omega
theorem Zk5(w:World)(a b:Rat)(D E:Nat)(ha:Sm D a)(hb:Sm E b)(h6:D+E+2<=1000000)(L:Qa w):
  Kc Tryz.prog 208 #[fr a,fr b] w (fr (Zix a b)):=by
 obtain⟨v,hv⟩:∃ v,Ze5 (b.num*a.den) (a.num*b.den)=v:=⟨_,rfl⟩;have H3:=hd_ (Zi4.mk' w (itx a.num) (dec a.den) (itx b.num) (dec b.den));have HC:=hd_ (fun W hW=>Zr6 W b a E D hb ha (by omega) (L.below (H3.o.next (W:=W) hW).bel));rw[hv] at HC;have H7:=(Zxt b a).1;rw[hv] at H7;have eM:Hid (Zix a b=if v<0 then b else a):=by
  show _=_
  unfold Zix
  by_cases h:v<0
  ·rw[if_pos h,if_pos (H7.1 h)]
  ·rw[if_neg h,if_neg fun hc=>h (H7.2 hc)]
 clear hv H7 L ha hb h6;unfold Kc;unfold fr fv at HC ⊢;go_enter Tryz.func208,Tryz.ntmps208;obtain⟨k0,k1,-,-⟩:=Ka H3.o.fa;obtain⟨k2,k3,-,-⟩:=Ka H3.o.fb;go_wp2_with fail;generalize ((w.alloc (.cells #[.string (itx a.num),.string (dec a.den)] 101)).alloc (.cells #[.string (itx b.num),.string (dec b.den)] 101)).alloc (.cells #[.string ⟨#[]⟩,.string ⟨#[]⟩] 101)=W0 at *;clear k0 k1 k2 k3;refine cm_ (HC.o _ (Below.refl _ _)) ?_;rintro e w1 ⟨rfl,hZ⟩;have H4:=hd_ (H3.o.next hZ);clear hZ HC H3;obtain⟨k0,k1,-,-⟩:=Ka H4.o.fa;obtain⟨k2,k3,-,-⟩:=Ka H4.o.fb;obtain⟨k4,k5,f4,f5⟩:=Ka H4.o.fr;have gO:=hd_ H4.o.bel;clear H4
 by_cases c1:v<0
 ·have hm:Zix a b=b:=by rw[eM.o,if_pos c1]
  have Hm:=hd_ hm;clear hm eM;go_wp2;obtain⟨c0,c1,hb3⟩:=Kl (B:=w.heap.size) (.string (itx b.num)) (.string (dec b.den)) k4 k5 (by omega) gO.o;generalize (w1.setCell ⟨w.heap.size+1+1,0,none⟩ (.string (itx b.num))).setCell ⟨w.heap.size+1+1,1,none⟩ (.string (dec b.den))=w9 at *;exact bodyPost_ret (v := .agg #[.string (itx b.num),.string (dec b.den)]) (by simp[results,Tryz.results208,go_sem,c0,c1]) rfl ⟨by rw[Hm.o],hb3⟩
 ·have hm:Zix a b=a:=by rw[eM.o,if_neg c1]
  have Hm:=hd_ hm;clear hm eM;go_wp2;obtain⟨c0,c1,hb3⟩:=Kl (B:=w.heap.size) (.string (itx a.num)) (.string (dec a.den)) k4 k5 (by omega) gO.o;generalize (w1.setCell ⟨w.heap.size+1+1,0,none⟩ (.string (itx a.num))).setCell ⟨w.heap.size+1+1,1,none⟩ (.string (dec a.den))=w9 at *;exact bodyPost_ret (v := .agg #[.string (itx a.num),.string (dec a.den)]) (by simp[results,Tryz.results208,go_sem,c0,c1]) rfl ⟨by rw[Hm.o],hb3⟩
theorem Zk6(w:World)(a b:Rat)(D E:Nat)(ha:Sm D a)(hb:Sm E b)(h6:D+E+2<=1000000)(L:Qa w):
  Kc Tryz.prog 209 #[fr a,fr b] w (fr (Ziy a b)):=by
 obtain⟨v,hv⟩:∃ v,Ze5 (b.num*a.den) (a.num*b.den)=v:=⟨_,rfl⟩;have H3:=hd_ (Zi4.mk' w (itx a.num) (dec a.den) (itx b.num) (dec b.den));have HC:=hd_ (fun W hW=>Zr6 W b a E D hb ha (by omega) (L.below (H3.o.next (W:=W) hW).bel));rw[hv] at HC;have H7:=(Zxt b a).2;rw[hv] at H7;have eM:Hid (Ziy a b=if 0<v then b else a):=by
  show _=_
  unfold Ziy
  by_cases h:0<v
  ·rw[if_pos h,if_pos (H7.1 h)]
  ·rw[if_neg h,if_neg fun hc=>h (H7.2 hc)]
 clear hv H7 L ha hb h6;unfold Kc;unfold fr fv at HC ⊢;go_enter Tryz.func209,Tryz.ntmps209;obtain⟨k0,k1,-,-⟩:=Ka H3.o.fa;obtain⟨k2,k3,-,-⟩:=Ka H3.o.fb;go_wp2_with fail;generalize ((w.alloc (.cells #[.string (itx a.num),.string (dec a.den)] 101)).alloc (.cells #[.string (itx b.num),.string (dec b.den)] 101)).alloc (.cells #[.string ⟨#[]⟩,.string ⟨#[]⟩] 101)=W0 at *;clear k0 k1 k2 k3;refine cm_ (HC.o _ (Below.refl _ _)) ?_;rintro e w1 ⟨rfl,hZ⟩;have H4:=hd_ (H3.o.next hZ);clear hZ HC H3;obtain⟨k0,k1,-,-⟩:=Ka H4.o.fa;obtain⟨k2,k3,-,-⟩:=Ka H4.o.fb;obtain⟨k4,k5,f4,f5⟩:=Ka H4.o.fr;have gO:=hd_ H4.o.bel;clear H4
 by_cases c1:0<v
 ·have hm:Ziy a b=b:=by rw[eM.o,if_pos c1]
  have Hm:=hd_ hm;clear hm eM;go_wp2;obtain⟨c0,c1,hb3⟩:=Kl (B:=w.heap.size) (.string (itx b.num)) (.string (dec b.den)) k4 k5 (by omega) gO.o;generalize (w1.setCell ⟨w.heap.size+1+1,0,none⟩ (.string (itx b.num))).setCell ⟨w.heap.size+1+1,1,none⟩ (.string (dec b.den))=w9 at *;exact bodyPost_ret (v := .agg #[.string (itx b.num),.string (dec b.den)]) (by simp[results,Tryz.results209,go_sem,c0,c1]) rfl ⟨by rw[Hm.o],hb3⟩
 ·have hm:Ziy a b=a:=by rw[eM.o,if_neg c1]
  have Hm:=hd_ hm;clear hm eM;go_wp2;obtain⟨c0,c1,hb3⟩:=Kl (B:=w.heap.size) (.string (itx a.num)) (.string (dec a.den)) k4 k5 (by omega) gO.o;generalize (w1.setCell ⟨w.heap.size+1+1,0,none⟩ (.string (itx a.num))).setCell ⟨w.heap.size+1+1,1,none⟩ (.string (dec a.den))=w9 at *;exact bodyPost_ret (v := .agg #[.string (itx a.num),.string (dec a.den)]) (by simp[results,Tryz.results209,go_sem,c0,c1]) rfl ⟨by rw[Hm.o],hb3⟩
def Ztg (a:Rat):Int:=(a+1/2).floor
theorem Zw6:Sm 1 (1/2:Rat):=⟨by decide +kernel,by decide +kernel⟩
theorem Qd3:fr (1/2:Rat) = .agg #[.string ⟨#[49]⟩,.string ⟨#[50]⟩]:=by
 have h1:(1/2:Rat).num=1:=by decide +kernel
 have h2:(1/2:Rat).den=2:=by decide +kernel
 unfold fr fv;rw[h1,h2,show itx 1=dec 1 from Kg 1,Zt,Zlp]
theorem Zzq(w:World)(a:Rat)(D:Nat)(ha:Sm D a)(h6:D+5<=1000000)(L:Qa w):
  Kc Tryz.prog 249 #[fr a] w (.string (itx (Ztg a))):=by
 have gm:=hd_ ((Below.refl w.heap.size w).alloc nr_ (.cells #[.string (itx a.num),.string (dec a.den)] 101));have ge:Hid ((w.alloc (.cells #[.string (itx a.num),.string (dec a.den)] 101)).heap[w.heap.size]?=some (.cells #[.string (itx a.num),.string (dec a.den)] 101 (0,0))):=heap_alloc_new w _;have HA:=hd_ (Zyj (w.alloc (.cells #[.string (itx a.num),.string (dec a.den)] 101)) a (1/2) D 1 ha Zw6 (by omega) (L.below gm.o));rw[Qd3] at HA;have HF:=hd_ (fun W (hW:Bw_ w W)=>Qgk W (a+1/2) (D+1+1) (ha.add Zw6) (by omega) (L.below hW));clear L ha h6;unfold Kc;unfold Ztg;generalize a+1/2=s at *;unfold fr fv at HA HF ⊢;go_enter Tryz.func249,Tryz.ntmps249;obtain⟨k0,k1,-,-⟩:=Ka ge.o;go_wp2_with fail;generalize w.alloc (.cells #[.string (itx a.num),.string (dec a.den)] 101)=W0 at *;clear k0 k1;refine cm_ HA.o ?_;rintro e w1 ⟨rfl,hZ⟩;have B1:=bt_ gm hZ;clear hZ HA;go_wp2_with fail;refine cm_ (HF.o _ B1.o) ?_;rintro e w2 ⟨rfl,HU⟩;have B2:=bt_ B1 HU;clear HU HF;go_wp2_with fail;go_ret;exact⟨rfl,B2.o⟩
end Go.Proofs.YtbielfplgbammaaGreatDoor
