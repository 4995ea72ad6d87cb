/- Lemmas for the laws of this seat, part 6. -/
import Derived.Test.YtbielfplgbammaaGreatDoorCards
import Derived.Test.YtbielfplgbammaaGreatDoorTie
import Derived.SevenTiedAt
import Derived.Test.YtbielfplgbammaaGreatDoorTd5
set_option maxRecDepth 100000
set_option maxHeartbeats 16000000
namespace Go.Proofs.YtbielfplgbammaaGreatDoor
open Go.RowKit
def Zd5 (k:Nat) (a b:Rat):Bool:=(itx (scE k a)).toList==(itx (scE k b)).toList
theorem Zqe(w:World)(a b:Rat)(D k g:Nat)(ha:Sm D a)(hb:Sm D b)(hD:D<=900000)(hk:k<=9)(hg:w.cell? ⟨g,0,none⟩=some (.int .i64 k))(L:Qa w):
  Kc Tryz.prog 187 #[fr a,fr b,.pointer (some ⟨g,0,none⟩)] w (.bool (Zd5 k a b)):=by
 have H3:=hd_ (Qbl.mk' w (itx a.num) (dec a.den) (itx b.num) (dec b.den));have Ha:=hd_ (fun W (hW:Bw_ w W)=>Zhi W a D k ha hD hk (L.below hW));have Hb:=hd_ (fun W (hW:Bw_ w W)=>Zhi W b D k hb hD hk (L.below hW));have Hv:Hid (Zd5 k a b=((itx (scE k a)).toList==(itx (scE k b)).toList)):=rfl;have Dm:=block_lt_of_cell hg;have Hg:=hd_ hg;clear ha hb hD L hg;generalize Zd5 k a b=v at *;generalize itx (scE k a)=sa at *;generalize itx (scE k b)=sb at *;unfold Kc;unfold fr fv at Ha Hb ⊢;go_enter Tryz.func187,Tryz.ntmps187;go_wp2_with fail;generalize (w.alloc (.cells #[.string (itx a.num),.string (dec a.den)] 101)).alloc (.cells #[.string (itx b.num),.string (dec b.den)] 101)=W0 at *;have fP:W0.cell? ⟨g,0,none⟩=some (.int .i64 k):=(H3.o.bel.cell (p:=⟨g,0,none⟩) Dm).trans Hg.o;obtain⟨k0,k1,-,-⟩:=Ka H3.o.fa;obtain⟨k2,k3,-,-⟩:=Ka H3.o.fb;have q0:=NW.cell k0;have q1:=NW.cell k1;have q2:=NW.cell k2;have q3:=NW.cell k3;have q4:=NW.cell fP;have gn:Nonempty (NW W0):=⟨⟨W0,Below.refl _ _⟩⟩;have I:Hid (Bw_ W0 W0.drew):=(Below.refl _ _).drew;clear k0 k1 k2 k3 fP;refine wn_ 5 [(1,0),(1,1),(1,3),(1,4),(0,2),(0,5),(2,6),(2,7)] I ?_;iterate 4 (refine wr_ rfl ?_;go_big_quiet_step (fail);refine wq_ ?_)
 clear gn q0 q1 q2 q3 q4;refine wm_ rfl ?_;go_wp2_with fail;refine cm_ (Ha.o _ (H3.o.bel.trans (I.o.mono H3.o.bel.size))) ?_;rintro e w1 ⟨rfl,hbx⟩;have I1:Hid (Bw_ W0 w1):=I.o.trans (hbx.mono I.o.size);clear hbx I Ha;go_wp2_with fail;refine⟨⟨⟨_,I1.o⟩,rfl⟩,?_⟩;refine wm_ rfl ?_;go_wp2_with fail;refine cm_ (Hb.o _ (H3.o.bel.trans (I1.o.mono H3.o.bel.size))) ?_;rintro e w2 ⟨rfl,hbx⟩;have I2:Hid (Bw_ w w2):=H3.o.bel.trans ((bu_ I1 hbx).mono H3.o.bel.size);clear hbx I1 Hb;go_wp2_with fail;iterate 2 (refine wa_ rfl ?_;go_big_quiet_step (fail);refine wq_ ?_)
 simp only[RP.walkR];go_wp2_with fail;go_ret;exact⟨by rw[Hv.o];rfl,I2.o⟩
def Qim (w w':World) (ps:List Int) (l:List Rat) (k:Nat) (e:Ending):Prop :=
 ∃ n:Nat,e = .returned (.tuple #[.int .i64 n,.string (itx (scE k (loE n ps l))),.int .i64 0])/\Zbk (fun b=>Zd5 k (loE b ps l) (hiE b ps l)) n/\Bw_ w w'
theorem Zt9(w:World)(a0 a1:OA_)(c0 c1 D k:Nat)(ps:List Int)(l:List Rat)(rp:Rd w a0 (Vd ps))(rl:Rd w a1 (Kj l))(hi:Zi6 ps)(hl:l.length=ps.length)(hn:ps.length<=100)(hp:∀ p∈ps,∃ q:Nat,p=q/\(q=2\/q∈Zba))(hs:∀ q∈l,Sm D q)(hD:D<=30)
  (GD:Qx ps=0) (hk:k<=9) (G':Zd5 k (loE 1000 ps l) (hiE 1000 ps l)=true) (L:Qa w) :
  Calls Tryz.prog 109 #[.slice a0 ps.length c0,.slice a1 ps.length c1,.int .i64 k] w fun e w'=>Qim w w' ps l k e:=by
 have B0:=hd_ ((Below.refl w.heap.size w).alloc nr_ (.cells #[.int .i64 k] 3));have N0:Hid ((w.alloc (.cells #[.int .i64 k] 3)).cell? ⟨w.heap.size,0,none⟩=some (.int .i64 k)):=cell_of_row _ _ 0 _ 3 (0,0) (heap_alloc_new w _);have FL:=hd_ (Zdp _ a0 a1 c0 c1 ps l (rp.below B0.o nr_) (rl.below B0.o nr_) hi hl hn (fun q hq=>(hs q hq).le hD) GD (L.below B0.o));have GM:∀ b,b<=1000->Sm 100000 (loE b ps l)/\Sm 100000 (hiE b ps l):=fun b hb=>by
  have h:=Zpw (show b<=1056 by omega) hp hl hs ps.length nr_;rw[List.take_length,List.take_of_length_le (by omega)] at h;have HU:1+ps.length*(D+356)<=100000:=by
   have:ps.length*(D+356)<=100*386:=Nat.mul_le_mul hn (by omega)
   omega
  exact⟨h.1.le HU,h.2.le HU⟩
 have dy:=hd_ (fun W (hW:Bw_ w W) (hc:W.cell? ⟨w.heap.size,0,none⟩=some (.int .i64 k))=>Znk W ps l a0 a1 c0 c1 D (rp.below hW nr_) (rl.below hW nr_) hl hn hp hs (by omega) 187 #[.pointer (some ⟨w.heap.size,0,none⟩)] (Zli Tryz.func187 (by kernel_rfl) rfl) (fun b=>Zd5 k (loE b ps l) (hiE b ps l)) (fun W' JF b hb =>
  Zqe W' (loE b ps l) (hiE b ps l) 100000 k w.heap.size (GM b hb).1 (GM b hb).2 (by decide) hk ((JF.cell (block_lt_of_cell hc)).trans hc) (L.below (bv_ hW JF))) G' (L.below hW))
 have eT:=hd_ (fun W (hW:Bw_ w W) R B b (H:Zod W R ps l B) (hb:b<=B) (hB:B<=1000)=>Zcb W R ps l B b D H hl hn hp hs (by omega) hb hB (L.below hW));have Ma:=hd_ (fun W (hW:Bw_ w W) b (hb:b<=1000)=>Zhi W (loE b ps l) 100000 k (GM b hb).1 (by decide) hk (L.below hW));clear rp rl hs hp GD L hi G' GM;unfold fr fv at eT Ma;obtain⟨n,Fw⟩:∃ n,ps.length=n:=⟨_,rfl⟩;rw[Fw] at hn FL dy ⊢;clear Fw hl;go_enter Tryz.func109,Tryz.ntmps109;go_wp2_with fail;generalize w.alloc (.cells #[.int .i64 k] 3)=W0 at *;refine cm_ FL.o ?_;rintro e w1 ⟨rfl,hb⟩;have B1:=bt_ B0 hb;have nX:=(hb.cell (block_lt_of_cell N0.o)).trans N0.o;have N1:=hd_ nX;have dR:¬ ((k:Int)<0):=by omega
 have Ij:¬ (9<(k:Int)):=by omega
 clear hb FL N0 B0;go_wp2_with fail;refine cm_ (dy.o _ B1.o N1.o) ?_;rintro e w2 ⟨R,B,m,rfl,hg,hm,hB,hN,hb⟩;have B2:=bt_ B1 hb;have nW:=(hb.cell (block_lt_of_cell N1.o)).trans N1.o;have N2:=hd_ nW;have HG:=hd_ hg;have HN:=hd_ hN;clear hb dy B1 hg hN nX N1 nW;go_wp2_with fail;refine cm_ (eT.o _ B2.o R B m HG.o hm hB) ?_;rintro e w3 ⟨rfl,hb⟩;have B3:=bt_ B2 hb;have LX:=(hb.cell (block_lt_of_cell N2.o)).trans N2.o;have N3:=hd_ LX;have cz:=Lib.cell?_alloc_some (.cells #[.string (itx (hiE m ps l).num),.string (dec (hiE m ps l).den)] 101) (Lib.cell?_alloc_some (.cells #[.string (itx (loE m ps l).num),.string (dec (loE m ps l).den)] 101) LX);have B4:=hd_ ((B3.o.alloc B3.o.size (.cells #[.string (itx (loE m ps l).num),.string (dec (loE m ps l).den)] 101)).alloc (Nat.le_trans B3.o.size (by simp)) (.cells #[.string (itx (hiE m ps l).num),.string (dec (hiE m ps l).den)] 101));clear hb eT B2 HG N2 LX;go_wp2_with fail;refine cm_ (Ma.o _ B4.o m (by omega)) ?_;rintro e w4 ⟨rfl,hb⟩;have B5:=bt_ B4 hb;clear hb Ma B4 B3 N3 cz;go_wp2_with fail
 go_ret3
 exact⟨m,rfl,HN.o,B5.o⟩
theorem Zxy(w:World)(a1 a2:OA_)(c1 c2 n1 n2 k N:Nat)(hN:0<N)(hk:0<k)(Ij:k<=9)(hs:k<(dec N).size)(G5:(dec N).size<=1000000)(hc:Calls Tryz.prog 109 #[.slice a1 n1 c1,.slice a2 n2 c2,.int .i64 k] w fun e w'=>(∃ m:Int,e = .returned (.tuple #[.int .i64 m,.string (dec N),.int .i64 0]))/\Bw_ w w'):
  Kc Tryz.prog 44 #[.slice a1 n1 c1,.slice a2 n2 c2,.int .i64 k] w (.tuple #[.string ((dec N).extract 0 ((dec N).size-k)++⟨#[46]⟩++(dec N).extract ((dec N).size-k) (dec N).size),.int .i64 0]):=by
 unfold Kc;have HC:=hd_ hc;have HA:=hd_ (fun W=>show Kc Tryz.prog 110 #[.string (dec N)] W (.string (dec N)) from by
  have:=Zfw W (N:Int)
  rw[Kg,Int.natAbs_natCast] at this;exact this)
 have HS:=hd_ (fun W=>show Kc Tryz.prog 59 #[.string (dec N)] W (.int .i64 1) from by
  have:=Yl W (N:Int)
  rw[Kg,Zgk hN] at this;exact this)
 clear hc hN;generalize dec N=s at *;obtain⟨z,hz⟩:∃ z,s.size=z:=⟨_,rfl⟩;have Hz:=hd_ hz;rw[hz] at hs G5;clear hz;go_enter Tryz.func44,Tryz.ntmps44;go_wp2_with fail;refine cm_ HC.o ?_;rintro e w1 ⟨⟨m,rfl⟩,hb⟩;have B1:=hd_ hb;clear hb HC;go_wp2_with fail;refine cm_ (HA.o _) ?_;rintro e w2 ⟨rfl,hb⟩;have B2:=bt_ B1 hb;clear hb HA B1;have hz:=Hz.o;have Gu:¬ ((s.size:Int)<=k):=by rw[hz];omega
 have dR:(0:Int)<k:=by omega
 have hw:IntKind.i64.wrap ((s.size:Int)-k)=((s.size-k:Nat):Int):=by rw[hz,show (z:Int)-k=((z-k:Nat):Int) by omega];exact iw_ _ (by omega)
 clear hz;have Ox:((s.size-k:Nat):Int)<=s.size:=by omega
 have nE:¬ (9223372036854775807<s.size-k+1):=by rw[Hz.o];omega
 have nD:¬ (9223372036854775807<s.size-k+1+(s.size-(s.size-k))):=by rw[Hz.o];omega
 go_wp2_with fail;refine RP.wp_region_readers 14 [(2,0),(2,1),(2,2),(2,3),(2,4),(2,5),(2,6),(2,7),(2,8),(2,9),(2,10),(2,11),(2,12),(2,13),(0,14)] (fun _=>True) (by kernel_rfl) (by kernel_rfl) ?_ ?_
 ·trivial
 iterate 14 (refine wa_ rfl ?_;go_big_quiet_step (fail);refine wq_ ?_)
 refine wm_ rfl ?_;go_wp2_with fail;simp only[RP.walkR];go_wp2_with fail;refine cm_ (HS.o _) ?_;rintro e w3 ⟨rfl,hb⟩;have B3:=hd_ ((Qe B2.o 1).trans (hb.mono (Qe B2.o 1).size));clear hb HS B2;go_wp2_with fail
 go_ret2
 exact⟨rfl,B3.o⟩
theorem Zkt{k:Nat}{x y:Rat}(h:x<=y):scE k x<=scE k y:=by
 unfold scE Ztg;have h1:x*((1200*10^k:Nat):Rat)<=y*((1200*10^k:Nat):Rat):=Rat.mul_le_mul_of_nonneg_right h (by exact_mod_cast Nat.zero_le _);exact Rat.floor_monotone (Rat.add_le_add_right.2 h1)
theorem Zmw{k:Nat}{x y:Rat}:Zd5 k x y=true↔scE k x=scE k y:=by
 unfold Zd5;constructor
 ·intro h;have h1:=eq_of_beq h;refine Zpq ?_;exact ByteArray.ext (Array.ext' (by simpa [ByteArray.toList_eq] using h1))
 ·intro h;rw[h];exact beq_self_eq_true _
theorem Zvq{k n m:Nat}{ps:List Int}{l:List Rat}(h:∀ p∈ps,∃ q:Nat,p=q/\(q=2\/q∈Zba))(_hn:n<=1000)(hm:m<=1000)(h1:Zd5 k (loE n ps l) (hiE n ps l)=true)(E6:n<=m):
  scE k (loE m ps l)=scE k (loE n ps l)/\Zd5 k (loE m ps l) (hiE m ps l)=true:=by
 obtain⟨u1,u2⟩:=Zlj (n:=n) (l:=l) h (m-n) (by omega);rw[show n+(m-n)=m by omega] at u1 u2;have h2:=Zmw.1 h1;have h3:=Zxh m ps l;have a1:=Zkt (k:=k) u1;have a2:=Zkt (k:=k) h3;have a3:=Zkt (k:=k) u2;refine⟨by omega,Zmw.2 (by omega)⟩
theorem Qfl{k n m:Nat}{ps:List Int}{l:List Rat}(h:∀ p∈ps,∃ q:Nat,p=q/\(q=2\/q∈Zba))(hn:n<=1000)(hm:m<=1000)(h1:Zd5 k (loE n ps l) (hiE n ps l)=true)(h2:Zd5 k (loE m ps l) (hiE m ps l)=true):
  scE k (loE m ps l)=scE k (loE n ps l):=by
 rcases Nat.le_total n m with h3|h3
 ·exact(Zvq h hn hm h1 h3).1
 ·exact(Zvq h hm hn h2 h3).1.symm
/-! The numbers. -/
def kP:List Int:=[2,3]
def kA:List Rat:=[-19,12]
def kB:List Rat:=[-1,1]
theorem Zw1:∀ p∈kP,∃ q:Nat,p=q/\(q=2\/q∈Zba):=by
 intro p hp;simp only[kP,List.mem_cons,List.not_mem_nil,or_false] at hp;rcases hp with rfl|rfl
 ·exact⟨2,rfl,.inl rfl⟩
 ·exact⟨3,rfl,.inr (by decide)⟩
theorem Qcc:∀ p∈kP,p∈Zir:=by decide
theorem Qhi:lgN 3 3=12:=by decide +kernel
theorem Zw0:Zar 9 kP kA=1:=by decide +kernel
theorem Qf0:Zar 8 kP kA=0:=by decide +kernel
theorem Qhh:loE 7 kP kA = -1/16:=by decide +kernel
theorem Qhj:hiE 7 kP kA=1/32:=by decide +kernel
theorem Qcb:Zd5 3 (loE 30 kP kB) (hiE 30 kP kB)=true:=by decide +kernel
theorem Qdv:scE 3 (loE 30 kP kB)=701955:=by decide +kernel
theorem Qf2:Zbj 9 kP kA=[(2,9,dec 512),(3,9,dec 811)]:=by
 have h1:lgN 2 9=512:=by decide +kernel
 have h2:lgN 3 9=811:=by decide +kernel
 show List.filterMap _ [((2:Int),(-19:Rat)),(3,12)]=_
 rw[List.filterMap_cons,List.filterMap_cons];rw[if_neg (by decide +kernel),if_neg (by decide +kernel),h1,h2];rfl
theorem Qdu{n:Nat}(h:Zbk (fun b=>Zar b kP kA != 0) n):n=9:=by
 refine Zbk.uniq (T:=fun b=>Zar b kP kA != 0) (fun b hb hx=>?_) h ⟨?_,.inr ?_,by decide⟩
 ·show (Zar (b+1) kP kA != 0)=true
  rw[bne_iff_ne];refine Zp9 (d:=1) Qcc (by omega) ?_;have oP:(Zar b kP kA != 0)=true:=hx
  rwa [bne_iff_ne] at oP
 ·show (Zar 9 kP kA != 0)=true
  rw[Zw0];rfl
 ·show (Zar 8 kP kA != 0)=false
  rw[Qf0];rfl
theorem Qf1{n:Nat}(h:Zbk (fun b=>Zd5 3 (loE b kP kB) (hiE b kP kB)) n):scE 3 (loE n kP kB)=701955:=by
 rw[Qfl Zw1 (show 30<=1000 by decide) h.le Qcb h.at_,Qdv]
theorem Qhk:Zd5 3 (loE 1000 kP kB) (hiE 1000 kP kB)=true:=(Zvq Zw1 (by decide) (by decide) Qcb (by decide)).2
theorem Qfz:Zar 1000 kP kA≠0:=Zp9 (n:=9) (d:=991) Qcc (by decide) (by rw[Zw0];decide)
theorem Zpf(w:World)(n:Int)(d:Nat)(hn : -1000<=n)(A9:n<=1000)(hd:0<d)(Fm:d<=1000)(L:Qa w):
  Kc Tryz.prog 106 #[.int .i64 n,.int .i64 d] w (fr (mkRat n d)):=by
 have hz:∀ x:Nat,x<=2000->Num x:=fun x hx=>Zho (Nat.lt_of_le_of_lt hx (Nat.lt_of_lt_of_le (show 2000<2^11 by decide) (Nat.pow_le_pow_right (by decide) (by rw[k10];decide))))
 have gm:=hd_ ((Below.refl w.heap.size w).alloc nr_ (.cells #[.string ⟨#[]⟩,.string ⟨#[]⟩] 101));have ge:Hid ((w.alloc (.cells #[.string ⟨#[]⟩,.string ⟨#[]⟩] 101)).heap[w.heap.size]?=some (.cells #[.string ⟨#[]⟩,.string ⟨#[]⟩] 101 (0,0))):=heap_alloc_new w _;have HO:=hd_ (Zrg _ n d (by omega) (by omega) (by omega) (hz _ (by omega)) (hz _ (by omega)) hd (hz _ (by omega)) (hz _ (by omega)) (L.below gm.o));rw[Zdk n d (by omega)] at HO;clear L hz;generalize mkRat n d=q at *;unfold Kc;unfold fr fv at HO ⊢;go_enter Tryz.func106,Tryz.ntmps106;go_wp2_with fail;generalize w.alloc (.cells #[.string ⟨#[]⟩,.string ⟨#[]⟩] 101)=W0 at *;refine cm_ HO.o ?_;rintro e w1 ⟨rfl,hb⟩;have GE:=Ki ge.o hb;have cF:=Kh GE (.cells #[.string (itx q.num),.string (dec q.den)] 101);have B2:=hd_ ((bu_ gm hb).alloc (Nat.le_trans gm.o.size hb.size) (.cells #[.string (itx q.num),.string (dec q.den)] 101));obtain⟨k0,k1,f0,f1⟩:=Ka cF;clear hb HO ge gm GE cF;go_wp2;obtain⟨c0,c1,hb3⟩:=Kl (B:=w.heap.size) (.string (itx q.num)) (.string (dec q.den)) k0 k1 nr_ B2.o;generalize ((w1.alloc (.cells #[.string (itx q.num),.string (dec q.den)] 101)).setCell ⟨w.heap.size,0,none⟩ (.string (itx q.num))).setCell ⟨w.heap.size,1,none⟩ (.string (dec q.den))=w9 at *;exact bodyPost_ret (v := .agg #[.string (itx q.num),.string (dec q.den)]) (by simp[results,Tryz.results106,go_sem,c0,c1]) rfl ⟨rfl,hb3⟩
theorem Zrw : (Tryz.prog.fieldsOf 124).toList.map (fun f => (f.name, f.type, f.offset)) = [("Prime", 3, 0), ("Bits", 3, 1), ("Low", 38, 2)] := by kernel_rfl
theorem Zvb:Tryz.prog.stoodInHeld 124=false:=by kernel_rfl
theorem Qd4:Tryz.prog.eqGuardType Tryz.prog.depth 124=false:=by kernel_rfl
theorem Zh9 (W : World) (d : Nat) (p n p' n' : Int) (s s' : ByteArray) (fs : List Field) (h : fs.map (fun f => (f.name, f.type, f.offset)) = [("Prime", 3, 0), ("Bits", 3, 1), ("Low", 38, 2)]) :
  (Op.eqFields (d+1) #[.int .i64 p,.int .i64 n,.string s] #[.int .i64 p',.int .i64 n',.string s'] fs).run Tryz.prog W = .ok (p==p'&&n==n'&&s.toList==s'.toList) W:=by
 obtain⟨f,g,k,rfl⟩:∃ f g k,fs=[f,g,k]:=by
  have hl:=congrArg List.length h;rw[List.length_map] at hl;cases fs with
  | nil=>simp at hl
  | cons f fs =>
   cases fs with
   | nil=>simp at hl
   | cons g fs =>
    cases fs with
    | nil=>simp at hl
    | cons k fs =>
     cases fs with
     | nil=>exact⟨f,g,k,rfl⟩
     | cons x fs=>simp at hl
 simp only[List.map_cons,List.map_nil,List.cons.injEq,Prod.mk.injEq,and_true] at h;obtain⟨⟨h1,h2,h3⟩,⟨h4,h5,h6⟩,h7,h8,h9⟩:=h;have hu:=Tryz.underlying38;have hv:=Tryz.underlying3;simp[Op.eqFields,h1,h2,h3,h4,h5,h6,h7,h8,h9,go_sem,hu,hv]
 by_cases q1:p=p'<;>by_cases q2:n=n'<;>by_cases q3:s.toList=s'.toList<;>simp[q1,q2,q3]
theorem Zq0:Tryz.prog.underlying 124=some (.struct (Tryz.prog.fieldsOf 124)):=by
 have h:=Tryz.underlying124;unfold Program.fieldsOf;rw[h]
theorem Zxd(W:World)(p n p' n':Int)(s s':ByteArray):
  (binOp .eql 124 (.agg #[.int .i64 p,.int .i64 n,.string s]) (.agg #[.int .i64 p',.int .i64 n',.string s'])).run Tryz.prog W = .ok (.bool (p==p'&&n==n'&&s.toList==s'.toList)) W:=by
 rw[run_eql_struct,show (10000:Nat)=9998+1+1 from rfl,run_equalIn_agg (ht:=Zq0) (hp:=Zvb),Zh9 W _ p n p' n' s s' _ Zrw];rfl
theorem Zh5(W:World)(op:BinOp)(x y:Operand)(xs ys:Array Value):(eqGuard op 124 x y (.agg xs) (.agg ys)).run Tryz.prog W = .ok () W:=run_eqGuard_agg W op _ x y xs ys Qd4
theorem Zo7{C:World->Prop}{K:Act->Prop}{a:Act}{o:Oper}(x y:Operand)(r:TypeId)(p n p' n':Int)(s s':ByteArray)(h:o.op = .binOp .eql 124 x y r)(hx:a.eval x = .agg #[.int .i64 p,.int .i64 n,.string s])(hy:a.eval y = .agg #[.int .i64 p',.int .i64 n',.string s'])
  (hk:K (a.put o.dst (.bool (p==p'&&n==n'&&s.toList==s'.toList)))):o.quiet Tryz.prog a C K :=
 ⟨_,fun w _=>by
  unfold Oper.quietAt execOp;rw[h];simp only[Sem.run_bind,hx,hy,Zh5,Zxd,Result.andThen_ok,Sem.run_pure];exact⟨rfl,rfl⟩,hk⟩
structure Qh5 (w:World) (ps:List Int) (a0 a1 a2:OA_) (l1 l2:Zdg):Prop where
 rp:Rd w a0 (Vd ps)
 hi:Zi6 ps
 hl:ps.length<=1000
 r1:Rd w a1 (Qf l1)
 r2:Rd w a2 (Qf l2)
 n1:l1.length<=1000
 n2:l2.length<=1000
 s1:Ssz l1
 s2:Ssz l2
 L:Qa w
theorem Qh5.all{w W:World}{ps:List Int}{a0 a1 a2:OA_}{l1 l2:Zdg}(H:Qh5 w ps a0 a1 a2 l1 l2)(hW:Bw_ w W){g c0 c1 c2:Nat}(hg:W.heap[g]?=some (.cells #[.slice a1 l1.length c1,.slice a2 l2.length c2] 35 (0,0))):
  Kc Tryz.prog 20 #[.slice a0 ps.length c0,.slice (some ⟨g,0,none⟩) 2 2] W (.int .i64 (Ziz ps [l1,l2])) :=
 Zbt W a0 _ c0 2 ps [l1,l2] (H.rp.below hW nr_) H.hi (Nat.le_trans H.hl (by decide)) (Zhj hg (H.r1.below hW nr_) (H.r2.below hW nr_)) (by simp)
  (by intro l hl;simp only[List.mem_cons,List.not_mem_nil,or_false] at hl;rcases hl with rfl | rfl;exact⟨Nat.le_trans H.n1 (by decide),H.s1⟩;exact⟨Nat.le_trans H.n2 (by decide),H.s2⟩) (H.L.below hW)
theorem Qd5(x y:ByteArray×ByteArray):(x.1.toList==y.1.toList&&x.2.toList==y.2.toList)=decide (x=y):=by
 by_cases h:x=y
 ·subst h;simp
 ·rw[decide_eq_false h,Bool.eq_false_iff];intro hc;rw[Bool.and_eq_true] at hc;exact h (Prod.ext (toList_inj hc.1) (toList_inj hc.2))
theorem Zs1{C:World->Prop}{K:Act->Prop}{a:Act}{o:Oper}(x y:Operand)(r:TypeId)(p q:ByteArray×ByteArray)(h:o.op = .binOp .neq 101 x y r)(hx:a.eval x = .agg #[.string p.1,.string p.2])(hy:a.eval y = .agg #[.string q.1,.string q.2])
  (hk:K (a.put o.dst (.bool (!decide (p=q))))):o.quiet Tryz.prog a C K :=
 ⟨_,fun w _=>by
  unfold Oper.quietAt execOp;rw[h];simp only[Sem.run_bind,hx,hy,Zfk,Zrk,Result.andThen_ok,Sem.run_pure,Qd5];exact⟨rfl,rfl⟩,hk⟩
theorem Qbz{w wr:World}{a:OA_}{l:Zdg}{B:Nat}(h:Rd w a (Qf l))(hb:Below B w wr)(hB:w.heap.size<=B)(k:Nat)(hk:k<l.length):
  ∃ b off,a=some ⟨b,off,none⟩/\wr.cell? ⟨b,off+k*2,none⟩=some (.string l[k].1)/\wr.cell? ⟨b,off+k*2+1,none⟩=some (.string l[k].2):=by
 obtain⟨b,off,rfl,eW,hcells⟩:=h.open (by rw[Qs];omega);obtain⟨x0,x1⟩:=Qb hcells k hk;have e:l.getD k default=l[k]:=by rw[List.getD_eq_getElem?_getD,List.getElem?_eq_getElem hk];rfl
 rw[<- hb.cell (p:=⟨b,off+k*2,none⟩) (Nat.lt_of_lt_of_le eW hB),e] at x0;rw[<- hb.cell (p:=⟨b,off+k*2+1,none⟩) (Nat.lt_of_lt_of_le eW hB),e] at x1;exact⟨b,off,rfl,x0,x1⟩
theorem Zsx(w:World)(a1 a2:OA_)(c1 c2:Nat)(la lb:Zdg)(r1:Rd w a1 (Qf la))(r2:Rd w a2 (Qf lb))(ft:la.length<=1000000):
  Kc Tryz.prog 104 #[.slice a1 la.length c1,.slice a2 lb.length c2] w (.bool (decide (la=lb))):=by
 unfold Kc
 by_cases hl:la.length=lb.length
 ·have R1:=hd_ r1;have R2:=hd_ r2;have aY:Hid (∀ k,(∀ j (h1:j<la.length) (h2:j<lb.length),j<k->la[j]=lb[j])->k=la.length->la=lb):=fun k h hk=>List.ext_getElem hl fun i h1 h2=>h i h1 h2 (by omega)
  have it:Hid (∀ k (h1:k<la.length) (h2:k<lb.length),la[k]≠lb[k]->¬ la=lb):=fun k h1 h2 gh he=>gh (by subst he;rfl)
  obtain⟨n,hn⟩:∃ n,la.length=n:=⟨_,rfl⟩;have hm:lb.length=n:=hl.symm.trans hn;rw[hn] at ft;rw[hn,hm];have Hn:=hd_ hn;have Hm:=hd_ hm;clear hl r1 r2 hn hm;go_enter Tryz.func104,Tryz.ntmps104;go_wp2_with fail
  go_loopw [13] (fun i wr=>∃ k:Nat,k<=n/\i = .int .i64 k/\Hid (∀ j (h1:j<la.length) (h2:j<lb.length),j<k->la[j]=lb[j])/\Hid (Bw_ w wr)) (fun i _=>n-(intOf i).toNat)
  case atStart=>exact⟨0,Nat.zero_le _,rfl,fun j _ _ hj=>absurd hj (Nat.not_lt_zero _),Below.refl _ _⟩
  case round =>
   obtain⟨k,hk,rfl,Hp,B⟩:=hrel
   by_cases H7:k<n
   ·have gi:(k:Int)<n:=by omega
    have h1:k<la.length:=by rw[Hn.o];exact H7
    have h2:k<lb.length:=by rw[Hm.o];exact H7
    obtain⟨b,off,rfl,x0,x1⟩:=Qbz R1.o B.o nr_ k h1;obtain⟨b',off',rfl,y0,y1⟩:=Qbz R2.o B.o nr_ k h2;have cX:Hid (la[k]=lb[k]->∀ j (h1:j<la.length) (h2:j<lb.length),j<k+1->la[j]=lb[j]):=fun he j g1 g2 hj=>by
     rcases Nat.lt_or_ge j k with h|h
     ·exact Hp.o j g1 g2 h
     ·have e:j=k:=by omega
      subst e;exact he
    have Al:=hd_ (it.o k h1 h2);clear Hp;generalize la[k]=p at *;generalize lb[k]=q at *;have q0:=cell_regrown x0;have q1:=cell_regrown x1;have q2:=cell_regrown y0;have q3:=cell_regrown y1;have HK:=hd_ H7;go_wp2_with fail;clear x0 x1 y0 y1;refine wp_region_quiet_below (by kernel_rfl) (by kernel_rfl) ?_
    repeat (first | go_big_quiet_step (fail) | quiet_step (fail))
    refine BigFrame.wpQuiet_want rfl fun K hK=>Zs1 _ _ _ p q rfl rfl rfl (hK _ ?_)
    refine wq_ ?_;intro w6 Bm;obtain⟨⟨dq,osq⟩,rfl⟩:=Bm;have B6:=hd_ (B.o.trans ((below_regrown wr dq osq).mono B.o.size));clear q0 q1 q2 q3 B;generalize Go.Sort.grow (redrawn wr dq) osq=w6 at *
    by_cases hpq:p=q
    ·rw[decide_eq_true hpq];have Hq:=hd_ (cX.o hpq);clear hpq cX Al;go_wp2_with fail
     go_roundw
     case rel=>exact⟨k+1,HK.o,by go_num,Hq,B6⟩
     case measure=>simp[intOf];omega
    ·rw[decide_eq_false hpq];have Hz:Hid (decide (la=lb)=false):=decide_eq_false (Al.o hpq);clear hpq cX Al;go_wp2_with fail;go_ret;exact⟨by rw[Hz.o];rfl,B6.o⟩
   ·have gi:¬ (k:Int)<n:=by omega
    have Hz:Hid (decide (la=lb)=true):=decide_eq_true (aY.o k Hp.o (by rw[Hn.o];omega));clear Hp;go_wp2_with fail;go_ret;exact⟨by rw[Hz.o];rfl,B.o⟩
 ·have Hz:Hid (decide (la=lb)=false):=decide_eq_false fun h=>hl (by rw[h])
  have gh:((la.length:Int)==lb.length)=false:=by rw[beq_eq_false_iff_ne];omega
  clear r1 r2 hl;generalize la.length=n at *;generalize lb.length=m at *;go_enter Tryz.func104,Tryz.ntmps104;go_wp2_with fail;go_ret;exact⟨by rw[Hz.o];rfl,Below.refl _ _⟩
theorem Zkr(w:World)(a1 a2:OA_)(c1 c2:Nat)(la lb:Zdg)(r1:Rd w a1 (Qf la))(r2:Rd w a2 (Qf lb))(ft:la.length<=1000000):
  Kc Tryz.prog 41 #[.slice a1 la.length c1,.slice a2 lb.length c2] w (.bool (decide (la=lb))):=by
 have HA:=hd_ (Zsx w a1 a2 c1 c2 la lb r1 r2 ft);unfold Kc at *
 clear r1 r2 ft;generalize decide (la=lb)=z at *;generalize la.length=n at *;generalize lb.length=m at *;go_enter Tryz.func41,Tryz.ntmps41;go_wp2_with fail;refine cm_ HA.o ?_;rintro e w1 ⟨rfl,hb⟩;have B1:=hd_ hb;clear hb HA;go_wp2_with fail;go_ret;exact⟨rfl,B1.o⟩
theorem Ztr(W:World)(n:Int)(d:Nat)(q:Rat)(hq:mkRat n d=q)(hn : -1000<=n)(A9:n<=1000)(hd:0<d)(Fm:d<=1000)(L:Qa W):
  Kc Tryz.prog 106 #[.int .i64 n,.int .i64 d] W (fr q):=by rw[<- hq];exact Zpf W n d hn A9 hd Fm L
theorem Zw2:Zi6 kP:=by
 intro x hx;simp only[kP,List.mem_cons,List.not_mem_nil,or_false] at hx;rcases hx with rfl|rfl<;>decide
theorem Qf6:∀ q∈kA,Sm 30 q:=by
 intro q hq;simp only[kA,List.mem_cons,List.not_mem_nil,or_false] at hq;rcases hq with rfl|rfl<;>exact⟨by decide +kernel,by decide +kernel⟩
theorem Qhm:∀ q∈kB,Sm 30 q:=by
 intro q hq;simp only[kB,List.mem_cons,List.not_mem_nil,or_false] at hq;rcases hq with rfl|rfl<;>exact⟨by decide +kernel,by decide +kernel⟩
theorem Zpo:Qx kP=0:=by decide +kernel
theorem Qf7:kA.any nzQ=true:=by decide +kernel
theorem Ztq(w:World)(L:Qa w):Kc Tryz.prog 42 #[] w (.bool true):=by
 unfold Kc;have HL:=hd_ L;have HO:=hd_ (Qgn w 3 3 (.inr (by decide)) (by decide +kernel) (by decide) L);rw[show ((3:Nat):Int)=3 from rfl,Qhi] at HO;unfold Qe2 at HO;clear L;generalize hb12:dec 12=b12 at *;have m6:=hd_ hb12;clear hb12;obtain⟨q1,Gq⟩:∃ q:Rat,q = -19:=⟨_,rfl⟩;obtain⟨q2,Gv⟩:∃ q:Rat,q=12:=⟨_,rfl⟩;obtain⟨q3,bq⟩:∃ q:Rat,q = -1:=⟨_,rfl⟩;obtain⟨q4,FU⟩:∃ q:Rat,q=1:=⟨_,rfl⟩;obtain⟨q5,hq5⟩:∃ q:Rat,q = -1/16:=⟨_,rfl⟩;obtain⟨q6,hq6⟩:∃ q:Rat,q=1/32:=⟨_,rfl⟩;have N1:=hd_ (fun W (hW:Bw_ w W)=>Ztr W (-19) 1 q1 (by rw[Gq];decide +kernel) (by decide) (by decide) (by decide) (by decide) (HL.o.below hW));have N2:=hd_ (fun W (hW:Bw_ w W)=>Ztr W 12 1 q2 (by rw[Gv];decide +kernel) (by decide) (by decide) (by decide) (by decide) (HL.o.below hW));have N3:=hd_ (fun W (hW:Bw_ w W)=>Ztr W (-1) 1 q3 (by rw[bq];decide +kernel) (by decide) (by decide) (by decide) (by decide) (HL.o.below hW));have N4:=hd_ (fun W (hW:Bw_ w W)=>Ztr W 1 1 q4 (by rw[FU];decide +kernel) (by decide) (by decide) (by decide) (by decide) (HL.o.below hW));have N5:=hd_ (fun W (hW:Bw_ w W)=>Ztr W (-1) 16 q5 (by rw[hq5];decide +kernel) (by decide) (by decide) (by decide) (by decide) (HL.o.below hW));have N6:=hd_ (fun W (hW:Bw_ w W)=>Ztr W 1 32 q6 (by rw[hq6];decide +kernel) (by decide) (by decide) (by decide) (by decide) (HL.o.below hW));have hA:kA=[q1,q2]:=by rw[Gq,Gv];rfl
 have hB:kB=[q3,q4]:=by rw[bq,FU];rfl
 have HD:=hd_ (fun W (hW:Bw_ w W) a0 a1 (rp:Rd W a0 (Vd kP)) (rl:Rd W a1 (Kj [q1,q2]))=>Znx W a0 a1 2 2 30 kP kA rp (by rw[hA];exact rl) Zw2 rfl (by decide) Zw1 Qf6 (by decide) Zpo Qf7 Qfz (HL.o.below hW));have HE:=hd_ (fun W (hW:Bw_ w W) a0 a1 (rp:Rd W a0 (Vd kP)) (rl:Rd W a1 (Kj [q1,q2]))=>Zt4 W a0 a1 2 2 30 7 kP kA rp (by rw[hA];exact rl) Zw2 rfl (by decide) Zw1 Qf6 (by decide) Zpo (by decide) (HL.o.below hW));rw[Qhh,Qhj,<- hq5,<- hq6] at HE;have ft:3<(dec 701955).size:=by rw[Kw];decide +kernel
 have HC:=hd_ (fun W (hW:Bw_ w W) a0 a1 (rp:Rd W a0 (Vd kP)) (rl:Rd W a1 (Kj [q3,q4]))=>Zxy W a0 a1 2 2 2 2 3 701955 (by decide) (by decide) (by decide) ft (by rw[Kw];decide +kernel) ((Zt9 W a0 a1 2 2 30 3 kP kB rp (by rw[hB];exact rl) Zw2 rfl (by decide) Zw1 Qhm (by decide) Zpo (by decide) Qhk (HL.o.below hW)).mono fun e w' h=>by
  obtain⟨n,he,hl,hb⟩:=h;refine⟨⟨n,?_⟩,hb⟩;rw[Qf1 hl,show itx (701955:Int)=dec 701955 from Kg 701955] at he;exact he))
 have nC:(dec 701955).extract 0 ((dec 701955).size-3)++⟨#[46]⟩++(dec 701955).extract ((dec 701955).size-3) (dec 701955).size=⟨#[55,48,49,46,57,53,53]⟩:=by
  have:((dec 701955).extract 0 ((dec 701955).size-3)++⟨#[46]⟩++(dec 701955).extract ((dec 701955).size-3) (dec 701955).size).data = #[55,48,49,46,57,53,53]:=by decide +kernel
  exact ByteArray.ext this
 rw[nC] at HC;have rM:=hd_ hq5;have rL:=hd_ hq6;clear Gq Gv bq FU hq5 hq6 hA hB ft nC;unfold fr fv at N1 N2 N3 N4 N5 N6 HE;go_enter Tryz.func42,Tryz.ntmps42;go_wp2_with fail;refine cm_ HO.o ?_;rintro e w1 ⟨rfl,hb⟩;have B1:=hd_ (hb.alloc hb.size (.cells #[.int .i64 3,.int .i64 3,.string b12] 124));have F1:=hd_ (Kk w1 #[.int .i64 3,.int .i64 3,.string b12] 124 _ rfl);clear hb HO;go_wp2_with fail;have GG:(w1.alloc (.cells #[.int .i64 3,.int .i64 3,.string b12] 124)).heap.size=w1.heap.size+1:=by simp
 rw[<- GG];generalize w1.heap.size=gb at *;generalize w1.alloc (.cells #[.int .i64 3,.int .i64 3,.string b12] 124)=w1b at *;clear GG;have B2:=hd_ (B1.o.alloc B1.o.size (.cells #[.int .i64 2,.int .i64 3] 3));have FP:Hid ((w1b.alloc (.cells #[.int .i64 2,.int .i64 3] 3)).heap[w1b.heap.size]?=some (.cells #[.int .i64 2,.int .i64 3] 3 (0,0))):=heap_alloc_new w1b _;replace F1:=hd_ (Kh F1.o (.cells #[.int .i64 2,.int .i64 3] 3));clear B1;generalize hg_:w1b.heap.size=gp at *;generalize hw_:w1b.alloc (.cells #[.int .i64 2,.int .i64 3] 3)=w2 at *;clear hg_ hw_;refine cm_ (N1.o _ B2.o) ?_;rintro e_ w3 ⟨rfl,hb_⟩;have B3:=bt_ B2 hb_;replace F1:=hk_ F1 hb_;replace FP:=hk_ FP hb_;clear B2;clear hb_;go_wp2_with fail;refine cm_ (N2.o _ B3.o) ?_;rintro e_ w4 ⟨rfl,hb_⟩;have B4:=bt_ B3 hb_;replace F1:=hk_ F1 hb_;replace FP:=hk_ FP hb_;clear B3;clear hb_;go_wp2_with fail;have B5:=hd_ (B4.o.alloc B4.o.size (.cells #[.string (itx q1.num),.string (dec q1.den),.string (itx q2.num),.string (dec q2.den)] 101));have FA:Hid ((w4.alloc (.cells #[.string (itx q1.num),.string (dec q1.den),.string (itx q2.num),.string (dec q2.den)] 101)).heap[w4.heap.size]?=some (.cells #[.string (itx q1.num),.string (dec q1.den),.string (itx q2.num),.string (dec q2.den)] 101 (0,0))):=heap_alloc_new w4 _;replace F1:=hd_ (Kh F1.o (.cells #[.string (itx q1.num),.string (dec q1.den),.string (itx q2.num),.string (dec q2.den)] 101));replace FP:=hd_ (Kh FP.o (.cells #[.string (itx q1.num),.string (dec q1.den),.string (itx q2.num),.string (dec q2.den)] 101));clear B4;generalize hg_:w4.heap.size=ga at *;generalize hw_:w4.alloc (.cells #[.string (itx q1.num),.string (dec q1.den),.string (itx q2.num),.string (dec q2.den)] 101)=w5 at *;clear hg_ hw_;refine cm_ (HD.o _ B5.o _ _ (Ye FP.o) (Ye FA.o)) ?_;rintro e_ w6 ⟨n_,a_,c_,he_,hl_,hr_,hb_⟩;have B6:=bt_ B5 hb_;replace F1:=hk_ F1 hb_;replace FP:=hk_ FP hb_;replace FA:=hk_ FA hb_;clear B5;clear HD;obtain rfl:=Qdu hl_;rw[Zw0,Qf2] at he_;rw[Qf2] at hr_;have Oz:e_ = .returned (.tuple #[.agg #[.int .i64 1,.int .i64 9,.slice a_ 2 c_],.int .i64 0]):=he_;subst Oz;have HR:=hd_ hr_;clear he_ hl_ hr_ hb_;go_wp2_with fail;have B7:=hd_ (B6.o.alloc B6.o.size (.cells #[.int .i64 1,.int .i64 9,.slice a_ 2 c_] 46));have FC:Hid ((w6.alloc (.cells #[.int .i64 1,.int .i64 9,.slice a_ 2 c_] 46)).heap[w6.heap.size]?=some (.cells #[.int .i64 1,.int .i64 9,.slice a_ 2 c_] 46 (0,0))):=heap_alloc_new w6 _;replace F1:=hd_ (Kh F1.o (.cells #[.int .i64 1,.int .i64 9,.slice a_ 2 c_] 46));replace FP:=hd_ (Kh FP.o (.cells #[.int .i64 1,.int .i64 9,.slice a_ 2 c_] 46));replace FA:=hd_ (Kh FA.o (.cells #[.int .i64 1,.int .i64 9,.slice a_ 2 c_] 46));replace HR:=hd_ (HR.o.below ((Below.refl w6.heap.size w6).alloc nr_ (.cells #[.int .i64 1,.int .i64 9,.slice a_ 2 c_] 46)) nr_);clear B6;generalize hg_:w6.heap.size=gc at *;generalize hw_:w6.alloc (.cells #[.int .i64 1,.int .i64 9,.slice a_ 2 c_] 46)=w7 at *;clear hg_ hw_;clear FA;refine cm_ (N1.o _ B7.o) ?_;rintro e_ w8 ⟨rfl,hb_⟩;have B8:=bt_ B7 hb_;replace F1:=hk_ F1 hb_;replace FP:=hk_ FP hb_;replace FC:=hk_ FC hb_;replace HR:=hd_ (HR.o.below hb_ nr_);clear B7;clear hb_;go_wp2_with fail;refine cm_ (N2.o _ B8.o) ?_;rintro e_ w9 ⟨rfl,hb_⟩;have B9:=bt_ B8 hb_;replace F1:=hk_ F1 hb_;replace FP:=hk_ FP hb_;replace FC:=hk_ FC hb_;replace HR:=hd_ (HR.o.below hb_ nr_);clear B8;clear hb_;go_wp2_with fail;have Jp:=hd_ (B9.o.alloc B9.o.size (.cells #[.string (itx q1.num),.string (dec q1.den),.string (itx q2.num),.string (dec q2.den)] 101));have FA:Hid ((w9.alloc (.cells #[.string (itx q1.num),.string (dec q1.den),.string (itx q2.num),.string (dec q2.den)] 101)).heap[w9.heap.size]?=some (.cells #[.string (itx q1.num),.string (dec q1.den),.string (itx q2.num),.string (dec q2.den)] 101 (0,0))):=heap_alloc_new w9 _;replace F1:=hd_ (Kh F1.o (.cells #[.string (itx q1.num),.string (dec q1.den),.string (itx q2.num),.string (dec q2.den)] 101));replace FP:=hd_ (Kh FP.o (.cells #[.string (itx q1.num),.string (dec q1.den),.string (itx q2.num),.string (dec q2.den)] 101));replace FC:=hd_ (Kh FC.o (.cells #[.string (itx q1.num),.string (dec q1.den),.string (itx q2.num),.string (dec q2.den)] 101));replace HR:=hd_ (HR.o.below ((Below.refl w9.heap.size w9).alloc nr_ (.cells #[.string (itx q1.num),.string (dec q1.den),.string (itx q2.num),.string (dec q2.den)] 101)) nr_);clear B9;generalize hg_:w9.heap.size=ga2 at *;generalize hw_:w9.alloc (.cells #[.string (itx q1.num),.string (dec q1.den),.string (itx q2.num),.string (dec q2.den)] 101)=w10 at *;clear hg_ hw_;refine cm_ (HE.o _ Jp.o _ _ (Ye FP.o) (Ye FA.o)) ?_;rintro e_ w11 ⟨rfl,hb_⟩;have MH:=bt_ Jp hb_;replace F1:=hk_ F1 hb_;replace FP:=hk_ FP hb_;replace FC:=hk_ FC hb_;replace FA:=hk_ FA hb_;replace HR:=hd_ (HR.o.below hb_ nr_);clear Jp;clear hb_ HE FA N1 N2;go_wp2_with fail;have MK:Hid ((w11.alloc (.cells #[.string (itx q5.num),.string (dec q5.den)] 101)).heap.size=w11.heap.size+1):=by show _=_;simp
 have MG:=hd_ (MH.o.alloc MH.o.size (.cells #[.string (itx q5.num),.string (dec q5.den)] 101));have F5:Hid ((w11.alloc (.cells #[.string (itx q5.num),.string (dec q5.den)] 101)).heap[w11.heap.size]?=some (.cells #[.string (itx q5.num),.string (dec q5.den)] 101 (0,0))):=heap_alloc_new w11 _;replace F1:=hd_ (Kh F1.o (.cells #[.string (itx q5.num),.string (dec q5.den)] 101));replace FP:=hd_ (Kh FP.o (.cells #[.string (itx q5.num),.string (dec q5.den)] 101));replace FC:=hd_ (Kh FC.o (.cells #[.string (itx q5.num),.string (dec q5.den)] 101));replace HR:=hd_ (HR.o.below ((Below.refl w11.heap.size w11).alloc nr_ (.cells #[.string (itx q5.num),.string (dec q5.den)] 101)) nr_);clear MH;generalize hg_:w11.heap.size=g5 at *;generalize hw_:w11.alloc (.cells #[.string (itx q5.num),.string (dec q5.den)] 101)=w12 at *;clear hg_ hw_;have MF:=hd_ (MG.o.alloc MG.o.size (.cells #[.string (itx q6.num),.string (dec q6.den)] 101));have F6:Hid ((w12.alloc (.cells #[.string (itx q6.num),.string (dec q6.den)] 101)).heap[g5+1]?=some (.cells #[.string (itx q6.num),.string (dec q6.den)] 101 (0,0))):=by
  have h_:=heap_alloc_new w12 (.cells #[.string (itx q6.num),.string (dec q6.den)] 101);rw[MK.o] at h_;exact h_
 replace F1:=hd_ (Kh F1.o (.cells #[.string (itx q6.num),.string (dec q6.den)] 101));replace FP:=hd_ (Kh FP.o (.cells #[.string (itx q6.num),.string (dec q6.den)] 101));replace FC:=hd_ (Kh FC.o (.cells #[.string (itx q6.num),.string (dec q6.den)] 101));replace F5:=hd_ (Kh F5.o (.cells #[.string (itx q6.num),.string (dec q6.den)] 101));replace HR:=hd_ (HR.o.below ((Below.refl w12.heap.size w12).alloc nr_ (.cells #[.string (itx q6.num),.string (dec q6.den)] 101)) nr_);clear MG MK;generalize hw_:w12.alloc (.cells #[.string (itx q6.num),.string (dec q6.den)] 101)=w13 at *;clear hw_;refine cm_ (N3.o _ MF.o) ?_;rintro e_ w14 ⟨rfl,hb_⟩;have ME:=bt_ MF hb_;replace F1:=hk_ F1 hb_;replace FP:=hk_ FP hb_;replace FC:=hk_ FC hb_;replace F5:=hk_ F5 hb_;replace F6:=hk_ F6 hb_;replace HR:=hd_ (HR.o.below hb_ nr_);clear MF;clear hb_;go_wp2_with fail;refine cm_ (N4.o _ ME.o) ?_;rintro e_ w15 ⟨rfl,hb_⟩;have MD:=bt_ ME hb_;replace F1:=hk_ F1 hb_;replace FP:=hk_ FP hb_;replace FC:=hk_ FC hb_;replace F5:=hk_ F5 hb_;replace F6:=hk_ F6 hb_;replace HR:=hd_ (HR.o.below hb_ nr_);clear ME;clear hb_;go_wp2_with fail;have MC:=hd_ (MD.o.alloc MD.o.size (.cells #[.string (itx q3.num),.string (dec q3.den),.string (itx q4.num),.string (dec q4.den)] 101));have FA:Hid ((w15.alloc (.cells #[.string (itx q3.num),.string (dec q3.den),.string (itx q4.num),.string (dec q4.den)] 101)).heap[w15.heap.size]?=some (.cells #[.string (itx q3.num),.string (dec q3.den),.string (itx q4.num),.string (dec q4.den)] 101 (0,0))):=heap_alloc_new w15 _;replace F1:=hd_ (Kh F1.o (.cells #[.string (itx q3.num),.string (dec q3.den),.string (itx q4.num),.string (dec q4.den)] 101));replace FP:=hd_ (Kh FP.o (.cells #[.string (itx q3.num),.string (dec q3.den),.string (itx q4.num),.string (dec q4.den)] 101));replace FC:=hd_ (Kh FC.o (.cells #[.string (itx q3.num),.string (dec q3.den),.string (itx q4.num),.string (dec q4.den)] 101));replace F5:=hd_ (Kh F5.o (.cells #[.string (itx q3.num),.string (dec q3.den),.string (itx q4.num),.string (dec q4.den)] 101));replace F6:=hd_ (Kh F6.o (.cells #[.string (itx q3.num),.string (dec q3.den),.string (itx q4.num),.string (dec q4.den)] 101));replace HR:=hd_ (HR.o.below ((Below.refl w15.heap.size w15).alloc nr_ (.cells #[.string (itx q3.num),.string (dec q3.den),.string (itx q4.num),.string (dec q4.den)] 101)) nr_);clear MD;generalize hg_:w15.heap.size=ga3 at *;generalize hw_:w15.alloc (.cells #[.string (itx q3.num),.string (dec q3.den),.string (itx q4.num),.string (dec q4.den)] 101)=w16 at *;clear hg_ hw_;refine cm_ (HC.o _ MC.o _ _ (Ye FP.o) (Ye FA.o)) ?_;rintro e_ w17 ⟨rfl,hb_⟩;have li:=bt_ MC hb_;replace F1:=hk_ F1 hb_;replace FP:=hk_ FP hb_;replace FC:=hk_ FC hb_;replace F5:=hk_ F5 hb_;replace F6:=hk_ F6 hb_;replace FA:=hk_ FA hb_;replace HR:=hd_ (HR.o.below hb_ nr_);clear MC;clear hb_ HC FA N3 N4 FP;go_wp2_with fail;obtain⟨k0,k1,k2,-⟩:=Kd F1.o;obtain⟨k3,k4,k5,-⟩:=Kd FC.o;obtain⟨k6,k7,-,-⟩:=Ka F5.o;obtain⟨k8,k9,-,-⟩:=Ka F6.o;obtain⟨br,orr,rfl,hbr,Gn⟩:=HR.o.open (by decide);have kr:w17.cell? ⟨br,orr+5,none⟩=some (.string (dec 811)):=Gn 5 _ rfl;have q0:=NW.cell k0;have q1:=NW.cell k1;have q2:=NW.cell k2;have q3:=NW.cell k3;have q4:=NW.cell k4;have oF:=NW.cell k5;have oE:=NW.cell k6;have q7:=NW.cell k7;have q8:=NW.cell k8;have q9:=NW.cell k9;have qr:=NW.cell kr;have IM:(dec 811)=⟨#[56,49,49]⟩:=by
  have:(dec 811).data = #[56,49,49]:=by decide +kernel
  exact ByteArray.ext this
 have nV:b12=⟨#[49,50]⟩:=by
  rw[<- m6.o];have:(dec 12).data = #[49,50]:=by decide +kernel
  exact ByteArray.ext this
 rw[IM] at qr;rw[nV] at q2;have gn:Nonempty (NW w17):=⟨⟨w17,Below.refl _ _⟩⟩;have I:Hid (Bw_ w17 w17.drew):=(Below.refl _ _).drew;clear k0 k1 k2 k3 k4 k5 k6 k7 k8 k9 kr Gn IM nV hbr HR F1 FC F5 F6;refine wn_ 57 [(2,0),(2,1),(2,2),(1,3),(2,4),(2,5),(2,6),(2,7),(2,8),(2,9),(2,10),(2,11),(2,12),(1,13),(2,14),(2,15),(2,16),(2,17),(1,18),(2,19),(2,20),(2,21),(2,22),(1,23),(2,24),(2,25),(2,26),(2,27),(2,28),(1,29),(2,30),(2,31),(1,32),(2,33),(2,34),(2,35),(2,36),(2,37),(2,38),(2,39),(1,40),(0,41),(2,42),(2,43),(2,44),(1,45),(0,46),(2,47),(2,48),(2,49),(2,50),(2,51),(2,52),(2,53),(2,54),(2,55),(2,56),(0,57)] I ?_;refine wa_ rfl ?_
 first | go_big_quiet_step (fail) | quiet_step (fail)
 refine wq_ ?_;refine wa_ rfl ?_
 first | go_big_quiet_step (fail) | quiet_step (fail)
 refine wq_ ?_;refine wa_ rfl ?_
 first | go_big_quiet_step (fail) | quiet_step (fail)
 refine wq_ ?_;refine wr_ rfl ?_
 first | go_big_quiet_step (fail) | quiet_step (fail)
 refine wq_ ?_;refine wa_ rfl ?_
 first | go_big_quiet_step (fail) | quiet_step (fail)
 refine wq_ ?_;refine wa_ rfl ?_;refine BigFrame.wpQuiet_want rfl fun K hK=>Zo7 _ _ _ 3 3 3 3 _ _ rfl rfl rfl (hK _ ?_)
 refine wq_ ?_;refine wa_ rfl ?_
 first | go_big_quiet_step (fail) | quiet_step (fail)
 refine wq_ ?_;refine wa_ rfl ?_
 first | go_big_quiet_step (fail) | quiet_step (fail)
 refine wq_ ?_;refine wa_ rfl ?_
 first | go_big_quiet_step (fail) | quiet_step (fail)
 refine wq_ ?_;refine wa_ rfl ?_
 first | go_big_quiet_step (fail) | quiet_step (fail)
 refine wq_ ?_;refine wa_ rfl ?_
 first | go_big_quiet_step (fail) | quiet_step (fail)
 refine wq_ ?_;refine wa_ rfl ?_
 first | go_big_quiet_step (fail) | quiet_step (fail)
 refine wq_ ?_;refine wa_ rfl ?_
 first | go_big_quiet_step (fail) | quiet_step (fail)
 refine wq_ ?_;refine wr_ rfl ?_
 first | go_big_quiet_step (fail) | quiet_step (fail)
 refine wq_ ?_;refine wa_ rfl ?_
 first | go_big_quiet_step (fail) | quiet_step (fail)
 refine wq_ ?_;refine wa_ rfl ?_
 first | go_big_quiet_step (fail) | quiet_step (fail)
 refine wq_ ?_;refine wa_ rfl ?_
 first | go_big_quiet_step (fail) | quiet_step (fail)
 refine wq_ ?_;refine wa_ rfl ?_
 first | go_big_quiet_step (fail) | quiet_step (fail)
 refine wq_ ?_;refine wr_ rfl ?_
 first | go_big_quiet_step (fail) | quiet_step (fail)
 refine wq_ ?_;refine wa_ rfl ?_
 first | go_big_quiet_step (fail) | quiet_step (fail)
 refine wq_ ?_;refine wa_ rfl ?_
 first | go_big_quiet_step (fail) | quiet_step (fail)
 refine wq_ ?_;refine wa_ rfl ?_
 first | go_big_quiet_step (fail) | quiet_step (fail)
 refine wq_ ?_;refine wa_ rfl ?_
 first | go_big_quiet_step (fail) | quiet_step (fail)
 refine wq_ ?_;refine wr_ rfl ?_
 first | go_big_quiet_step (fail) | quiet_step (fail)
 refine wq_ ?_;refine wa_ rfl ?_
 first | go_big_quiet_step (fail) | quiet_step (fail)
 refine wq_ ?_;refine wa_ rfl ?_
 first | go_big_quiet_step (fail) | quiet_step (fail)
 refine wq_ ?_;refine wa_ rfl ?_
 first | go_big_quiet_step (fail) | quiet_step (fail)
 refine wq_ ?_;refine wa_ rfl ?_
 first | go_big_quiet_step (fail) | quiet_step (fail)
 refine wq_ ?_;refine wa_ rfl ?_
 first | go_big_quiet_step (fail) | quiet_step (fail)
 refine wq_ ?_;refine wr_ rfl ?_
 first | go_big_quiet_step (fail) | quiet_step (fail)
 refine wq_ ?_;refine wa_ rfl ?_
 first | go_big_quiet_step (fail) | quiet_step (fail)
 refine wq_ ?_;refine wa_ rfl ?_
 first | go_big_quiet_step (fail) | quiet_step (fail)
 refine wq_ ?_;refine wr_ rfl ?_
 first | go_big_quiet_step (fail) | quiet_step (fail)
 refine wq_ ?_;refine wa_ rfl ?_
 first | go_big_quiet_step (fail) | quiet_step (fail)
 refine wq_ ?_;refine wa_ rfl ?_
 first | go_big_quiet_step (fail) | quiet_step (fail)
 refine wq_ ?_;refine wa_ rfl ?_
 first | go_big_quiet_step (fail) | quiet_step (fail)
 refine wq_ ?_;refine wa_ rfl ?_
 first | go_big_quiet_step (fail) | quiet_step (fail)
 refine wq_ ?_;refine wa_ rfl ?_
 first | go_big_quiet_step (fail) | quiet_step (fail)
 refine wq_ ?_;refine wa_ rfl ?_
 first | go_big_quiet_step (fail) | quiet_step (fail)
 refine wq_ ?_;refine wa_ rfl ?_
 first | go_big_quiet_step (fail) | quiet_step (fail)
 refine wq_ ?_;refine wr_ rfl ?_
 first | go_big_quiet_step (fail) | quiet_step (fail)
 refine wq_ ?_;refine wm_ rfl ?_;go_wp2_with fail;refine cm_ (N5.o _ (bu_ li I.o)) ?_;rintro e_ y1 ⟨rfl,hb_⟩;have J1:Hid (Bw_ w17 y1):=I.o.trans (hb_.mono I.o.size);clear hb_ I;go_wp2_with fail;refine⟨⟨⟨_,J1.o⟩,rfl⟩,?_⟩;refine wa_ rfl ?_;refine BigFrame.wpQuiet_want rfl fun K hK=>Zfe _ _ _ q5 q5 rfl rfl rfl (hK _ ?_)
 refine wq_ ?_;refine wa_ rfl ?_
 first | go_big_quiet_step (fail) | quiet_step (fail)
 refine wq_ ?_;refine wa_ rfl ?_
 first | go_big_quiet_step (fail) | quiet_step (fail)
 refine wq_ ?_;refine wr_ rfl ?_
 first | go_big_quiet_step (fail) | quiet_step (fail)
 refine wq_ ?_;clear gn q0 q1 q2 q3 q4 oF oE q7 q8 q9 qr;refine wm_ rfl ?_;go_wp2_with fail;refine cm_ (N6.o _ (bu_ li J1.o)) ?_;rintro e_ y2 ⟨rfl,hb_⟩;have J2:Hid (Bw_ w17 y2):=J1.o.trans (hb_.mono J1.o.size);clear hb_ J1;go_wp2_with fail;refine⟨⟨⟨_,J2.o⟩,rfl⟩,?_⟩;refine wa_ rfl ?_;refine BigFrame.wpQuiet_want rfl fun K hK=>Zfe _ _ _ q6 q6 rfl rfl rfl (hK _ ?_)
 refine wq_ ?_;refine wa_ rfl ?_
 first | go_big_quiet_step (fail) | quiet_step (fail)
 refine wq_ ?_;refine wa_ rfl ?_
 first | go_big_quiet_step (fail) | quiet_step (fail)
 refine wq_ ?_;refine wa_ rfl ?_
 first | go_big_quiet_step (fail) | quiet_step (fail)
 refine wq_ ?_;refine wa_ rfl ?_
 first | go_big_quiet_step (fail) | quiet_step (fail)
 refine wq_ ?_;refine wa_ rfl ?_
 first | go_big_quiet_step (fail) | quiet_step (fail)
 refine wq_ ?_;refine wa_ rfl ?_
 first | go_big_quiet_step (fail) | quiet_step (fail)
 refine wq_ ?_;refine wa_ rfl ?_
 first | go_big_quiet_step (fail) | quiet_step (fail)
 refine wq_ ?_;refine wa_ rfl ?_
 first | go_big_quiet_step (fail) | quiet_step (fail)
 refine wq_ ?_;refine wa_ rfl ?_
 first | go_big_quiet_step (fail) | quiet_step (fail)
 refine wq_ ?_;refine wm_ rfl ?_;go_wp2_with fail;simp only[RP.walkR];go_wp2_with fail;go_ret;exact⟨rfl,li.o.trans (J2.o.mono li.o.size)⟩
def okE (s:ByteArray):Prop:=s.size<=5\/(31<s.size/\s.size<=40)
instance (s:ByteArray):Decidable (okE s):=inferInstanceAs (Decidable (_\/_))
theorem Zuf(L:List (Int×Int×ByteArray))(k:Nat)(h:k<L.length):
  (Qu L)[k*3]?=some (.int .i64 L[k].1)/\(Qu L)[k*3+1]?=some (.int .i64 L[k].2.1)/\(Qu L)[k*3+2]?=some (.string L[k].2.2):=by
 induction L generalizing k with
 | nil=>exact absurd h (Nat.not_lt_zero _)
 | cons x l ih =>
  have e:Qu (x::l) = .int .i64 x.1 :: .int .i64 x.2.1 :: .string x.2.2::Qu l:=rfl;rw[e];cases k with
  | zero=>exact⟨rfl,rfl,rfl⟩
  | succ k =>
   obtain⟨h0,h1,h2⟩:=ih k (by simpa using h);refine⟨?_,?_,?_⟩
   ·rw[show (k+1)*3=k*3+3 by omega];exact h0
   ·rw[show (k+1)*3+1=k*3+1+3 by omega];exact h1
   ·rw[show (k+1)*3+2=k*3+2+3 by omega];exact h2
theorem Zvx{w wr:World}{a:OA_}{L:List (Int×Int×ByteArray)}{B:Nat}(h:Rd w a (Qu L))(hb:Below B w wr)(hB:w.heap.size<=B)(k:Nat)(hk:k<L.length):
  ∃ b off,a=some ⟨b,off,none⟩/\wr.cell? ⟨b,off+k*3,none⟩=some (.int .i64 L[k].1)/\wr.cell? ⟨b,off+k*3+1,none⟩=some (.int .i64 L[k].2.1)/\wr.cell? ⟨b,off+k*3+2,none⟩=some (.string L[k].2.2):=by
 obtain⟨b,off,rfl,eW,hcells⟩:=h.open (by rw[Zlv];omega);obtain⟨x0,x1,x2⟩:=Zuf L k hk;have y0:=hcells _ _ x0;have y1:=hcells _ _ x1;have y2:=hcells _ _ x2;rw[<- hb.cell (p:=⟨b,off+k*3,none⟩) (Nat.lt_of_lt_of_le eW hB)] at y0;rw[<- Nat.add_assoc,<- hb.cell (p:=⟨b,off+k*3+1,none⟩) (Nat.lt_of_lt_of_le eW hB)] at y1;rw[<- Nat.add_assoc,<- hb.cell (p:=⟨b,off+k*3+2,none⟩) (Nat.lt_of_lt_of_le eW hB)] at y2;exact⟨b,off,rfl,y0,y1,y2⟩
theorem Qan(x y:Int×Int×ByteArray):(x.1==y.1&&x.2.1==y.2.1&&x.2.2.toList==y.2.2.toList)=decide (x=y):=by
 by_cases h:x=y
 ·subst h;simp
 ·rw[decide_eq_false h,Bool.eq_false_iff];intro hc;rw[Bool.and_eq_true,Bool.and_eq_true] at hc;exact h (Prod.ext (eq_of_beq hc.1.1) (Prod.ext (eq_of_beq hc.1.2) (toList_inj hc.2)))
theorem Zwe(W:World)(p n p' n':Int)(s s':ByteArray):
  (binOp .neq 124 (.agg #[.int .i64 p,.int .i64 n,.string s]) (.agg #[.int .i64 p',.int .i64 n',.string s'])).run Tryz.prog W = .ok (.bool (!(p==p'&&n==n'&&s.toList==s'.toList))) W:=by
 rw[run_neq_struct,show (10000:Nat)=9998+1+1 from rfl,run_equalIn_agg (ht:=Zq0) (hp:=Zvb),Zh9 W _ p n p' n' s s' _ Zrw];rfl
theorem Zo6{C:World->Prop}{K:Act->Prop}{a:Act}{o:Oper}(x y:Operand)(r:TypeId)(p q:Int×Int×ByteArray)(h:o.op = .binOp .neq 124 x y r)(hx:a.eval x = .agg #[.int .i64 p.1,.int .i64 p.2.1,.string p.2.2])(hy:a.eval y = .agg #[.int .i64 q.1,.int .i64 q.2.1,.string q.2.2])
  (hk:K (a.put o.dst (.bool (!decide (p=q))))):o.quiet Tryz.prog a C K :=
 ⟨_,fun w _=>by
  unfold Oper.quietAt execOp;rw[h];simp only[Sem.run_bind,hx,hy,Zh5,Zwe,Result.andThen_ok,Sem.run_pure,Qan];exact⟨rfl,rfl⟩,hk⟩
theorem Zui(w:World)(a1 a2:OA_)(c1 c2:Nat)(la lb:List (Int×Int×ByteArray))(r1:Rd w a1 (Qu la))(r2:Rd w a2 (Qu lb))(ft:la.length<=1000000)(hbig2:lb.length<=1000000):
  Kc Tryz.prog 122 #[.slice a1 la.length c1,.slice a2 lb.length c2] w (.bool (decide (la=lb))):=by
 unfold Kc
 by_cases hl:la.length=lb.length
 ·have R1:=hd_ r1;have R2:=hd_ r2;have aY:Hid (∀ k,(∀ j (h1:j<la.length) (h2:j<lb.length),j<k->la[j]=lb[j])->k=la.length->la=lb):=fun k h hk=>List.ext_getElem hl fun i h1 h2=>h i h1 h2 (by omega)
  have it:Hid (∀ k (h1:k<la.length) (h2:k<lb.length),la[k]≠lb[k]->¬ la=lb):=fun k h1 h2 gh he=>gh (by subst he;rfl)
  obtain⟨n,hn⟩:∃ n,la.length=n:=⟨_,rfl⟩;have hm:lb.length=n:=hl.symm.trans hn;rw[hn] at ft;rw[hn,hm];have Hn:=hd_ hn;have Hm:=hd_ hm;clear hl r1 r2 hn hm hbig2;go_enter Tryz.func122,Tryz.ntmps122;go_wp2_with fail
  go_loopw [13] (fun i wr=>∃ k:Nat,k<=n/\i = .int .i64 k/\Hid (∀ j (h1:j<la.length) (h2:j<lb.length),j<k->la[j]=lb[j])/\Hid (Bw_ w wr)) (fun i _=>n-(intOf i).toNat)
  case atStart=>exact⟨0,Nat.zero_le _,rfl,fun j _ _ hj=>absurd hj (Nat.not_lt_zero _),Below.refl _ _⟩
  case round =>
   obtain⟨k,hk,rfl,Hp,B⟩:=hrel
   by_cases H7:k<n
   ·have gi:(k:Int)<n:=by omega
    have h1:k<la.length:=by rw[Hn.o];exact H7
    have h2:k<lb.length:=by rw[Hm.o];exact H7
    obtain⟨b,off,rfl,x0,x1,x2⟩:=Zvx R1.o B.o nr_ k h1;obtain⟨b',off',rfl,y0,y1,y2⟩:=Zvx R2.o B.o nr_ k h2;have cX:Hid (la[k]=lb[k]->∀ j (h1:j<la.length) (h2:j<lb.length),j<k+1->la[j]=lb[j]):=fun he j g1 g2 hj=>by
     rcases Nat.lt_or_ge j k with h|h
     ·exact Hp.o j g1 g2 h
     ·have e:j=k:=by omega
      subst e;exact he
    have Al:=hd_ (it.o k h1 h2);clear Hp;generalize la[k]=p at *;generalize lb[k]=q at *;have q0:=cell_regrown x0;have q1:=cell_regrown x1;have q2:=cell_regrown x2;have q3:=cell_regrown y0;have q4:=cell_regrown y1;have q5:=cell_regrown y2;have HK:=hd_ H7;go_wp2_with fail;clear x0 x1 x2 y0 y1 y2;refine wp_region_quiet_below (by kernel_rfl) (by kernel_rfl) ?_
    repeat (first | go_big_quiet_step (fail) | quiet_step (fail))
    refine BigFrame.wpQuiet_want rfl fun K hK=>Zo6 _ _ _ p q rfl rfl rfl (hK _ ?_)
    refine wq_ ?_;intro w6 Bm;obtain⟨⟨dq,osq⟩,rfl⟩:=Bm;have B6:=hd_ (B.o.trans ((below_regrown wr dq osq).mono B.o.size));clear q0 q1 q2 q3 q4 q5 B;generalize Go.Sort.grow (redrawn wr dq) osq=w6 at *
    by_cases hpq:p=q
    ·rw[decide_eq_true hpq];have Hq:=hd_ (cX.o hpq);clear hpq cX Al;go_wp2_with fail
     go_roundw
     case rel=>exact⟨k+1,HK.o,by go_num,Hq,B6⟩
     case measure=>simp[intOf];omega
    ·rw[decide_eq_false hpq];have Hz:Hid (decide (la=lb)=false):=decide_eq_false (Al.o hpq);clear hpq cX Al;go_wp2_with fail;go_ret;exact⟨by rw[Hz.o];rfl,B6.o⟩
   ·have gi:¬ (k:Int)<n:=by omega
    have Hz:Hid (decide (la=lb)=true):=decide_eq_true (aY.o k Hp.o (by rw[Hn.o];omega));clear Hp;go_wp2_with fail;go_ret;exact⟨by rw[Hz.o];rfl,B.o⟩
 ·have Hz:Hid (decide (la=lb)=false):=decide_eq_false fun h=>hl (by rw[h])
  have gh:((la.length:Int)==lb.length)=false:=by rw[beq_eq_false_iff_ne];omega
  clear r1 r2 hl;generalize la.length=n at *;generalize lb.length=m at *;go_enter Tryz.func122,Tryz.ntmps122;go_wp2_with fail;go_ret;exact⟨by rw[Hz.o];rfl,Below.refl _ _⟩
theorem Znj{T:Nat->Bool}(h:T 1000=true):∃ n,Zbk T n:=by
 have Gg:∀ k,k<=1000->T k=true->∃ n,Zbk T n:=by
  intro k
  induction k with
  | zero=>intro _ h;exact⟨0,h,.inl rfl,by decide⟩
  | succ k ih =>
   intro hk h;cases hT:T k
   ·exact⟨k+1,h,.inr (by simpa using hT),hk⟩
   ·exact ih (by omega) hT
 exact Gg 1000 nr_ h
theorem Zp6(w:World)(a0 a1:OA_)(c0 c1:Nat)(ps:List Int)(l:List Rat)(rp:Rd w a0 (Vd ps))(rl:Rd w a1 (Kj l))(hi:Zi6 ps)(hl:l.length=ps.length)(hn:ps.length<=100)(hs:∀ q∈l,Sm 30 q)
  (GD:Qx ps=0) (hnz:l.any nzQ=false) (L:Qa w) :
  Kc Tryz.prog 56 #[.slice a0 ps.length c0,.slice a1 ps.length c1] w (.tuple #[Zfr 0 0 none 0 0,.int .i64 0]):=by
 unfold Kc Zfr;have gm:=hd_ ((Below.refl w.heap.size w).alloc nr_ (.cells #[.int .i64 0,.int .i64 0,.slice none 0 0] 46));have ge:Hid ((w.alloc (.cells #[.int .i64 0,.int .i64 0,.slice none 0 0] 46)).heap[w.heap.size]?=some (.cells #[.int .i64 0,.int .i64 0,.slice none 0 0] 46 (0,0))):=heap_alloc_new w _;have HC:=hd_ (fun W (hW:Bw_ w W)=>Zdp W a0 a1 c0 c1 ps l (rp.below hW nr_) (rl.below hW nr_) hi hl hn hs GD (L.below hW));have HZ:=hd_ (fun W (hW:Bw_ w W)=>Zgp W a1 c1 l (rl.below hW nr_) (by omega));rw[hnz,hl] at HZ;clear rp rl hi hl hn hs GD hnz L;generalize ps.length=n1 at *;go_enter Tryz.func56,Tryz.ntmps56;go_wp2_with fail;generalize w.alloc (.cells #[.int .i64 0,.int .i64 0,.slice none 0 0] 46)=W0 at *;refine cm_ (HC.o _ gm.o) ?_;rintro e w1 ⟨rfl,hb⟩;have gq:Hid (w1.heap[w.heap.size]?=some (.cells #[.int .i64 0,.int .i64 0,.slice none 0 0] 46 (0,0))):=by
  show _=_
  rw[hb.block _ (Array.getElem?_eq_some_iff.1 ge.o).1];exact ge.o
 have gO:=bt_ gm hb;clear hb HC ge gm;go_wp2_with fail;refine cm_ (HZ.o _ gO.o) ?_;rintro e w2 ⟨rfl,hb⟩;obtain⟨k0,k1,k2,kf⟩:=Kd (hj_ gq hb);have Au:=bt_ gO hb;have f0:=kf 0;have f1:=kf 1;have f2:=kf 2;clear hb HZ kf gq gO;go_wp2;obtain⟨c0,c1,c2,hb3⟩:=Zbo (.int .i64 0) (.int .i64 0) (.slice none 0 0) k0 k1 k2 nr_ Au.o;generalize ((w2.setCell ⟨w.heap.size,0,none⟩ (.int .i64 0)).setCell ⟨w.heap.size,1,none⟩ (.int .i64 0)).setCell ⟨w.heap.size,2,none⟩ (.slice none 0 0)=w9 at *;exact bodyPost_ret (v := .tuple #[.agg #[.int .i64 0,.int .i64 0,.slice none 0 0],.int .i64 0]) (by simp[results,Tryz.results56,go_sem,c0,c1,c2]) rfl ⟨rfl,hb3⟩
def Qbr (F:FuncId) (args:Array Value) (w:World) (sg n:Int) (BL:List (Int×Int×ByteArray)):Prop :=
 Calls Tryz.prog F args w fun e w'=>∃ a c,e = .returned (.tuple #[Zfr sg n a BL.length c,.int .i64 0])/\Rd w' a (Qu BL)/\Bw_ w w'
theorem Zhl(q:Rat):nzQ q=true↔q≠0:=by
 unfold nzQ;rw[bne_iff_ne];constructor
 ·intro h e;exact h (by rw[e];rfl)
 ·intro h e;exact h (Rat.num_eq_zero.1 (Int.sign_eq_zero_iff_zero.1 e))
theorem Qdd{w w9:World}{a p:OA_}{BL:List (Int×Int×ByteArray)}{g m c:Nat}{x y:Int}{t:TypeId}(h:Rd w a (Qu BL))(hob:w.heap[g]?=some (.cells #[.int .i64 x,.int .i64 y,.slice p m c] t (0,0)))
  (hh:∀ b,b≠g->w9.heap[b]?=w.heap[b]?) (Gu:w9.heap.size=w.heap.size):Rd w9 a (Qu BL):=by
 cases BL with
 | nil=>exact .inl rfl
 | cons z l =>
  rcases h with h|⟨b,off,rfl,hb,hc⟩
  ·cases h
  ·have h2:=hc 2 (.string z.2.2) rfl;have gh:b≠g:=by
    intro e;subst e;rw[cell_of_row w b (off+2) _ t (0,0) hob] at h2;rcases off with _|off
    ·cases h2
    ·rw[show off+1+2=off+3 by omega] at h2;simp at h2
   refine .inr ⟨b,off,rfl,by rw[Gu];exact hb,fun i v hi=>?_⟩;have h3:=hc i v hi;rw[<- h3];simp only[World.cell?,hh b gh]
theorem Zrf(w:World)(a0 a1 a2:OA_)(c0 c1 c2 n:Nat)(dl:List Rat)(sg m:Int)(BL:List (Int×Int×ByteArray))
  (Dd:∀ W,Bw_ w W->Calls Tryz.prog 16 #[.slice a0 n c0,.slice a1 n c1,.slice a2 n c2] W fun e w'=>∃ a c,e = .returned (.tuple #[.slice a n c,.int .i64 0])/\Rd w' a (Kj dl)/\Bw_ W w')
  (Eo:∀ W a c,Bw_ w W->Rd W a (Kj dl)->Qbr 56 #[.slice a0 n c0,.slice a n c] W sg m BL) :
  Qbr 15 #[.slice a0 n c0,.slice a1 n c1,.slice a2 n c2] w sg m BL:=by
 unfold Qbr Zfr at *
 have gm:=hd_ ((Below.refl w.heap.size w).alloc nr_ (.cells #[.int .i64 0,.int .i64 0,.slice none 0 0] 46));have ge:Hid ((w.alloc (.cells #[.int .i64 0,.int .i64 0,.slice none 0 0] 46)).heap[w.heap.size]?=some (.cells #[.int .i64 0,.int .i64 0,.slice none 0 0] 46 (0,0))):=heap_alloc_new w _;have HS:=hd_ (Dd _ gm.o);have HD:=hd_ Eo;clear Dd Eo;obtain⟨bn,JE⟩:∃ bn,BL.length=bn:=⟨_,rfl⟩;rw[JE] at HD ⊢;have rT:=hd_ JE;clear JE;go_enter Tryz.func15,Tryz.ntmps15;go_wp2_with fail;generalize w.alloc (.cells #[.int .i64 0,.int .i64 0,.slice none 0 0] 46)=W0 at *;refine cm_ HS.o ?_;rintro e w1 ⟨a,c,rfl,hr,hb⟩;have gq:=hk_ ge hb;have gO:=bt_ gm hb;have Hr:=hd_ hr;clear hb HS ge gm hr;go_wp2_with fail;refine cm_ (HD.o _ _ _ gO.o Hr.o) ?_;rintro e w2 ⟨b,d,rfl,hr,hb⟩;have Gb:=Zr gq.o hb nr_;obtain⟨k0,k1,k2,kf⟩:=Kd Gb;have Au:=bt_ gO hb;have f0:=kf 0;have f1:=kf 1;have f2:=kf 2;have HR:Hid (Rd (((w2.setCell ⟨w.heap.size,0,none⟩ (.int .i64 sg)).setCell ⟨w.heap.size,1,none⟩ (.int .i64 m)).setCell ⟨w.heap.size,2,none⟩ (.slice b bn d)) b (Qu BL)) :=
  Qdd hr Gb (fun x hx=>by
   rw[Below.heap_setCell _ _ _ _ hx,Below.heap_setCell _ _ _ _ hx,Below.heap_setCell _ _ _ _ hx]) (by simp[World.setCell])
 clear hb HD kf gq gO Hr hr Gb;go_wp2;obtain⟨c0,c1,c2,hb3⟩:=Zbo (.int .i64 sg) (.int .i64 m) (.slice b bn d) k0 k1 k2 nr_ Au.o;generalize ((w2.setCell ⟨w.heap.size,0,none⟩ (.int .i64 sg)).setCell ⟨w.heap.size,1,none⟩ (.int .i64 m)).setCell ⟨w.heap.size,2,none⟩ (.slice b bn d)=w9 at *;exact bodyPost_ret (v := .tuple #[.agg #[.int .i64 sg,.int .i64 m,.slice b bn d],.int .i64 0]) (by simp[results,Tryz.results15,go_sem,c0,c1,c2]) rfl ⟨b,d,rfl,HR.o,hb3⟩
def nI (l:List Nat):List Int:=l.map fun x:Nat=>(x:Int)
theorem Zhp(l:List Nat):(nI l).length=l.length:=List.length_map ..
theorem Zwi(l m:List Nat):nI (l++m)=nI l++nI m:=List.map_append
theorem Qfo(l:List Nat)(k x:Nat):(nI l).set k (x:Int)=nI (l.set k x):=by
 unfold nI;rw[List.map_set]
theorem Qfp(l:List Nat)(i:Nat)(hi:i<l.length)(h:i<(nI l).length):(nI l)[i]=((l.getD i 0:Nat):Int):=by
 simp only[nI,List.getElem_map];rw[List.getD_eq_getElem?_getD,List.getElem?_eq_getElem hi];rfl
theorem Zun.cap2{w:World}{B c:Nat}{a:OA_}{l:List Int}(h:Zun w B a c l):l.length<=c:=by
 rcases h.2 with⟨h1,h0⟩|⟨g,cap,cur,h1,h2,h3,h4,h5⟩
 ·rw[h0];exact Nat.zero_le _
 ·simp only[Value.slice.injEq] at h1;obtain⟨-,-,rfl⟩:=h1;exact h4
structure Zec (ps:List Int) (l:List Rat) (k:Nat) (I:List Nat):Prop where
 len:I.length=(nzL (ps.take k) (l.take k)).length
 at_:∀ i,i<I.length->I.getD i 0<k/\ps.getD (I.getD i 0) 0=((nzL (ps.take k) (l.take k)).getD i (0,0)).1/\l.getD (I.getD i 0) 0=((nzL (ps.take k) (l.take k)).getD i (0,0)).2
theorem Zec.start(ps:List Int)(l:List Rat):Zec ps l 0 []:=⟨by simp[nzL],fun i hi=>absurd hi (Nat.not_lt_zero i)⟩
theorem Zb2{α:Type}(l:List α)(k:Nat)(d : α)(h:k<l.length):l.getD k d=l[k]:=by
 rw[List.getD_eq_getElem?_getD,List.getElem?_eq_getElem h];rfl
theorem Zec.skip{ps:List Int}{l:List Rat}{k:Nat}{I:List Nat}(h:Zec ps l k I)(h1:k<ps.length)(h2:k<l.length)(hz:(l.getD k 0).num=0):Zec ps l (k+1) I:=by
 rw[Zb2 l k 0 h2] at hz;have e:=Zri ps l k h1 h2;rw[if_pos hz,List.append_nil] at e;refine⟨by rw[e];exact h.len,fun i hi=>?_⟩;rw[e];obtain⟨g1,g2⟩:=h.at_ i hi;exact⟨by omega,g2⟩
theorem Zec.push{ps:List Int}{l:List Rat}{k:Nat}{I:List Nat}(h:Zec ps l k I)(h1:k<ps.length)(h2:k<l.length)(hz:(l.getD k 0).num≠0):Zec ps l (k+1) (I++[k]):=by
 have MN:=hz;rw[Zb2 l k 0 h2] at MN;have e:=Zri ps l k h1 h2;rw[if_neg MN] at e;refine⟨by rw[e,List.length_append,List.length_append,h.len];rfl,fun i hi=>?_⟩;rw[List.length_append,List.length_singleton] at hi;rw[e];rcases Nat.lt_or_ge i I.length with H7|aA
 ·obtain⟨g1,g2,g3⟩:=h.at_ i H7;have e1:(I++[k]).getD i 0=I.getD i 0:=by rw[List.getD_eq_getElem?_getD,List.getElem?_append_left H7,<- List.getD_eq_getElem?_getD]
  have e2:∀ x,(nzL (ps.take k) (l.take k)++[x]).getD i (0,0)=(nzL (ps.take k) (l.take k)).getD i (0,0):=fun x=>by rw[List.getD_eq_getElem?_getD,List.getElem?_append_left (by rw[<- h.len];exact H7),<- List.getD_eq_getElem?_getD]
  rw[e1,e2];exact⟨by omega,g2,g3⟩
 ·obtain rfl:i=I.length:=by omega
  have e1:(I++[k]).getD I.length 0=k:=by rw[List.getD_eq_getElem?_getD,List.getElem?_append_right nr_,Nat.sub_self];rfl
  have e2:∀ x,(nzL (ps.take k) (l.take k)++[x]).getD I.length (0,0)=x:=fun x=>by rw[List.getD_eq_getElem?_getD,h.len,List.getElem?_append_right nr_,Nat.sub_self];rfl
  rw[e1,e2,Zb2 l k 0 h2,Zb2 ps k 0 h1];exact⟨by omega,rfl,rfl⟩
theorem Zec.all{ps:List Int}{l:List Rat}{I:List Nat}(h:Zec ps l ps.length I)(hl:l.length=ps.length):I.length=(nzL ps l).length/\∀ i,i<I.length->I.getD i 0<ps.length/\ps.getD (I.getD i 0) 0=((nzL ps l).getD i (0,0)).1/\l.getD (I.getD i 0) 0=((nzL ps l).getD i (0,0)).2:=by
 have h1:=h.len;have h2:=h.at_;rw[List.take_length,List.take_of_length_le (by omega)] at h1 h2;exact⟨h1,h2⟩
theorem Qbc(n:Nat)(ps:List Int)(l:List Rat)(i:Nat)(h:i<(nzL ps l).length):(Zbj n ps l).length=(nzL ps l).length/\∀ h':i<(Zbj n ps l).length,(Zbj n ps l)[i]=(((nzL ps l).getD i (0,0)).1,(n:Int),dec (lgN ((nzL ps l).getD i (0,0)).1 n)):=by
 rw[Zb2 _ i _ h];refine⟨by rw[Zqi,List.length_map],fun h'=>?_⟩;simp only[Zqi,List.getElem_map]
theorem Qdj(I:List Nat)(i:Nat)(h:i<I.length):(Vd (nI I))[i]?=some (.int .i64 (I.getD i 0:Nat)):=by
 rw[Zb2 I i 0 h];simp[Vd,nI,h]
theorem Qie(j:Nat)(hj:j<=6):Vf ((2*10^55)^j):=by
 have h1:(2*10^55)^j<=(2*10^55)^6:=Nat.pow_le_pow_right (by decide) hj;exact Zgo (m:=40) (Nat.lt_of_le_of_lt h1 (by decide +kernel)) (by decide)
theorem Qeo{p:Int}(hp:p∈Vj){n:Nat}(hn:n<=64){sg:Int}{q:Rat}:atB sg n p q<=10^25:=by
 have h:=Zlb hp hn;unfold atB;have h2:(2:Nat)^80+1<=10^25:=by decide
 split<;>omega
theorem Qif{p:Int}(hp:p∈Vj){n:Nat}(hn:n<=64)(sg:Int)(q:Rat):Vf (atB sg n p q):=Zay (Nat.lt_of_le_of_lt (Qeo hp hn) (by decide +kernel))
theorem Zte(w:World):Calls Tryz.prog 68 #[.int .i64 1] w fun e w'=>∃ a c,e = .returned (.agg #[.bool false,.slice a (wN 1).length c])/\IsX w' a c 1/\Bw_ w w':=by
 have h:=Zpe w 1 (by decide) (by decide);unfold Zdh igV at h;exact h
theorem vo_:Vf 1:=by unfold Vf;rw[Vs];decide
theorem vt_{a b:Nat}(h:a<=b):(10:Nat)^a<=10^b:=Nat.pow_le_pow_right (by decide) h
theorem vs_{q:Rat}(h:Sm 30 q):Vf q.num.natAbs/\Vf q.den:=by
 have e:=vt_ (show 30<=400 by decide)
 exact⟨Zay (Nat.lt_of_lt_of_le h.1 e),Zay (Nat.lt_of_lt_of_le h.2 e)⟩
theorem Zul(w:World)(x s1 s2:Nat)(r1 r2:OA_)(h1:IsX w r1 s1 x)(h2:IsX w r2 s2 1)(l1:Vf x):Calls Tryz.prog 67 #[.agg #[.bool false,.slice r1 (wN x).length s1],.agg #[.bool false,.slice r2 (wN 1).length s2]] w fun e w'=>∃ a c,e = .returned (.agg #[.bool false,.slice a (wN (x+1)).length c])/\IsX w' a c (x+1)/\Bw_ w w':=by
 have h:=Zl2 w (x:Int) ((1:Nat):Int) r1 r2 s1 s2 h1 h2 l1 vo_;unfold Zdh at h;rw[<- Int.natCast_add] at h
 simpa only[Zh4,Int.natAbs_natCast] using h
theorem Zon(w:World)(z:Int)(d t:Nat)(a1 a2 b1 b2:OA_)(c1 c2 e1 e2:Nat)(h1:IsX w a1 c1 z.natAbs)(g1:IsX w b1 e1 d)(h2:IsX w a2 c2 t)(g2:IsX w b2 e2 1)(l1:Vf z.natAbs)(l2:Vf t)(m1:Vf d):Calls Tryz.prog 70 #[.agg #[.bool (decide (z<0)),.slice a1 (wN z.natAbs).length c1,.slice b1 (wN d).length e1],.agg #[.bool false,.slice a2 (wN t).length c2,.slice b2 1 e2]] w fun e w'=>∃ a c b e',e = .returned (.agg #[.bool (decide (z*(t:Int)<0)),.slice a (wN (z*(t:Int)).natAbs).length c,.slice b (wN (d*1)).length e'])/\IsX w' a c (z*(t:Int)).natAbs/\IsX w' b e' (d*1)/\Bw_ w w':=by
 have h:=Zso w z (t:Int) d 1 a1 a2 b1 b2 c1 c2 e1 e2 h1 h2 g1 g2 l1 l2 m1 vo_;unfold Ze4 frX at h;rw[decide_eq_false (show ¬ (t:Int)<0 by omega),Int.natAbs_natCast,Vs] at h;exact h
theorem Zh6{w w':World}{B N c:Nat}{a:OA_}{V:List Value}(h:w.ownsRow B 121 3 (.slice a N c) N V)(hb:Bw_ w w')(hN:0<N):∃ g,a=some ⟨g,0,none⟩/\N<=c/\∀ j,j<N*3->w'.cell? ⟨g,j,none⟩=V[j]?:=by
 obtain⟨g,cap,hv,h1,h2,h3,h4,h5⟩:=Qz h hN;simp only[Value.slice.injEq] at hv;obtain⟨rfl,-,rfl⟩:=hv;exact⟨g,rfl,h3,fun j hj=>by rw[hb.cell (p:=⟨g,j,none⟩) h2];exact h4 j hj⟩
theorem Zw5{w w':World}{B c:Nat}{a:OA_}{I:List Nat}(h:w.ownsRow B 3 1 (.slice a I.length c) I.length (Vd (nI I)))(hb:Bw_ w w')(hN:0<I.length):∃ g,a=some ⟨g,0,none⟩/\I.length<=c/\∀ j,j<I.length->w'.cell? ⟨g,j,none⟩=some (.int .i64 (I.getD j 0:Nat)):=by
 obtain⟨g,cap,hv,h1,h2,h3,h4,h5⟩:=Qz h hN;simp only[Value.slice.injEq] at hv;obtain⟨rfl,-,rfl⟩:=hv;exact⟨g,rfl,h3,fun j hj=>by rw[hb.cell (p:=⟨g,j,none⟩) h2,h4 j (by omega)];exact Qdj I j hj⟩
theorem Zhg(w:World)(a0 a a3:OA_)(c0 c c3 n:Nat)(sg:Int)(ps:List Int)(l:List Rat)(hp:Rd w a0 (Vd ps))(hr:Rd w a (Kj l))(hs:∀ p∈ps,p∈Vj)(ho:∀ i,0<i->i<ps.length->ps.getD (i-1) 0<ps.getD i 0)(h0:0<ps.length)(h6:ps.length<=6)(hl:l.length=ps.length)(hq:∀ q∈l,Sm 30 q)
  (EZ:sg=1\/sg = -1) (hn:n<=64) (gh:0<(nzL ps l).length) (hB:Rd w a3 (Qu (Zbj n ps l))) :
  Kc Tryz.prog 18 #[.slice a0 ps.length c0,.slice a ps.length c,Zfr sg n a3 (Zbj n ps l).length c3] w (.bool (Zzc sg (Zdx sg n (nzL ps l)).1)):=by
 unfold Kc Zfr;have Be:=hd_ (fun W (hW:Bw_ w W)=>Zmp W a0 a c0 c ps l (hp.below hW nr_) (hr.below hW nr_) hs ho h0 h6 hl hq);have Bi:=hd_ (fun W (hW:Bw_ w W)=>Znh W a c l (hr.below hW nr_) (fun q h=>(hq q h).le (by decide)) (by omega));rw[hl] at Be Bi;have Hp:=hd_ hp;have HB:=hd_ hB;have LC:∀ x∈nzL ps l,x.1∈Vj/\Sm 30 x.2:=fun x hx=>⟨hs _ (Zk3 hx).1,hq _ (Zk3 hx).2.1⟩
 have aO:=fun i h=>Qbc n ps l i h
 have jH:=hd_ (aO 0 gh).1;have AI:=hd_ (fun i (h:i<(nzL ps l).length)=>(aO i h).2);have Cj:=hd_ (fun k I (h:Zec ps l k I) (h1:k<ps.length) hz=>h.skip h1 (by omega) hz);have Ck:=hd_ (fun k I (h:Zec ps l k I) (h1:k<ps.length) hz=>h.push h1 (by omega) hz);have EI:=hd_ (fun I (h:Zec ps l ps.length I)=>h.all hl);have BT:=hd_ (Zec.start ps l);have gt:=hd_ hl;have NZ:Hid (∀ i,i<ps.length->(Vd ps)[i]?=some (.int .i64 (ps.getD i 0))):=fun i h=>by rw[Yn ps i h,Zb2 ps i 0 h]
 clear hp hr hs ho hq hB aO
 -- the terms
 obtain⟨TT,hTT⟩:∃ TT,nzL ps l=TT:=⟨_,rfl⟩;have rU:=hd_ hTT;rw[hTT] at gh LC AI EI jH ⊢;have Pn:=hd_ LC;clear hTT LC;obtain⟨N,hN⟩:∃ N,ps.length=N:=⟨_,rfl⟩;have HN:=hd_ hN;rw[hN] at h0 h6 Be Bi Cj Ck EI NZ ⊢;clear hN hl;have hM:(Zbj n ps l).length=TT.length:=jH.o;rw[hM];clear hM;obtain⟨M,hM⟩:∃ M,TT.length=M:=⟨_,rfl⟩;have HM:=hd_ hM;rw[hM] at gh jH AI EI ⊢;clear hM;have lN:(sg==0)=false:=by rw[beq_eq_false_iff_ne];omega
 have NB:=hd_ (Kk w #[.int .i64 sg,.int .i64 n,.slice a3 M c3] 46 _ rfl);have B0:=hd_ ((Below.refl w.heap.size w).alloc nr_ (.cells #[.int .i64 sg,.int .i64 n,.slice a3 M c3] 46));go_enter Tryz.func18,Tryz.ntmps18;go_wp2_with fail;generalize w.alloc (.cells #[.int .i64 sg,.int .i64 n,.slice a3 M c3] 46)=W0 at *;refine cm_ (Be.o _ B0.o) ?_;rintro e w1 ⟨rfl,hb⟩;replace NB:=hk_ NB hb;replace B0:=bt_ B0 hb;clear hb Be;go_wp2_with fail;refine cm_ (Bi.o _ B0.o) ?_;rintro e w2 ⟨r,rc,V,rfl,hO,hF,hb⟩;replace NB:=hk_ NB hb;replace B0:=bt_ B0 hb;have HO:=hd_ hO;have HF:=hd_ hF;clear hb Bi hO hF;go_wp2_with fail
 go_loopw [9,29] (fun ov iv wr=>∃ (k:Nat) (I:List Nat) (oa:OA_) (oc:Nat),k<=N/\ov = .slice oa I.length oc/\iv = .int .i64 k/\Hid (I.length<=k)/\Hid (wr.ownsRow w2.heap.size 3 1 (.slice oa I.length oc) I.length (Vd (nI I)))/\Hid (Zec ps l k I)/\Hid (Bw_ w2 wr)) (fun _ iv _=>N-(intOf iv).toNat)
 case atStart=>exact⟨0,[],none,0,Nat.zero_le _,rfl,rfl,Nat.zero_le _,World.ownsRow_nil ..,BT.o,Below.refl _ _⟩
 case round =>
  obtain⟨k,I,oa,oc,hk,rfl,rfl,HIk,HR,HI,D⟩:=hrel
  by_cases H7:k<N
  ·obtain⟨gv,rfl,hrc,fp⟩:=Zh6 HO.o D.o h0;obtain⟨xa,xc,xb,xd,v0,v1,v2,-,-⟩:=HF.o k (by rw[gt.o,HN.o];exact H7);have im:=fp (k*3) (by omega);have il:=fp (k*3+1) (by omega);have IP:=fp (k*3+2) (by omega);rw[v0] at im;rw[v1] at il;rw[v2] at IP;have HZ:=hd_ (fun W=>Zgu W (l.getD k 0).num xa xb xc (l.getD k 0).den xd);unfold frX at HZ;have mi:=hd_ (Cj.o k I HI.o H7);have mt:=hd_ (Ck.o k I HI.o H7);have gi:(k:Int)<N:=by omega
   clear v0 v1 v2 fp HI;generalize EJ:(l.getD k 0).num=z at *;clear EJ;generalize (l.getD k 0).den=d at *;generalize decide (z<0)=s at *;generalize (wN z.natAbs).length=m1 at *;generalize (wN d).length=m2 at *;have gL:=(Below.refl wr.heap.size wr).alloc nr_ (.cells #[.bool s,.slice xa m1 xc,.slice xb m2 xd] 121);have IS:=hd_ (Kk wr #[.bool s,.slice xa m1 xc,.slice xb m2 xd] 121 _ rfl);obtain⟨k0,k1,k2,-⟩:=Kd IS.o;replace HR:=hd_ (Ky HR.o gL nr_);replace D:=bt_ D gL;clear gL IS;go_wp2_with fail;generalize wr.alloc (.cells #[.bool s,.slice xa m1 xc,.slice xb m2 xd] 121)=W1 at *;clear im il IP k0 k1 k2;refine cm_ (HZ.o W1) ?_;rintro e w3 ⟨rfl,hb⟩;replace HR:=hd_ (Ky HR.o hb nr_);replace D:=bt_ D hb;clear hb HZ
   by_cases hz:z=0
   ·have H2:=hd_ (mi.o hz);have dy:Hid (I.length<=k+1):=Nat.le_succ_of_le HIk.o;rw[decide_eq_true hz];clear mi mt hz HIk;go_wp2_with fail;refine⟨⟨k+1,I,oa,oc,by omega,rfl,by go_num,dy,HR,H2,D⟩,by simp[intOf];omega⟩
   ·have H2:=hd_ (mt.o hz);have dy:Hid ((I++[k]).length<=k+1):=by show _<=_;rw[List.length_append];have:=HIk.o;simp;omega
    have rA:=HIk.o;have NC:Hid ((I++[k]).length=I.length+1):=by show _=_;rw[List.length_append];rfl
    rw[decide_eq_false hz];have fL:=hd_ D.o.size;have ni:k<=1000:=by omega
    clear mi mt hz HIk;generalize hmI:I.length=mI at *
    go_wp2_with (at_builtin;refine Ku rfl (.tmp 37) (.tmp 39) 30 rfl Qhp _ 1 [.int .i64 k] rfl rfl HR.o fL.o rfl ?c1 (by omega) (by omega) ?_)
    case c1=>(intro u hu;obtain rfl:=List.mem_singleton.1 hu;rfl)
    intro v' w4 gl gJ _;obtain⟨oa2,oc2,rfl⟩:=Qp gl;have BV:Hid (w4.ownsRow w2.heap.size 3 1 (.slice oa2 (I++[k]).length oc2) (I++[k]).length (Vd (nI (I++[k])))):=by
     show World.ownsRow _ _ _ _ _ _ _
     rw[NC.o,Zwi,Zh3];exact gl
    have D2:=hd_ ((D.o.alloc fL.o (.cells #[.int .i64 k] 3)).grown gJ (by have:=fL.o;simp;omega) (fun j hj=>(HR.o.lt j hj).1));clear gl gJ HR D fL;go_wp2_with fail;refine⟨⟨k+1,I++[k],oa2,oc2,by omega,by rw[NC.o],by go_num,dy,BV,H2,D2⟩,by simp[intOf];omega⟩
  ·obtain rfl:k=N:=by omega
   obtain⟨hIM,hIx⟩:=EI.o I HI.o;have oh:=hd_ hIx;obtain⟨go_,rfl,hoc,hco⟩:=Zw5 HR.o (Below.refl _ _) (by rw[hIM];exact gh);obtain⟨gv,rfl,hrc,fp⟩:=Zh6 HO.o D.o h0;rw[hIM] at hoc hco oh ⊢;have Ja:=hd_ hco;have oz:=hd_ fp;replace HF:=hd_ (HF.o.map fun _ _ _ h=>h.below D.o nr_);replace NB:=hk_ NB D.o;replace B0:=bt_ B0 D.o;have OR:=hd_ hIM;have ru:M<=k:=by have:=HIk.o;rw[hIM] at this;exact this
   clear HR HI hIM hIx hco fp EI Cj Ck BT HO H7 HIk D;obtain⟨b0,-,-,-⟩:=Kd NB.o
   go_upto_region 13 with fail
   go_cut [79] from 42 to 79 (fun c wx=>c = .bool false/\wr=wx)
   case first =>
    obtain⟨b0,-,b2,-⟩:=Kd NB.o;have rx:((M:Int)==0)=false:=by rw[beq_eq_false_iff_ne];omega
    have gW:¬ M=0:=by omega
    have rv:((M:Int) != M)=false:=by simp
    rcases EZ with rfl|rfl
    ·go_wp2_with fail
     go_meet
     exact⟨rfl,rfl⟩
    ·go_wp2_with fail
     go_meet
     exact⟨rfl,rfl⟩
   case rest =>
   obtain⟨rfl,rfl⟩:=hcut;clear b0;have AD:=hd_ (Zzn wr);unfold Ze4 frX at AD;go_wp2_with fail;refine cm_ AD.o ?_;rintro e w4 ⟨za,zc,zb,zd,rfl,fE,fM,hb⟩;replace NB:=hk_ NB hb;replace B0:=bt_ B0 hb;replace HF:=hd_ (HF.o.map fun _ _ _ h=>h.below hb nr_);replace Ja:=hd_ (fun j hj=>(hb.cell (block_lt_of_cell (Ja.o j hj))).trans (Ja.o j hj));have AM:Hid (∀ j v,j<k*3->V[j]?=some v->w4.cell? ⟨gv,j,none⟩=some v):=fun j v hj hv=>by
    have h:=oz.o j hj;rw[hv] at h;exact(hb.cell (block_lt_of_cell h)).trans h
   rw[show decide ((0:Int)<0)=false from rfl,show (0:Int).natAbs=0 from rfl];have Z1:=hd_ fE;have Z2:=hd_ fM;have gL:=(Below.refl w4.heap.size w4).alloc nr_ (.cells #[.bool false,.slice za (wN 0).length zc,.slice zb (wN 1).length zd] 121);have n9:=hd_ (Kk w4 #[.bool false,.slice za (wN 0).length zc,.slice zb (wN 1).length zd] 121 _ rfl);have n8:=hk_ NB gL;obtain⟨b0,b1,b2,-⟩:=Kd n8.o;clear hb AD oz fE fM;go_wp2_with fail;have NN:=hd_ gL;have Y1:Hid (IsX (w4.alloc (.cells #[.bool false,.slice za (wN 0).length zc,.slice zb (wN 1).length zd] 121)) za zc (0:Int).natAbs):=Z1.o.below gL nr_;have Y2:Hid (IsX (w4.alloc (.cells #[.bool false,.slice za (wN 0).length zc,.slice zb (wN 1).length zd] 121)) zb zd 1):=Z2.o.below gL nr_;clear gL n8 b0 b1 b2 Z1 Z2;obtain⟨G,hG⟩:∃ G:Nat,G=2*10^55:=⟨_,rfl⟩;have j6:Hid (∀ j,j<=6->Vf (G^j)):=fun j hj=>by rw[hG];exact Qie j hj
   have jT:=hd_ (fun (j:Nat) (x:Int×Rat) (h:SmX G sg n j (TT.take j) (Zdx sg n (TT.take j))) (h2:Sm 30 x.2) (h1:x.1∈Vj)=>Zq3 (A:=10^30) (C:=10^25) (Q:=10^55) h (Nat.le_of_lt h2.1) (Nat.le_trans (Nat.le_of_lt h2.2) (by decide)) (Qeo h1 hn) (by decide) (by decide) (Nat.le_of_eq hG.symm));clear hG
   go_loopw [84] (fun iv wr2=>∃ (j:Nat) (z:Int) (d:Nat) (sa sb:OA_) (sc sd:Nat),j<=M/\iv = .int .i64 j/\Hid (Zdx sg n (TT.take j)=(z,d))/\Hid (SmX G sg n j (TT.take j) (Zdx sg n (TT.take j)))/\Hid (wr2.heap[w4.heap.size]?=some (.cells #[.bool (decide (z<0)),.slice sa (wN z.natAbs).length sc,.slice sb (wN d).length sd] 121 (0,0)))/\Hid (IsX wr2 sa sc z.natAbs)/\Hid (IsX wr2 sb sd d)/\Hid (Bw_ w4 wr2)) (fun iv _=>M-(intOf iv).toNat)
   case atStart=>exact⟨0,0,1,za,zb,zc,zd,Nat.zero_le _,rfl,rfl,Zq2 G sg n,n9.o,Y1.o,Y2.o,NN.o⟩
   case round =>
    obtain⟨j,z,d,sa,sb,sc,sd,hj,rfl,HSum,HSm,HS,X1,X2,D⟩:=hrel;clear Y1 Y2 n9 NN
    by_cases H7:j<M
    ·have Ik:j<TT.length:=by rw[HM.o];exact H7
     obtain⟨x,hx⟩:∃ x,TT.getD j (0,0)=x:=⟨_,rfl⟩;have MO:x∈TT:=by rw[<- hx,Zb2 TT j _ Ik];exact List.getElem_mem Ik
     obtain⟨dN,fR⟩:=Pn.o x MO;obtain⟨cw,ET,hi3⟩:=oh.o j H7;have Iz:=AI.o j H7 (by rw[jH.o];exact H7);rw[hx] at ET hi3 Iz;have e9:Hid (TT.take (j+1)=TT.take j++[x]):=by show _=_;rw[List.take_succ_eq_append_getElem Ik,<- Zb2 TT j (0,0) Ik,hx]
     obtain⟨g1,g2,g3,g4⟩:=jT.o j x HSm.o fR dN;rw[<- e9.o] at g1;rw[HSum.o] at g3 g4;have m9:=hd_ g1;have Lq:=hd_ ((j6.o (j+1) (by omega)).le g2);have Na:=hd_ ((j6.o (j+1) (by omega)).le g3);have Nb:=hd_ ((j6.o (j+1) (by omega)).le g4);have Lz:=hd_ ((j6.o j (by omega)).le (by have:=HSm.o.b1;rw[HSum.o] at this;exact this));have Ld:=hd_ ((j6.o j (by omega)).le (by have:=HSm.o.b2;rw[HSum.o] at this;exact this));have jS:Hid (Zdx sg n (TT.take (j+1))=Zuk (z,d) (x.2.num*(atB sg n x.1 x.2:Int),x.2.den*1)):=by show _=_;rw[e9.o,Zmi,HSum.o]
     obtain⟨bb,bo,rfl,y0,y1,y2⟩:=Zvx HB.o (bu_ B0 D.o) nr_ j (by rw[jH.o];exact H7);rw[Iz] at y0 y1 y2;have co:=(D.o.cell (p:=⟨go_,j,none⟩) (block_lt_of_cell (Ja.o j H7))).trans (Ja.o j H7);obtain⟨iI,hiI⟩:∃ iI,I.getD j 0=iI:=⟨_,rfl⟩;rw[hiI] at cw ET hi3 co;obtain⟨bp,op,rfl,eV,hpc⟩:=Hp.o.open (by rw[Qw,HN.o];omega);have cp:=hpc iI _ (NZ.o iI cw);rw[<- (bu_ B0 D.o).cell (p:=⟨bp,op+iI,none⟩) eV,ET] at cp;obtain⟨xa,xc,xb,xd,v0,v1,v2,e1,e2⟩:=HF.o iI (by rw[gt.o,HN.o];exact cw);rw[hi3] at v0 v1 v2 e1 e2;have BC:=AM.o _ _ (by omega) v0;have aS:=AM.o _ _ (by omega) v1;have bN:=AM.o _ _ (by omega) v2;have E1:=hd_ (e1.below D.o nr_);have E2:=hd_ (e2.below D.o nr_);rw[<- D.o.cell (p:=⟨gv,iI*3,none⟩) (block_lt_of_cell BC)] at BC;rw[<- D.o.cell (p:=⟨gv,iI*3+1,none⟩) (block_lt_of_cell aS)] at aS;rw[<- D.o.cell (p:=⟨gv,iI*3+2,none⟩) (block_lt_of_cell bN)] at bN;have FY:=hk_ NB D.o;clear g1 g2 g3 g4 hx MO ET hi3 Iz hpc eV v0 v1 v2 e1 e2 HSm HSum Ik hiI;obtain⟨p,q⟩:=x
     dsimp only at *
     have Mw:=hd_ (fun W=>Zqh W p n dN hn);unfold Qe2 at Mw;have Gu:=Zlb dN hn;have AA:=hd_ (fun W=>Zel W ((lgN p n:Nat):Int) (by rw[Int.natAbs_natCast];exact Zgj (Nat.lt_trans Gu (by decide +kernel))));simp only[Zh4,Int.natAbs_natCast,Kg] at AA;have La:=hd_ (Qif dN hn sg q);have Nc:Hid (Vf q.num.natAbs):=(vs_ fR).1;have L9:Hid (Vf q.den):=(vs_ fR).2;have jM:Hid (atB sg n p q=lgN p n+if p≠2/\(decide (q.num<0)==decide (sg=1))=true then 1 else 0):=rfl;have dX:Hid (Vf (lgN p n)):=Zay (Nat.lt_trans Gu (by decide +kernel));clear Gu dN fR;generalize lgN p n=x0 at *;generalize dec x0=s0 at *;generalize atB sg n p q=at_ at *;have gi:(j:Int)<M:=by omega
     have gL:=(Below.refl wr.heap.size wr).alloc nr_ (.cells #[.int .i64 p,.int .i64 n,.string s0] 124);have cL:=hd_ (Kk wr #[.int .i64 p,.int .i64 n,.string s0] 124 _ rfl);have Hm:=fun (g:Addr) v (h:wr.cell? g=some v)=>(gL.cell (block_lt_of_cell h)).trans h
     have co:=Hm _ _ co;have cp:=Hm _ _ cp;have BC:=Hm _ _ BC;have aS:=Hm _ _ aS;have bN:=Hm _ _ bN;replace FY:=hk_ FY gL;replace HS:=hk_ HS gL;replace X1:=hd_ (X1.o.below gL nr_);replace X2:=hd_ (X2.o.below gL nr_);replace E1:=hd_ (E1.o.below gL nr_);replace E2:=hd_ (E2.o.below gL nr_);have DD:=bt_ D gL;clear gL Hm D;generalize hW3:wr.alloc (.cells #[.int .i64 p,.int .i64 n,.string s0] 124)=w5 at *;generalize hg4:wr.heap.size=g4 at *;have Ly:=hW3;obtain⟨m0,m1,m2,-⟩:=Kd cL.o;obtain⟨n0,n1,n2,-⟩:=Kd FY.o;have q0:=cell_regrown m0;have q1:=cell_regrown m1;have q2:=cell_regrown m2;have q3:=cell_regrown n0;have q4:=cell_regrown n1;have q5:=cell_regrown co;have q6:=cell_regrown cp;have hL:∀ d os,Calls Tryz.prog 65 #[.agg #[.int .i64 p,.int .i64 n,.string s0]] (Go.Sort.grow (redrawn w5 d) os) fun e w''=>e = .returned (.bool true)/\∃ p:Regrown,w''=Go.Sort.grow (redrawn w5 p.d) p.os:=fun d os=>Calls.regrown_of (Mw.o _)
     go_wp2_with fail;clear y0 y1 y2;refine wp_region_quiet_below (by kernel_rfl) (by kernel_rfl) ?_
     repeat (first | go_big_quiet_step (exact hL _ _) | quiet_step (exact hL _ _))
     refine wq_ ?_;intro w6 Bm;obtain⟨⟨dq,osq⟩,rfl⟩:=Bm;have DB:=hd_ (below_regrown w5 dq osq);generalize Go.Sort.grow (redrawn w5 dq) osq=w6 at *;clear q0 q1 q2 q3 q4 q5 q6 hL m0 m1 m2 n0 n1 cp Mw Ly hW3;have Hm:=fun (g:Addr) v (h:w5.cell? g=some v)=>(DB.o.cell (block_lt_of_cell h)).trans h
     have co:=Hm _ _ co;have BC:=Hm _ _ BC;have aS:=Hm _ _ aS;have bN:=Hm _ _ bN;clear Hm;replace cL:=hk_ cL DB.o;replace FY:=hk_ FY DB.o;replace HS:=hk_ HS DB.o;replace X1:=hd_ (X1.o.below DB.o nr_);replace X2:=hd_ (X2.o.below DB.o nr_);replace E1:=hd_ (E1.o.below DB.o nr_);replace E2:=hd_ (E2.o.below DB.o nr_);replace DD:=bt_ DD DB.o;clear DB;obtain⟨sQ,hsQ⟩:∃ sQ,decide (q.num<0)=sQ:=⟨_,rfl⟩;rw[hsQ] at BC jM;have gL:=(Below.refl w6.heap.size w6).alloc nr_ (.cells #[.bool sQ,.slice xa (wN q.num.natAbs).length xc,.slice xb (wN q.den).length xd] 121);have aU:=hd_ (Kk w6 #[.bool sQ,.slice xa (wN q.num.natAbs).length xc,.slice xb (wN q.den).length xd] 121 _ rfl);replace cL:=hk_ cL gL;replace FY:=hk_ FY gL;replace HS:=hk_ HS gL;replace X1:=hd_ (X1.o.below gL nr_);replace X2:=hd_ (X2.o.below gL nr_);replace E1:=hd_ (E1.o.below gL nr_);replace E2:=hd_ (E2.o.below gL nr_);replace DD:=bt_ DD gL;clear gL;obtain⟨m0,m1,m2,-⟩:=Kd cL.o;go_wp2_with fail;clear m0 m1 m2 co BC aS bN;generalize w6.alloc (.cells #[.bool sQ,.slice xa (wN q.num.natAbs).length xc,.slice xb (wN q.den).length xd] 121)=w7 at *;generalize w6.heap.size=g5 at *;refine cm_ (AA.o _) ?_;rintro e w8 ⟨a8,c8,rfl,hi,hb⟩;have gL:=hb.trans (((Below.refl w8.heap.size w8).alloc nr_ (.cells #[.bool false,.slice a8 (wN x0).length c8] 119)).mono hb.size);have BD:=hd_ (Kk w8 #[.bool false,.slice a8 (wN x0).length c8] 119 _ rfl);have R0:=hd_ (hi.below ((Below.refl w8.heap.size w8).alloc nr_ (.cells #[.bool false,.slice a8 (wN x0).length c8] 119)) nr_);replace cL:=hk_ cL gL;replace aU:=hk_ aU gL;replace FY:=hk_ FY gL;replace HS:=hk_ HS gL;replace X1:=hd_ (X1.o.below gL nr_);replace X2:=hd_ (X2.o.below gL nr_);replace E1:=hd_ (E1.o.below gL nr_);replace E2:=hd_ (E2.o.below gL nr_);have IB:=DD.o.trans (hb.mono DD.o.size);have ot:Hid (w4.heap.size<=w8.heap.size):=IB.size;replace DD:=bt_ DD gL;clear gL hi hb AA IB
     go_upto_region 23 with fail
     generalize w8.alloc (.cells #[.bool false,.slice a8 (wN x0).length c8] 119)=w9 at *;generalize hg6:w8.heap.size=g6 at *;obtain⟨bB,ig⟩:∃ bB,decide (p≠2/\(sQ==decide (sg=1))=true)=bB:=⟨_,rfl⟩
     go_cut [84,135] from 84 to 146 (fun i c wx=>i = .int .i64 j/\c = .bool bB/\w9=wx)
     case first =>
      obtain⟨m0,-,-,-⟩:=Kd cL.o;obtain⟨n0,-,-,-⟩:=Kd FY.o;obtain⟨l0,l1,l2,-⟩:=Kd aU.o
      by_cases h2:p=2
      ·have Gl:(p != 2)=false:=by rw[h2];rfl
       have hB:bB=false:=by rw[<- ig,h2];simp
       subst hB;go_wp2_with fail
       go_meet
       exact⟨rfl,rfl,rfl⟩
      ·have Gl:(p != 2)=true:=bne_iff_ne.2 h2;rcases EZ with rfl|rfl<;>cases sQ<;>(have hB:=ig;simp[h2] at hB;subst hB;go_wp2_with fail;go_meet;exact⟨rfl,rfl,rfl⟩)
     case rest =>
     obtain⟨rfl,rfl,rfl⟩:=hcut;subst hsQ;have Aw:Hid (at_=x0+if bB=true then 1 else 0):=by
      show _=_
      rw[jM.o,<- ig];simp only[decide_eq_true_eq]
     clear jM ig
     go_upto_if 135 with fail
     go_cut [84] from 84 to 146 (fun i wx=>i = .int .i64 j/\∃ (ra:OA_) (rc:Nat),Hid (wx.heap[g6]?=some (.cells #[.bool false,.slice ra (wN at_).length rc] 119 (0,0)))/\Hid (IsX wx ra rc at_)/\Hid (Below g6 w9 wx)/\Hid (∀ a c n,IsX w9 a c n->IsX wx a c n)/\Hid (∀ k o,k≠g6->w9.heap[k]?=some o->wx.heap[k]?=some o))
     case first =>
      cases bB with
      | false =>
       obtain rfl:at_=x0:=by rw[Aw.o];rfl
       go_wp2_with fail
       go_meet
       exact⟨rfl,_,_,BD.o,R0.o,Below.refl _ _,fun _ _ _ h=>h,fun _ _ _ h=>h⟩
      | true =>
       obtain rfl:at_=x0+1:=by rw[Aw.o];rfl
       obtain⟨k0,k1,-,-⟩:=Ka BD.o;have q0:=NW.cell k0;have q1:=NW.cell k1;have gn:Nonempty (NW w9):=⟨⟨w9,Below.refl _ _⟩⟩;have I:Hid (Bw_ w9 w9.drew):=(Below.refl _ _).drew;clear k0 k1;have jZ:=hd_ (fun W=>Zte W);have Jd:=hd_ (fun W r2 s2 (hW:Bw_ w9 W) (k2:IsX W r2 s2 1)=>Zul W x0 c8 s2 a8 r2 (R0.o.below hW nr_) k2 dX.o);go_wp2_with fail;refine wn_ 3 [(1,0),(0,1),(0,2),(0,3)] I ?_;refine wr_ rfl ?_;go_big_quiet_step (fail);refine wq_ ?_;refine wm_ rfl ?_;go_wp2_with fail;refine cm_ (jZ.o _) ?_;rintro e_ y0 ⟨ra0,rc0,rfl,hi_,hb_⟩;have J0:Hid (Bw_ w9 y0):=I.o.trans (hb_.mono I.o.size);have T0:=hd_ hi_;clear hb_ hi_ jZ;go_wp2_with fail;refine⟨⟨⟨_,J0.o⟩,rfl⟩,?_⟩;refine wm_ rfl ?_;go_wp2_with fail;refine cm_ (Jd.o _ _ _ J0.o T0.o) ?_;rintro e_ y1 ⟨ra1,rc1,rfl,hi_,hb_⟩;have J1:Hid (Bw_ w9 y1):=J0.o.trans (hb_.mono J0.o.size);have T1:=hd_ hi_;clear hb_ hi_ Jd T0;go_wp2_with fail;refine⟨⟨⟨_,J1.o⟩,rfl⟩,?_⟩;have LZ:=hk_ BD J1.o;have GT:=Zag LZ.o;obtain⟨EU,dj,f_⟩:=Ka LZ.o;refine wm_ rfl ?_;go_wp2_with fail;simp only[RP.walkR];go_wp2_with fail
       go_meet
       have lX:=lt_of_block BD.o;exact⟨rfl,_,_,Zap LZ.o,T1.o.set2 GT _ _,((J1.o.mono (Nat.le_of_lt lX)).setCell (p:=⟨g6,0,none⟩) nr_ _).setCell (p:=⟨g6,1,none⟩) nr_ _,fun a c n h=>(h.below J1.o nr_).set2 GT _ _,fun k o hk h=>Zgm (Zgm (Zr h J1.o nr_) hk _) hk _⟩
     case rest =>
     obtain⟨rfl,ra,rc,M16,R1,D9,HX,HH⟩:=hcut;have n1:g4≠g6:=fun e=>by have h1:=cL.o;rw[e,BD.o] at h1;simp at h1
     have n2:g5≠g6:=fun e=>by have h1:=aU.o;rw[e,BD.o] at h1;simp at h1
     have n3:w4.heap.size≠g6:=fun e=>by have h1:=HS.o;rw[e,BD.o] at h1;simp at h1
     have HS:=hd_ (HH.o _ _ n3 HS.o);have aU:=hd_ (HH.o _ _ n2 aU.o);have X1:=hd_ (HX.o _ _ _ X1.o);have X2:=hd_ (HX.o _ _ _ X2.o);have E1:=hd_ (HX.o _ _ _ E1.o);have E2:=hd_ (HX.o _ _ _ E2.o);have DD:=hd_ (DD.o.trans (D9.o.mono ot.o));clear n1 n2 n3 BD HX HH D9 FY cL R0 dX Aw ot;have NS:=hd_ (fun W r2 s2 (hW:Bw_ wc W) (k2:IsX W r2 s2 1)=>Zon W q.num q.den at_ xa ra xb r2 xc rc xd s2 (E1.o.below hW nr_) (E2.o.below hW nr_) (R1.o.below hW nr_) k2 Nc.o La.o L9.o);have IT:Vf (q.den*1):=by rw[Nat.mul_one];exact L9.o
     have J9:=hd_ (fun W r1 s1 r2 s2 (hW:Bw_ wc W) (k1:IsX W r1 s1 (q.num*(at_:Int)).natAbs) (k2:IsX W r2 s2 (q.den*1))=>Qbj W z (q.num*(at_:Int)) d (q.den*1) sa r1 sb r2 sc s1 sd s2 (X1.o.below hW nr_) k1 (X2.o.below hW nr_) k2 Lz.o Lq.o Ld.o IT Na.o Nb.o);unfold Ze4 frX at J9;generalize Zuk (z,d) (q.num*(at_:Int),q.den*1)=zd at *;obtain⟨z',d'⟩:=zd
     dsimp only at J9
     generalize q.num*(at_:Int)=qa at *;generalize q.den*1=qd at *;generalize hzs:decide (z<0)=sz at *;generalize decide (q.num<0)=sq at *;generalize decide (qa<0)=sqa at *;clear Lz Lq Ld IT Na Nb E1 E2 R1 X1 X2 La Nc L9;obtain⟨k0,k1,k2,-⟩:=Kd HS.o;obtain⟨k3,k4,k5,-⟩:=Kd aU.o;obtain⟨k6,k7,-,-⟩:=Ka M16.o;have q0:=NW.cell k0;have q1:=NW.cell k1;have q2:=NW.cell k2;have q3:=NW.cell k3;have q4:=NW.cell k4;have q5:=NW.cell k5;have q6:=NW.cell k6;have q7:=NW.cell k7;have gn:Nonempty (NW wc):=⟨⟨wc,Below.refl _ _⟩⟩;have I:Hid (Bw_ wc wc.drew):=(Below.refl _ _).drew;clear k0 k1 k2 k3 k4 k5 k6 k7;go_wp2_with fail;refine wn_ 7 [(1,0),(1,1),(1,2),(0,3),(2,4),(0,5),(0,6),(0,7)] I ?_;iterate 3 (refine wr_ rfl ?_;go_big_quiet_step (fail);refine wq_ ?_)
     refine wm_ rfl ?_;go_wp2_with fail;have JB:Hid (Bw_ wc (wc.drew.alloc (.cells #[.int .u32 1] 131))):=I.o.alloc I.o.size _;have T1:Hid (IsX (wc.drew.alloc (.cells #[.int .u32 1] 131)) (some ⟨wc.drew.heap.size,0,none⟩) 1 1):=IsX.one (Kk wc.drew #[.int .u32 1] 131 _ rfl);refine⟨⟨⟨_,JB.o⟩,rfl⟩,?_⟩;refine wa_ rfl ?_;go_big_quiet_step (fail);refine wq_ ?_;refine wm_ rfl ?_;go_wp2_with fail;refine cm_ (NS.o _ _ _ JB.o T1.o) ?_;rintro e_ y0 ⟨ra0,rc0,rb0,rd0,rfl,hi_,hj_,hb_⟩;have J0:Hid (Bw_ wc y0):=JB.o.trans (hb_.mono JB.o.size);have R0:=hd_ hi_;have R1:=hd_ hj_;clear hb_ hi_ hj_ NS T1 JB I;go_wp2_with fail;refine⟨⟨⟨_,J0.o⟩,rfl⟩,?_⟩;refine wm_ rfl ?_;go_wp2_with fail;refine cm_ (J9.o _ _ _ _ _ J0.o R0.o R1.o) ?_;rintro e_ y1 ⟨ra1,rc1,rb1,rd1,rfl,hi_,hj_,hb_⟩;have J1:Hid (Bw_ wc y1):=J0.o.trans (hb_.mono J0.o.size);have Y1:=hd_ hi_;have Y2:=hd_ hj_;clear hb_ hi_ hj_ J9 R0 R1 J0;go_wp2_with fail;refine⟨⟨⟨_,J1.o⟩,rfl⟩,?_⟩;have HS:=hk_ HS J1.o;have DD:=bt_ DD J1.o;have GT:=Zca HS.o;have bd:=hd_ (Zmv (z' := .slice rb1 (wN d').length rd1) (Zmh (x' := .bool (decide (z'<0))) (y' := .slice ra1 (wN z'.natAbs).length rc1) HS.o));have PB:=hd_ (((DD.o.setCell (p:=⟨w4.heap.size,0,none⟩) nr_ (.bool (decide (z'<0)))).setCell (p:=⟨w4.heap.size,1,none⟩) nr_ (.slice ra1 (wN z'.natAbs).length rc1)).setCell (p:=⟨w4.heap.size,2,none⟩) nr_ (.slice rb1 (wN d').length rd1));have Y3:=hd_ (Y1.o.set3 GT (.bool (decide (z'<0))) (.slice ra1 (wN z'.natAbs).length rc1) (.slice rb1 (wN d').length rd1));have Y4:=hd_ (Y2.o.set3 GT (.bool (decide (z'<0))) (.slice ra1 (wN z'.natAbs).length rc1) (.slice rb1 (wN d').length rd1));obtain⟨k0_,k1_,k2_,f_⟩:=Kd HS.o;have EU:=f_ 0;have dj:=f_ 1;have IL:=f_ 2;clear GT DD Y1 Y2 q0 q1 q2 q3 q4 q5 q6 q7;refine wm_ rfl ?_;go_wp2_with fail;simp only[RP.walkR];go_wp2_with fail
     go_roundw
     case rel=>exact⟨j+1,z',d',_,_,_,_,by omega,by go_num,jS,m9,bd.o,Y3.o,Y4.o,PB.o⟩
     case measure=>simp[intOf];omega
    ·obtain rfl:j=M:=by omega
     have gi:¬ (j:Int)<j:=by omega
     have e1:=HSum.o;rw[List.take_of_length_le (by rw[HM.o];exact Nat.le_refl _)] at e1;obtain⟨k0,k1,k2,-⟩:=Kd HS.o;have FY:=hk_ NB D.o;obtain⟨n0,n1,n2,-⟩:=Kd FY.o;have B5:=bt_ B0 D.o;have hL:=Zgu wr z sa sb sc d sd;unfold Kc frX at hL;have hR:∀ b,(decide (z=0)||(decide (z<0)==decide (sg<0)))=b->Zzc sg (Zdx sg n TT).1=b:=fun b h=>by rw[e1];exact h
     go_wp2_with fail;refine cm_ hL ?_;rintro e w6 ⟨rfl,hb⟩;have pw:=hk_ FY hb;have iD:=hk_ HS hb;have B6:=bt_ B5 hb;obtain⟨k3,k4,k5,-⟩:=Kd iD.o;obtain⟨n3,n4,n5,-⟩:=Kd pw.o;clear k0 k1 k2 n0 n1 n2 hb hL
     by_cases hz:z=0
     ·rw[decide_eq_true hz] at hR ⊢;go_wp2_with fail;go_ret;exact⟨by rw[hR true rfl];rfl,B6.o⟩
     ·rw[decide_eq_false hz] at hR ⊢;go_wp2_with fail;go_ret;exact⟨by rw[hR _ rfl];rfl,B6.o⟩
theorem Zjg(w:World)(a0 a a3:OA_)(c0 c c3:Nat)(ps:List Int)(l:List Rat)(hp:Rd w a0 (Vd ps))(hr:Rd w a (Kj l))(hs:∀ p∈ps,p∈Vj)(ho:∀ i,0<i->i<ps.length->ps.getD (i-1) 0<ps.getD i 0)(h0:0<ps.length)(h6:ps.length<=6)(hl:l.length=ps.length)(hq:∀ q∈l,Sm 30 q)(hz:∀ q∈l,q.num=0):
  Kc Tryz.prog 18 #[.slice a0 ps.length c0,.slice a ps.length c,Zfr 0 0 a3 0 c3] w (.bool true):=by
 unfold Kc Zfr;have Be:=hd_ (fun W (hW:Bw_ w W)=>Zmp W a0 a c0 c ps l (hp.below hW nr_) (hr.below hW nr_) hs ho h0 h6 hl hq);have Bi:=hd_ (fun W (hW:Bw_ w W)=>Znh W a c l (hr.below hW nr_) (fun q h=>(hq q h).le (by decide)) (by omega));rw[hl] at Be Bi;have gt:=hd_ hl;have NO:Hid (∀ k,k<ps.length->(l.getD k 0).num=0):=fun k h=>by
  rw[Zb2 l k 0 (by omega)];exact hz _ (List.getElem_mem _)
 clear hp hr hs ho hq hz;obtain⟨N,hN⟩:∃ N,ps.length=N:=⟨_,rfl⟩;have HN:=hd_ hN;rw[hN] at h0 h6 Be Bi NO ⊢;clear hN hl;have NB:=hd_ (Kk w #[.int .i64 0,.int .i64 0,.slice a3 0 c3] 46 _ rfl);have B0:=hd_ ((Below.refl w.heap.size w).alloc nr_ (.cells #[.int .i64 0,.int .i64 0,.slice a3 0 c3] 46));go_enter Tryz.func18,Tryz.ntmps18;go_wp2_with fail;generalize w.alloc (.cells #[.int .i64 0,.int .i64 0,.slice a3 0 c3] 46)=W0 at *;refine cm_ (Be.o _ B0.o) ?_;rintro e w1 ⟨rfl,hb⟩;replace NB:=hk_ NB hb;replace B0:=bt_ B0 hb;clear hb Be;go_wp2_with fail;refine cm_ (Bi.o _ B0.o) ?_;rintro e w2 ⟨r,rc,V,rfl,hO,hF,hb⟩;replace NB:=hk_ NB hb;replace B0:=bt_ B0 hb;have HO:=hd_ hO;have HF:=hd_ hF;clear hb Bi hO hF;go_wp2_with fail
 go_loopw [9,29] (fun ov iv wr=>∃ k:Nat,k<=N/\ov = .slice none 0 0/\iv = .int .i64 k/\Hid (Bw_ w2 wr)) (fun _ iv _=>N-(intOf iv).toNat)
 case atStart=>exact⟨0,Nat.zero_le _,rfl,rfl,Below.refl _ _⟩
 case round =>
  obtain⟨k,hk,rfl,rfl,D⟩:=hrel
  by_cases H7:k<N
  ·obtain⟨gv,rfl,hrc,fp⟩:=Zh6 HO.o D.o h0;obtain⟨xa,xc,xb,xd,v0,v1,v2,-,-⟩:=HF.o k (by rw[gt.o,HN.o];exact H7);have im:=fp (k*3) (by omega);have il:=fp (k*3+1) (by omega);have IP:=fp (k*3+2) (by omega);rw[v0] at im;rw[v1] at il;rw[v2] at IP;have HZ:=hd_ (fun W=>Zgu W (l.getD k 0).num xa xb xc (l.getD k 0).den xd);unfold frX at HZ;have hz:=NO.o k H7;have gi:(k:Int)<N:=by omega
   clear v0 v1 v2 fp;rw[hz] at HZ im il;generalize (l.getD k 0).den=d at *;generalize decide ((0:Int)<0)=s at *;generalize (wN (0:Int).natAbs).length=m1 at *;generalize (wN d).length=m2 at *;have gL:=(Below.refl wr.heap.size wr).alloc nr_ (.cells #[.bool s,.slice xa m1 xc,.slice xb m2 xd] 121);have IS:=hd_ (Kk wr #[.bool s,.slice xa m1 xc,.slice xb m2 xd] 121 _ rfl);obtain⟨k0,k1,k2,-⟩:=Kd IS.o;replace D:=bt_ D gL;clear gL IS;go_wp2_with fail;generalize wr.alloc (.cells #[.bool s,.slice xa m1 xc,.slice xb m2 xd] 121)=W1 at *;clear im il IP k0 k1 k2;refine cm_ (HZ.o W1) ?_;rintro e w3 ⟨rfl,hb⟩;replace D:=bt_ D hb;clear hb HZ;rw[decide_eq_true trivial];go_wp2_with fail;refine⟨⟨k+1,by omega,rfl,by go_num,D⟩,by simp[intOf];omega⟩
  ·obtain rfl:k=N:=by omega
   replace NB:=hk_ NB D.o;replace B0:=bt_ B0 D.o;obtain⟨n0,n1,n2,-⟩:=Kd NB.o;go_wp2_with fail;go_ret;exact⟨rfl,B0.o⟩
theorem pc_(k:Nat):((2:Int)^k)=((2^k:Nat):Int):=by rw[Int.natCast_pow];rfl
theorem Qal{K m S:Nat}{T1 T0:Int}(aC:S<=T1.natAbs)(hcut:(T1-m*T0).natAbs<=4*(K*m))(hT:T0.natAbs<=4*K)(ft:4*(K*m)+m*(4*K)<S):False:=by
 have Gg:=Ztf hcut hT;omega
theorem Qfy:4*(LN.KC*2^960)+2^960*(4*LN.KC)<LN.SC:=by decide +kernel
theorem Qd8{k:Nat}(hk:k<10){tl:List (Int×Int)}(h1:∀ x∈tl,x.1∈Kn k)(h0:∀ x∈tl,x.2≠0)(hd:(tl.map Prod.fst).Nodup)(fT:∀ x∈tl,x.2.natAbs<=LN.KC)(hl:tl.length<=4)(gh:tl≠[]):
  0<LN.eLo (lf 64) tl\/LN.eHi (lf 64) tl<0:=by
 have aC:=Zpa hk h1 hd h0 gh fT;have hcut:=Zqy (n:=64) (d:=960) (K:=LN.KC) (by decide) tl (fun x hx=>Za8 ((Zau k hk).1 _ (h1 x hx))) fT;obtain⟨n1,n2,n3,n4⟩:=Zxg (lf 64) LN.KC tl fT;have hb:=Qfy;rw[show (64:Nat)+960=1024 from rfl] at hcut;have e2:((2:Int)^960)=((2^960:Nat):Int):=pc_ 960
 rw[e2] at hcut;generalize LN.KC=K at *;generalize LN.SC=S at *;generalize LN.sumT (lf 1024) tl=T1 at *;generalize (2:Nat)^960=m at *;refine Decidable.byContradiction fun hc=>?_
 have c1:LN.eLo (lf 64) tl<=0:=Int.not_lt.1 fun h=>hc (.inl h)
 have c2:0<=LN.eHi (lf 64) tl:=Int.not_lt.1 fun h=>hc (.inr h)
 have hW:tl.length*K<=4*K:=Nat.mul_le_mul_right _ hl;have ID:tl.length*(K*m)<=4*(K*m):=Nat.mul_le_mul_right _ hl;have hT:(LN.sumT (lf 64) tl).natAbs<=4*K:=by
  generalize LN.sumT (lf 64) tl=T0 at *;generalize LN.eLo (lf 64) tl=lo at *;generalize LN.eHi (lf 64) tl=hi at *;clear hcut aC hb e2 ID;omega
 exact Qal aC (Nat.le_trans hcut ID) hT hb
theorem Zyz{ps:List Int}(h:ps.length<=4)(l:List Rat):(tlQ ps l).length<=4:=Nat.le_trans (by have:=(Zb9 (Qn l) ps l).length_le;rw[List.length_map] at this;exact this) h
theorem Qa4{k:Nat}(hk:k<10){l:List Rat}(hs:Sml 960 12 l)(gh:tlQ (Kn k) l≠[]):Zar 64 (Kn k) l≠0:=by
 have hq:=(Zau k hk);have h:=Qd8 hk (tl:=tlQ (Kn k) l) (fun x hx=>(Zm hx).1) (fun x hx=>Zqw hx) (Zg6 hq.2) (fun x hx=>Nat.le_trans (hs.kb (by decide) x hx) (by decide +kernel)) (Zyz (Zjn k hk).2.1 l) gh;obtain⟨e1,e2⟩:=Zll 64 (Kn k) l;unfold Zar;rcases h with h|h
 ·rw[if_pos (e1.2 (Int.le_of_lt h))];decide
 ·split
  ·decide
  ·rw[if_pos (e2.2 (Int.le_of_lt h))];decide
theorem Zvd{sg:Int}{n:Nat}(hn:n<=64){T:List (Int×Rat)}(hT:∀ x∈T,x.1∈Vj/\Sm 30 x.2){G:Nat}(hG:2*10^55<=G):∀ j,j<=T.length->SmX G sg n j (T.take j) (Zdx sg n (T.take j))
 | 0,_=>Zq2 G sg n
 | j+1,h=>by
  have ih:=Zvd (sg:=sg) hn hT hG j (by omega);have hx:=hT _ (List.getElem_mem (show j<T.length by omega));rw[List.take_succ_eq_append_getElem (show j<T.length by omega)];exact(Zq3 (A:=10^30) (C:=10^25) (Q:=10^55) ih (Nat.le_of_lt hx.2.1) (Nat.le_trans (Nat.le_of_lt hx.2.2) (by decide)) (Qeo hx.1 hn) (by decide) (by decide) hG).1
theorem Qc1{sg:Int}{n:Nat}(hn:n<=64){ps:List Int}{l:List Rat}(hp:∀ p∈ps,p∈Vj)(hl:∀ q∈l,Sm 30 q):∃ G k,SmX G sg n k (nzL ps l) (Zdx sg n (nzL ps l)):=by
 obtain⟨G,hG⟩:∃ G:Nat,2*10^55<=G:=⟨_,Nat.le_refl _⟩;have h:=Zvd (sg:=sg) hn (T:=nzL ps l) (fun x hx=>⟨hp _ (Zk3 hx).1,hl _ (Zk3 hx).2.1⟩) hG _ nr_;rw[List.take_length] at h;exact⟨G,_,h⟩
theorem Zrz(n:Nat):∀ (ps:List Int) (l:List Rat),loE n ps (l.map fun x => -x) = - hiE n ps l/\hiE n ps (l.map fun x => -x) = - loE n ps l
 | [],_=>by simp[loE,hiE]
 | _::_,[]=>by simp[loE,hiE]
 | p::ps,c::l=>by
  obtain⟨i1,i2⟩:=Zrz n ps l;have fW:=Zbl p n;simp only[List.map_cons,loE,hiE];rw[i1,i2];rcases Decidable.em (c<0) with hc|hc
  ·obtain⟨m1,m2⟩:=Zd6 fW hc;obtain⟨m3,m4⟩:=Zbb fW (show (0:Rat) <= -c by grind);rw[m1,m2,m3,m4];constructor<;>grind
  ·have hc:=Rat.not_lt.1 hc;obtain⟨m1,m2⟩:=Zbb fW hc;rcases Decidable.em (c=0) with h0|h0
   ·obtain⟨m3,m4⟩:=Zbb fW (show (0:Rat) <= -c by grind);rw[m1,m2,m3,m4,h0];constructor<;>grind
   ·obtain⟨m3,m4⟩:=Zd6 fW (show -c<0 by grind);rw[m1,m2,m3,m4];constructor<;>grind
theorem Zsb(n:Nat):∀ (ps:List Int) (l:List Rat),Zbj n ps (l.map fun x => -x)=Zbj n ps l
 | [],_=>by simp[Zbj]
 | _::_,[]=>by simp[Zbj]
 | p::ps,c::l=>by
  have ih:=Zsb n ps l;unfold Zbj at ih ⊢;rw[List.map_cons,List.zip_cons_cons,List.zip_cons_cons,List.filterMap_cons,List.filterMap_cons,ih];have e:(-c).num=0↔c.num=0:=by rw[Rat.num_eq_zero,Rat.num_eq_zero];constructor<;>intro h<;>grind
  by_cases h:c.num=0
  ·rw[if_pos h,if_pos (e.2 h)]
  ·rw[if_neg h,if_neg (fun h'=>h (e.1 h'))]
theorem Qa1{la lb:List Rat}(h:la.length=lb.length):Zao lb la=(Zao la lb).map fun x => -x:=by
 refine List.ext_getElem (by simp[Zcr,h]) fun i h1 h2=>?_
 have i1:i<la.length:=by simp[Zcr,h] at h2;omega
 rw[Zlo lb la i (by omega) i1 h1,List.getElem_map,Zlo la lb i i1 (by omega)]
 grind
theorem Zs6:∀ k,k<10->∀ i,i<4->0<i->i<(Kn k).length->(Kn k).getD (i-1) 0<(Kn k).getD i 0:=by decide +kernel
structure TcF (ps:List Int) (d d':List Rat) (sg:Int) (n:Nat):Prop where
 le:n<=64
 at_:Zbk (fun b=>Zar b ps d != 0) n
 dec:Zar n ps d=sg
 sz:LN.sz ps d=sg
 pm:sg=1\/sg = -1
 res:Zzc sg (Zdx sg n (nzL ps d)).1=true
 bnd:Zbj n ps d'=Zbj n ps d
 no:Zzc (-sg) (Zdx (-sg) n (nzL ps d)).1=false
 back:Zzc (-sg) (Zdx (-sg) n (nzL ps d')).1=true
 decb:Zar n ps d' = -sg
 any':d'.any nzQ=true
 ne:0<(nzL ps d).length
 ne':0<(nzL ps d').length
 en:Zar 1000 ps d≠0
 up:∀ b,b<1000->(Zar b ps d != 0)=true->(Zar (b+1) ps d != 0)=true
theorem Zk2{ps:List Int}{l:List Rat}(hl:l.length=ps.length)(h:l.any nzQ=true):0<(nzL ps l).length:=by
 obtain⟨q,hq,h0⟩:=List.any_eq_true.1 h;obtain⟨i,hi,rfl⟩:=List.mem_iff_getElem.1 hq;refine List.length_pos_of_mem (a:=(ps[i],l[i])) ?_;unfold nzL;refine List.mem_filter.2 ⟨?_,?_⟩
 ·rw[List.mem_iff_getElem];exact⟨i,by rw[List.length_zip];omega,List.getElem_zip⟩
 ·have h1:=(Zhl _).1 h0;simp[h1]
theorem Qer(l:List Rat):(l.map fun x => -x).any nzQ=l.any nzQ:=by
 rw[List.any_map];congr 1
 funext q
 show nzQ (-q)=nzQ q
 have h1:=Zhl q;have h2:=Zhl (-q);cases h:nzQ q<;>cases h':nzQ (-q)<;>simp_all<;>grind
theorem tcF{k:Nat}(hk:k<10){d d':List Rat}(Iv:d'=d.map fun x => -x)(hl:d.length=(Kn k).length)(hs:Sml 960 12 d)(hs30:∀ q∈d,Sm 30 q)(hs30':∀ q∈d',Sm 30 q)(hnz:d.any nzQ=true):∃ (sg:Int) (n:Nat),TcF (Kn k) d d' sg n:=by
 have EN:=Zau k hk;obtain⟨q,hq,DI⟩:=List.any_eq_true.1 hnz;have gh:tlQ (Kn k) d≠[]:=Qff hl ⟨q,hq,(Zhl q).1 DI⟩;have G':=Qa4 hk hs gh;have gY:∀ p∈Kn k,p∈Zir:=fun p hp=>Za8 (EN.1 p hp)
 have CT:∀ b,b<1000->(Zar b (Kn k) d != 0)=true->(Zar (b+1) (Kn k) d != 0)=true:=fun b hb h=>by
  rw[bne_iff_ne] at h ⊢;exact Zp9 gY (by omega) h
 have Et:(Zar 1000 (Kn k) d != 0)=true:=by
  have h:=Zqt CT 936 64 (by decide) (by rw[bne_iff_ne];exact G');exact h
 obtain⟨n,hN⟩:=Znj (T:=fun b=>Zar b (Kn k) d != 0) Et;have hn:n<=64:=by
  refine Nat.not_lt.1 fun h=>?_
  have h2:=Zqt CT (n-1-64) 64 (by have:=hN.le;omega) (by rw[bne_iff_ne];exact G');rw[show 64+(n-1-64)=n-1 by omega] at h2;rcases hN.low with h3|h3
  ·omega
  ·rw[h2] at h3;cases h3
 have Dt:Zar n (Kn k) d≠0:=by have:=hN.at_;rw[bne_iff_ne] at this;exact this
 have EZ:Zar n (Kn k) d=LN.sz (Kn k) d:=Zxr (by omega) gY EN.2 gh Dt;have GO:Zbj n (Kn k) d'=Zbj n (Kn k) d:=by rw[Iv];exact Zsb ..
 have dU:d'.any nzQ=true:=by rw[Iv,Qer];exact hnz
 have Dj:d'.length=(Kn k).length:=by rw[Iv,List.length_map];exact hl
 obtain⟨e1,e2⟩:=Zrz n (Kn k) d;rw[<- Iv] at e1 e2;have hS:∀ (c:List Rat) (sg:Int),(∀ q∈c,Sm 30 q)->∃ G k',SmX G sg n k' (nzL (Kn k) c) (Zdx sg n (nzL (Kn k) c)):=fun c sg h=>Qc1 hn EN.1 h
 obtain⟨G1,k1,S1⟩:=hS d 1 hs30;obtain⟨G2,k2,S2⟩:=hS d (-1) hs30;obtain⟨G3,k3,S3⟩:=hS d' 1 hs30';obtain⟨G4,k4,S4⟩:=hS d' (-1) hs30';have r1:=Zq6 S1;have r2:=Zq7 S2;have r3:=Zq6 S3;have r4:=Zq7 S4;have LY:0<=loE n (Kn k) d->hiE n (Kn k) d<=0->False:=fun a b=>by
  have x1:=Zro (n:=n) (by omega) gY EN.2 gh a;have x2:=Zru (n:=n) (by omega) gY EN.2 gh b;rw[x1] at x2;cases x2
 rw[e1] at r3;rw[e2] at r4
 by_cases fy:0<=loE n (Kn k) d
 ·have Eo:Zar n (Kn k) d=1:=by unfold Zar;rw[if_pos fy]
  have ec:¬ hiE n (Kn k) d<=0:=LY fy;have cD:Zar n (Kn k) d' = -1:=by
   unfold Zar;rw[e1,e2,if_neg (by grind),if_pos (by grind)]
  refine⟨1,n,hn,hN,Eo,by rw[<- EZ,Eo],.inl rfl,?_,GO,?_,?_,cD,dU,Zk2 hl hnz,Zk2 Dj dU,by rw[bne_iff_ne] at Et;exact Et,CT⟩
  ·rw[r1,decide_eq_true fy]
  ·rw[r2,decide_eq_false ec]
  ·rw[r4,decide_eq_true (by grind)]
 ·have ec:hiE n (Kn k) d<=0:=by
   refine Decidable.byContradiction fun h=>Dt ?_
   unfold Zar;rw[if_neg fy,if_neg h]
  have Eo:Zar n (Kn k) d = -1:=by unfold Zar;rw[if_neg fy,if_pos ec]
  have cD:Zar n (Kn k) d'=1:=by
   unfold Zar;rw[e1,if_pos (by grind)]
  refine⟨-1,n,hn,hN,Eo,by rw[<- EZ,Eo],.inr rfl,?_,GO,?_,?_,cD,dU,Zk2 hl hnz,Zk2 Dj dU,by rw[bne_iff_ne] at Et;exact Et,CT⟩
  ·rw[r2,decide_eq_true ec]
  ·rw[Int.neg_neg,r1,decide_eq_false fy]
  ·rw[Int.neg_neg,r3,decide_eq_true (by grind)]
def Qck (l:List Nat):Prop:=∀ x∈l,x<4294967296
theorem Qck.getD{l:List Nat}(h:Qck l)(i:Nat):l.getD i 0<4294967296:=by
 rw[List.getD_eq_getElem?_getD];cases hk:l[i]? with
 | none=>simp
 | some x=>exact h x (List.mem_of_getElem? hk)
theorem Qck.set{l:List Nat}(h:Qck l)(i x:Nat)(hx:x<4294967296):Qck (l.set i x):=fun y hy=>by
 rcases List.mem_or_eq_of_mem_set hy with hy|hy
 ·exact h y hy
 ·rw[hy];exact hx
theorem Qck.take{l:List Nat}(h:Qck l)(k:Nat):Qck (l.take k):=fun x hx=>h x (List.mem_of_mem_take hx)
def Zyd (w:World) (B:Nat) (a:OA_) (c:Nat) (l:List Nat):Prop:=Zun w B a c (nI l)
theorem Zyd.open{w:World}{B c:Nat}{a:OA_}{l:List Nat}(h:Zyd w B a c l)(hn:0<l.length):
  ∃ g,a=some ⟨g,0,none⟩/\B<=g/\g<w.heap.size/\l.length<=c/\(∀ j,j<l.length->w.cell? ⟨g,j,none⟩=some (.int .i64 (l.getD j 0:Nat)))/\(∀ j,w.frozen? ⟨g,j,none⟩=false):=by
 obtain⟨g,cap,hv,h1,h2,h3,h4,h5⟩:=Qz h (by rw[Zhp];exact hn);simp only[Value.slice.injEq] at hv;obtain⟨rfl,-,rfl⟩:=hv;rw[Zhp] at h3 h4;refine⟨g,rfl,h1,h2,h3,fun j hj=>?_,h5⟩;have h6:j<(nI l).length:=by rw[Zhp];exact hj
 rw[h4 j (by omega),Yn (nI l) j h6,Qfp l j hj h6]
theorem Zyd.store{w:World}{B c g:Nat}{l:List Nat}(h:Zyd w B (some ⟨g,0,none⟩) c l)(j x:Nat):
  Zyd (w.setCell ⟨g,j,none⟩ (.int .i64 (x:Nat))) B (some ⟨g,0,none⟩) c (l.set j x):=by
 have:=(World.ownsRow.stored h j (.int .i64 (x:Nat))).1
 unfold Zyd Zun;rw[<- Qfo,List.length_set,show Vd ((nI l).set j (x:Int))=(Vd (nI l)).set j (.int .i64 x) by simp[Vd,List.map_set]];exact this
theorem Zyd.below{w w':World}{B c:Nat}{a:OA_}{l:List Nat}(h:Zyd w B a c l){D:Nat}(hb:Below D w w')(hD:w.heap.size<=D):Zyd w' B a c l:=Zun.below h hb hD
theorem Zyd.rd{w:World}{B c:Nat}{a:OA_}{l:List Nat}(h:Zyd w B a c l):Rd w a (Vd (nI l)):=Zun.rd h
structure RsI (w:World) (ga gb:Nat) (lo hi:Rat) (wr:World):Prop where
 r0:∃ x y,wr.heap[w.heap.size]?=some (.cells #[x,y] 101 (0,0))
 r1:∃ x y,wr.heap[w.heap.size+1]?=some (.cells #[x,y] 101 (0,0))
 a:Zc0 wr ga lo
 b:Zc0 wr gb hi
 na:w.heap.size+2<=ga
 nb:w.heap.size+2<=gb
 bel:Bw_ w wr
theorem RsI.put0{w wr:World}{ga gb:Nat}{lo hi:Rat}(h:RsI w ga gb lo hi wr)(x y:Value):RsI w ga gb lo hi ((wr.setCell ⟨w.heap.size,0,none⟩ x).setCell ⟨w.heap.size,1,none⟩ y):=by
 obtain⟨⟨x0,y0,h0⟩,⟨x1,y1,h1⟩,h2,h3,h4,h5,h6⟩:=h;refine⟨⟨_,_,Zrh h0 x y⟩,⟨_,_,Zd2 h1 (by omega) x y⟩,Zc0.set h2 (by omega) _ _,Zc0.set h3 (by omega) _ _,h4,h5,(h6.setCell (p:=⟨w.heap.size,0,none⟩) nr_ _).setCell (p:=⟨w.heap.size,1,none⟩) nr_ _⟩
theorem RsI.drew{w wr:World}{ga gb:Nat}{lo hi:Rat}(h:RsI w ga gb lo hi wr)(n:Nat):RsI w ga gb lo hi (wr.drewN n):=⟨h.r0,h.r1,h.a,h.b,h.na,h.nb,Qe h.bel n⟩

end Go.Proofs.YtbielfplgbammaaGreatDoor

namespace Go.Proofs.YtbielfplgbammaaGreatDoor
open Go.RowKit
structure BdI (w wr:World) (a:OA_) (m c:Nat) (bl:List (Int×Int×ByteArray)):Prop where
 own:wr.ownsRow w.heap.size 124 3 (.slice a m c) m (Qu bl)
 bel:Bw_ w wr
theorem BdI.below{w wr w':World}{a:OA_}{m c:Nat}{bl:List (Int×Int×ByteArray)}(h:BdI w wr a m c bl)(hb:Bw_ wr w'):BdI w w' a m c bl :=
 ⟨Ky h.own hb nr_,h.bel.trans (hb.mono h.bel.size)⟩
theorem BdI.push{w W w5:World}{mm c d:Nat}{a a3:OA_}{bl:List (Int×Int×ByteArray)}{x:Int×Int×ByteArray}{news:List Value}(h:BdI w W a mm c bl)
  (hnews:news=[.int .i64 x.1,.int .i64 x.2.1,.string x.2.2])
  (hg:(W.alloc (.cells news.toArray 124)).grownBy w5 (Value.slice a mm c).ownBlock) (ho:w5.ownsRow w.heap.size 124 3 (.slice a3 (mm+1) d) (mm+1) (Qu bl++news)) :
  BdI w w5 a3 (mm+1) d (bl++[x]):=by
 refine⟨?_,(h.bel.alloc h.bel.size _).grown hg (by simp;have:=h.bel.size;omega) (fun k hk=>(World.ownsRow.lt h.own k hk).1)⟩;rw[Zez];subst hnews;exact ho
theorem Zus(w:World)(a0 a1 a2:OA_)(c0 c1 c2:Nat)(ps:List Int)
  (FL:Hid (∀ W,Bw_ w W->Kc Tryz.prog 78 #[.slice a0 ps.length c0,.slice a1 ps.length c1] W (.int .i64 0)))
  (eJ:Hid (∀ W,Bw_ w W->Kc Tryz.prog 119 #[.slice a1 ps.length c1] W (.bool true))) :
  Kc Tryz.prog 47 #[.slice a0 ps.length c0,.slice a1 ps.length c1,Zfr 0 0 a2 0 c2] w (.int .i64 0):=by
 unfold Kc at FL eJ ⊢;unfold Zfr;have B0:=hd_ ((Below.refl w.heap.size w).alloc nr_ (.cells #[.int .i64 0,.int .i64 0,.slice a2 0 c2] 46));have O:Hid ((w.alloc (.cells #[.int .i64 0,.int .i64 0,.slice a2 0 c2] 46)).heap[w.heap.size]?=some (.cells #[.int .i64 0,.int .i64 0,.slice a2 0 c2] 46 (0,0))):=heap_alloc_new w _;go_enter Tryz.func47,Tryz.ntmps47;go_wp2_with fail;generalize w.alloc (.cells #[.int .i64 0,.int .i64 0,.slice a2 0 c2] 46)=W0 at *;refine cm_ (FL.o _ B0.o) ?_;rintro e w1 ⟨rfl,hb⟩;replace O:=hk_ O hb;have B1:=bt_ B0 hb;clear hb FL B0;obtain⟨p0,p1,p2,-⟩:=Kd O.o;go_wp2_with fail;refine cm_ (eJ.o _ B1.o) ?_;rintro e w2 ⟨rfl,hb⟩;replace O:=hk_ O hb;have B2:=bt_ B1 hb;clear hb eJ B1;obtain⟨p0,p1,p2,-⟩:=Kd O.o;go_wp2_with fail;go_ret;exact⟨rfl,B2.o⟩
theorem Qcq(w:World)(a0 a1 a2:OA_)(c0 c1 c2 m D b:Nat)(ps:List Int)(l:List Rat)(sg:Int)(BL:List (Int×Int×ByteArray))(rp:Rd w a0 (Vd ps))(rl:Rd w a1 (Kj l))(rb:Rd w a2 (Qu BL))(hm:BL.length=m)(eG:m<=1000000)
  (hl:l.length=ps.length) (hn:ps.length<=100) (hp:∀ p∈ps,∃ q:Nat,p=q/\(q=2\/q∈Zba)) (hs:∀ q∈l,Sm D q) (hD:D<=30) (hb:b<=1000) (EZ:¬ sg=0) (L:Qa w) (hE:BL=Zbj b ps l) (hd:Zar b ps l=sg)
  (FL:Hid (∀ W,Bw_ w W->Kc Tryz.prog 78 #[.slice a0 ps.length c0,.slice a1 ps.length c1] W (.int .i64 0)))
  (eJ:Hid (∀ W,Bw_ w W->Kc Tryz.prog 119 #[.slice a1 ps.length c1] W (.bool false))) :
  Kc Tryz.prog 47 #[.slice a0 ps.length c0,.slice a1 ps.length c1,Zfr sg (b:Nat) a2 m c2] w (.int .i64 0):=by
 unfold Kc at FL eJ ⊢;unfold Zfr;have Bh:=hd_ (fun W (hW:Bw_ w W)=>Zff W ps l b a0 a1 c0 c1 (rp.below hW nr_) (rl.below hW nr_) hl hn hp hb (L.below hW));have eT:=hd_ (fun W (hW:Bw_ w W) R (H:Zod W R ps l b)=>Zcb W R ps l b b D H hl hn hp hs (by omega) nr_ hb (L.below hW));have BU:=hd_ (fun W=>Zlh W (loE b ps l) (hiE b ps l));rw[Zoy] at BU;have BX:=hd_ (fun W (hW:Bw_ w W) a c (r:Rd W a (Qu (Zbj b ps l)))=>Zui W a2 a c2 c BL (Zbj b ps l) (rb.below hW nr_) r (by omega) (Nat.le_trans (Zx3 b ps l) (by omega)));rw[hm] at BX;have Bf:=hd_ rp;have Bg:=hd_ rl;have Hl:=hd_ hl;have Gj:=Yf b ps l hl;have DK:=fun k h1 h2=>Zk8 b ps l hl k h1 h2
 have DA:=hd_ Gj;have ix:=hd_ DK;have o8:(sg==0)=false:=by rw[beq_eq_false_iff_ne];exact EZ
 have PP:decide (sg=0)=false:=decide_eq_false EZ;have Gr:¬ ((b:Int)<0):=by omega
 have hZ:¬ (1000<(b:Int)):=by omega
 clear rp rl rb hs hp L hm eG Gj DK;unfold fr fv at eT BU;obtain⟨n,Fw⟩:∃ n,ps.length=n:=⟨_,rfl⟩;have Hn:=hd_ Fw;rw[Fw] at hn FL eJ Bh ⊢;clear Fw hl;have B0:=hd_ ((Below.refl w.heap.size w).alloc nr_ (.cells #[.int .i64 sg,.int .i64 b,.slice a2 m c2] 46));have O:Hid ((w.alloc (.cells #[.int .i64 sg,.int .i64 b,.slice a2 m c2] 46)).heap[w.heap.size]?=some (.cells #[.int .i64 sg,.int .i64 b,.slice a2 m c2] 46 (0,0))):=heap_alloc_new w _;go_enter Tryz.func47,Tryz.ntmps47;go_wp2_with fail;generalize w.alloc (.cells #[.int .i64 sg,.int .i64 b,.slice a2 m c2] 46)=W0 at *;refine cm_ (FL.o _ B0.o) ?_;rintro e w1 ⟨rfl,hb⟩;replace O:=hk_ O hb;have B1:=bt_ B0 hb;clear hb FL B0;obtain⟨p0,p1,p2,-⟩:=Kd O.o;go_wp2_with fail;refine cm_ (eJ.o _ B1.o) ?_;rintro e w2 ⟨rfl,hb⟩;replace O:=hk_ O hb;have B2:=bt_ B1 hb;clear hb eJ B1;obtain⟨p0,p1,p2,-⟩:=Kd O.o;go_wp2_with fail;clear p0 p1 p2;refine cm_ (Bh.o _ B2.o) ?_;rintro e w3 ⟨R,rfl,hg,hR,hb3⟩;replace O:=hk_ O hb3;have B3:=bt_ B2 hb3;have HG:=hd_ hg;clear hb3 Bh B2 hg hR;have fY:Hid (BdI w3 w3 none 0 0 (Zbj b (ps.take 0) (l.take 0))):=⟨World.ownsRow_nil ..,Below.refl _ _⟩;go_wp2_with fail
 go_loopw [9,54] (fun o i wr=>∃ (k:Nat) (a:OA_) (c mm:Nat),k<=n/\o = .slice a mm c/\i = .int .i64 k/\mm<=k/\Hid (mm=(Zbj b (ps.take k) (l.take k)).length)/\Hid (BdI w3 wr a mm c (Zbj b (ps.take k) (l.take k)))) (fun _ i _=>n-(intOf i).toNat)
 case atStart=>exact⟨0,none,0,0,Nat.zero_le _,rfl,rfl,Nat.le_refl _,rfl,fY⟩
 case round =>
  obtain⟨k,a,c,mm,hk,rfl,rfl,A',Hmm,HI⟩:=hrel;clear fY;have Bw:=bt_ B3 HI.o.bel
  by_cases H7:k<n
  ·have gi:(k:Int)<n:=by omega
   have fA:k<ps.length:=by rw[Hn.o];exact H7
   have gX:k<l.length:=by rw[Hl.o,Hn.o];exact H7
   obtain⟨b0,o0,rfl,hb0_,fH⟩:=Bf.o.open (by rw[Qw];omega);have eA:Hid (∀ W,Bw_ w W->W.cell? ⟨b0,o0+k,none⟩=some (.int .i64 ps[k])):=fun W hW=>by
    rw[hW.cell (p:=⟨b0,o0+k,none⟩) hb0_];exact fH k _ (Yn ps k fA)
   obtain⟨b1,o1,rfl,hb1_,gG⟩:=Bg.o.open (by rw[Kq];omega);obtain⟨x0,x1⟩:=Qb gG k (by rw[List.length_map];exact gX);rw[Qc l k gX] at x0 x1;rw[<- Bw.o.cell (p:=⟨b1,o1+k*2,none⟩) hb1_] at x0;rw[<- Bw.o.cell (p:=⟨b1,o1+k*2+1,none⟩) hb1_] at x1;have ay:IntKind.i64.wrap ((k:Int)+1)=((k+1:Nat):Int):=by rw[<- Int.natCast_succ];exact iw_ _ (by omega)
   have f':=hd_ (fun W=>Zos W l[k]);have bZ:=hd_ (Zn6 b ps l k fA gX);have mE:=hd_ (ix.o k fA gX);clear fH gG;unfold fr fv at f';unfold qs at x0 x1;simp only at x0 x1;generalize l[k]=q at *;generalize ps[k]=pk at *;have Cp:=hd_ (HI.o.below ((Below.refl _ _).alloc nr_ (.cells #[.string (itx q.num),.string (dec q.den)] 101)));have k8:=Ka (heap_alloc_new wr (.cells #[.string (itx q.num),.string (dec q.den)] 101))
   by_cases hz:q.num=0
   ·have df:=bZ.o;rw[if_pos hz,List.append_nil] at df;have FM:=hd_ df;rw[hz] at f' x0 k8 Cp;clear mE df bZ hz eA;go_wp2_with fail;refine cm_ (f'.o _) ?_;rintro e w4 ⟨rfl,hb⟩;have gk:=hd_ (Cp.o.below hb);clear hb f' k8 Cp HI;go_wp2_with fail;refine⟨⟨k+1,a,c,mm,by omega,rfl,by go_num,by omega,by rw[FM.o];exact Hmm,by rw[FM.o];exact gk⟩,by simp[intOf];omega⟩
   ·have MT:(q.num.sign != 0)=true:=by
     rw[bne_iff_ne];intro h;exact hz (Int.sign_eq_zero_iff_zero.1 h)
    have df:=bZ.o;rw[if_neg hz] at df;have FM:=hd_ df;have ic:=mE.o;rw[if_neg hz] at ic;have mD:=hd_ ic;clear df bZ hz ic mE;go_wp2_with fail;refine cm_ (f'.o _) ?_;rintro e w4 ⟨rfl,hb⟩;have gk:=hd_ (Cp.o.below hb);clear hb f' k8 Cp HI x0 x1;have B4:=bt_ B3 gk.o.bel;have cp:=eA.o w4 B4.o;obtain⟨-,k1,-,-⟩:=Kd (hj_ O gk.o.bel);obtain⟨_,_,_,_,al,cl,S⟩:=HG.o.below gk.o.bel;obtain⟨-,-,-,k3,-⟩:=Zdn S.ob;obtain⟨b2,o2,rfl,HU,GE⟩:=S.rs.open (by rw[Yx,DA.o];omega);have ct:=GE k _ (Zgi _ k (by rw[DA.o];exact fA));rw[mD.o] at ct;rw[Hn.o] at k3;have q0:=NW.cell cp;have q1:=NW.cell k1;have q2:=NW.cell k3;have q3:=NW.cell ct;have gn:Nonempty (NW w4):=⟨⟨w4,Below.refl _ _⟩⟩;have I:Hid (Bw_ w4 w4.drew):=(Below.refl _ _).drew;clear cp k1 k3 ct GE S HU;go_wp2_with fail;refine wn_ 15 [(2,0),(2,1),(2,2),(2,3),(1,4),(2,5),(1,6),(2,7),(2,8),(2,9),(1,10),(2,11),(2,12),(1,13),(0,14),(0,15),(0,16),(0,17)] I ?_;iterate 4 (refine wa_ rfl ?_;go_big_quiet_step (fail);refine wq_ ?_)
    refine wr_ rfl ?_;go_big_quiet_step (fail);refine wq_ ?_;refine wa_ rfl ?_;go_big_quiet_step (fail);refine wq_ ?_;refine wr_ rfl ?_;go_big_quiet_step (fail);refine wq_ ?_;iterate 3 (refine wa_ rfl ?_;go_big_quiet_step (fail);refine wq_ ?_)
    refine wr_ rfl ?_;go_big_quiet_step (fail);refine wq_ ?_;iterate 2 (refine wa_ rfl ?_;go_big_quiet_step (fail);refine wq_ ?_)
    refine wr_ rfl ?_;go_big_quiet_step (fail);refine wq_ ?_;clear gn q0 q1 q2 q3;refine wm_ rfl ?_;go_wp2_with fail;refine⟨⟨⟨_,I.o⟩,rfl⟩,?_⟩;refine wm_ rfl ?_;go_wp2_with fail;have gE:=hd_ (gk.o.below I.o);have fL:=hd_ gE.o.bel.size;refine wm_ rfl ?_
    go_wp2_with (at_builtin;refine Ku rfl (.tmp 62) (.tmp 77) 44 rfl Qh3 _ 1 [.int .i64 pk,.int .i64 b,.string (dec (lgN pk b))] rfl rfl gE.o.own fL.o rfl (by simp[Value.oneCell']) (by omega) (by omega) ?_)
    intro v' w5 gl gJ GN;obtain⟨a3,d3,rfl⟩:=Qp gl;have aN:=gE.o.push (x:=(pk,(b:Int),dec (lgN pk b))) rfl gJ gl;rw[<- FM.o] at aN;have Fd:=hd_ aN;have Am:Hid (mm+1=(Zbj b (ps.take (k+1)) (l.take (k+1))).length):=by
     show _=_
     rw[FM.o,List.length_append,<- Hmm.o];rfl
    clear gl gJ GN aN gE I;go_wp2_with fail;refine wm_ rfl ?_;go_wp2_with fail;simp only[RP.walkR];go_wp2_with fail;refine⟨⟨k+1,a3,d3,mm+1,by omega,rfl,by go_num,by omega,Am,Fd⟩,by simp[intOf];omega⟩
  ·obtain rfl:k=n:=by omega
   have gi:¬ (k:Int)<k:=by omega
   have eE:Zbj b (ps.take k) (l.take k)=Zbj b ps l:=by
    rw[<- Hn.o,List.take_length,List.take_of_length_le (by rw[Hl.o];omega)]
   rw[eE] at Hmm HI;have AA:=hd_ (Zv6 HI.o.own);have Pp:=hd_ (HG.o.below HI.o.bel);obtain⟨k0,k1,k2,-⟩:=Kd (hj_ O HI.o.bel);rw[<- Hmm.o] at BX;clear eE HG HI Bf Bg O;have q0:=NW.cell k0;have q1:=NW.cell k1;have q2:=NW.cell k2;have gn:Nonempty (NW wr):=⟨⟨wr,Below.refl _ _⟩⟩;have I:Hid (Bw_ wr wr.drew):=(Below.refl _ _).drew;clear k0 k1 k2;rw[decide_eq_true hE] at BX;clear hE;go_wp2_with fail;refine wn_ 16 [(2,0),(1,1),(2,2),(0,3),(0,4),(0,5),(2,6),(2,7),(1,8),(2,13),(1,14),(0,9),(2,10),(2,11),(0,12),(0,15),(0,16)] I ?_;refine wa_ rfl ?_;go_big_quiet_step (fail);refine wq_ ?_;refine wr_ rfl ?_;go_big_quiet_step (fail);refine wq_ ?_;refine wa_ rfl ?_;go_big_quiet_step (fail);refine wq_ ?_;refine wm_ rfl ?_;go_wp2_with fail;refine cm_ (BX.o _ (bu_ Bw I.o) _ _ (AA.o.below I.o nr_)) ?_;rintro e x1 ⟨rfl,hb⟩;have I1:Hid (Bw_ wr x1):=I.o.trans (hb.mono I.o.size);clear hb I BX;go_wp2_with fail;refine⟨⟨⟨_,I1.o⟩,rfl⟩,?_⟩;refine wm_ rfl ?_;go_wp2_with fail;refine⟨⟨⟨_,I1.o⟩,rfl⟩,?_⟩;refine wm_ rfl ?_;go_wp2_with fail;refine⟨⟨⟨_,I1.o⟩,rfl⟩,?_⟩;iterate 2 (refine wa_ rfl ?_;go_big_quiet_step (fail);refine wq_ ?_)
   refine wr_ rfl ?_;go_big_quiet_step (fail);refine wq_ ?_;refine wa_ rfl ?_;go_big_quiet_step (fail);refine wq_ ?_;refine wr_ rfl ?_;go_big_quiet_step (fail);refine wq_ ?_;clear gn q0 q1 q2;refine wm_ rfl ?_;go_wp2_with fail;refine cm_ (eT.o _ (bu_ Bw I1.o) R (Pp.o.below I1.o)) ?_;rintro e x2 ⟨rfl,hb⟩;have I2:Hid (Bw_ wr x2):=I1.o.trans (hb.mono I1.o.size);clear hb I1 eT;go_wp2_with fail;refine⟨⟨⟨_,I2.o⟩,rfl⟩,?_⟩;iterate 2 (refine wa_ rfl ?_;go_big_quiet_step (fail);refine wq_ ?_)
   refine wm_ rfl ?_;go_wp2_with fail;refine cm_ (BU.o _) ?_;rintro e x3 ⟨rfl,hb⟩;have I3:Hid (Bw_ wr x3):=I2.o.trans (hb.mono I2.o.size);clear hb I2 BU;go_wp2_with fail;refine⟨⟨⟨_,I3.o⟩,rfl⟩,?_⟩;generalize Zar b ps l=dd at *;have B9:=bt_ Bw I3.o;subst hd;have ri:(dd==dd)=true:=beq_self_eq_true _;refine wm_ rfl ?_;go_wp2_with fail;refine⟨⟨⟨_,I3.o⟩,rfl⟩,?_⟩;refine wm_ rfl ?_;go_wp2_with fail;simp only[RP.walkR];go_wp2_with fail;go_ret;exact⟨rfl,B9.o⟩
theorem Zut(w:World)(a0 a1 a2:OA_)(c0 c1 c2 D b:Nat)(ps:List Int)(l:List Rat)(sg:Int)(BL:List (Int×Int×ByteArray))(rp:Rd w a0 (Vd ps))(rl:Rd w a1 (Kj l))(rb:Rd w a2 (Qu BL))(eG:BL.length<=1000000)
  (hi:Zi6 ps) (hl:l.length=ps.length) (hn:ps.length<=100) (hp:∀ p∈ps,∃ q:Nat,p=q/\(q=2\/q∈Zba)) (hs:∀ q∈l,Sm D q) (hD:D<=30) (GD:Qx ps=0) (hnz:l.any nzQ=true) (hb:b<=1000) (EZ:¬ sg=0) (hE:BL=Zbj b ps l) (hd:Zar b ps l=sg) (L:Qa w) :
  Kc Tryz.prog 47 #[.slice a0 ps.length c0,.slice a1 ps.length c1,Zfr sg b a2 BL.length c2] w (.int .i64 0):=by
 have FL:=hd_ (fun W (hW:Bw_ w W)=>Zdp W a0 a1 c0 c1 ps l (rp.below hW nr_) (rl.below hW nr_) hi hl hn (fun q hq=>(hs q hq).le hD) GD (L.below hW));have eJ:=hd_ (fun W (hW:Bw_ w W)=>Zgp W a1 c1 l (rl.below hW nr_) (by omega));rw[hl,hnz] at eJ;exact Qcq w a0 a1 a2 c0 c1 c2 BL.length D b ps l sg BL rp rl rb rfl eG hl hn hp hs hD hb EZ L hE hd FL eJ
theorem Qe9(w:World)(a0 a1 a2:OA_)(c0 c1 c2:Nat)(ps:List Int)(l:List Rat)(rp:Rd w a0 (Vd ps))(rl:Rd w a1 (Kj l))(hi:Zi6 ps)(hl:l.length=ps.length)(hn:ps.length<=100)(hs:∀ q∈l,Sm 30 q)(GD:Qx ps=0)(hnz:l.any nzQ=false)(L:Qa w):
  Kc Tryz.prog 47 #[.slice a0 ps.length c0,.slice a1 ps.length c1,Zfr 0 0 a2 0 c2] w (.int .i64 0):=by
 have FL:=hd_ (fun W (hW:Bw_ w W)=>Zdp W a0 a1 c0 c1 ps l (rp.below hW nr_) (rl.below hW nr_) hi hl hn hs GD (L.below hW));have eJ:=hd_ (fun W (hW:Bw_ w W)=>Zgp W a1 c1 l (rl.below hW nr_) (by omega));rw[hl,hnz] at eJ;exact Zus w a0 a1 a2 c0 c1 c2 ps FL eJ
theorem Zo9:∀ k,k<10->∀ p∈Kn k,p=p.toNat/\(p.toNat=2\/p.toNat∈Zba):=by decide +kernel
theorem Zz7(w:World)(L:Qa w):Kc Tryz.prog 48 #[] w (.bool true):=by
 have h:=Zz8 w L;unfold Kc at *
 go_enter Tryz.func48,Tryz.ntmps48;go_wp2_with fail;refine cm_ h ?_;rintro e w1 ⟨rfl,hb⟩;go_wp2_with fail;go_ret;exact⟨rfl,hb⟩
theorem Zz6(w:World)(L:Qa w):Kc Tryz.prog 9 #[] w (.bool true):=by
 have h:=Ztq w L;have h2:=hd_ (fun W (hW:Bw_ w W)=>Zz7 W (L.below hW));unfold Kc at *
 go_enter Tryz.func9,Tryz.ntmps9;go_wp2_with fail;refine cm_ h ?_;rintro e w1 ⟨rfl,hb⟩;have GO:=hd_ hb;clear hb;go_wp2_with fail;refine cm_ (h2.o _ GO.o) ?_;rintro e w2 ⟨rfl,HU⟩;go_wp2_with fail;go_ret;exact⟨rfl,GO.o.trans (HU.mono GO.o.size)⟩
theorem Qfx(w:World)(pn:Nat)(nA:Nat->Int)(dA:Nat->Nat)(nB:Nat->Int)(dB:Nat->Nat)(hpn:pn<256)(hnA:∀ k,-128<=nA k/\nA k<=127)(hdA:∀ k,dA k<256)(hnB:∀ k,-128<=nB k/\nB k<=127)(hdB:∀ k,dB k<256)(L:Qa w):
  Kc Tryz.prog 8 #[.agg (Zv5 pn nA dA nB dB)] w (.bool true):=by
 unfold Kc;have E7:pn%10<10:=Nat.mod_lt _ (by decide);have hp:=Zjn (pn%10) (Nat.mod_lt _ (by decide));have CT:=Zs6 (pn%10) E7;have LD:=fun {d d':List Rat}=>@tcF (pn%10) E7 d d'
 have EN:=Zau (pn%10) (Nat.mod_lt _ (by decide));have lR:=Zo9 (pn%10) (Nat.mod_lt _ (by decide));have Cl:=hd_ (fun W=>Zs5 W pn hpn);generalize Kn (pn%10)=ps at *;obtain⟨GD,hp4,dO,Gl⟩:=hp;obtain⟨Gq,Gv⟩:=EN;have GI:=Zsu Gq;have Fg:ps.length<=100:=by omega
 have hi:Zi6 ps:=fun x hx=>by have:=Gl x hx;omega
 have HK:Hid (∀ W,Bw_ w W->Kc Tryz.prog 9 #[] W (.bool true)):=fun W hW=>Zz6 W (L.below hW)
 have HA:Hid (∀ W a0 c0,Bw_ w W->Calls Tryz.prog 43 #[.slice a0 ps.length c0,.agg #[.int .i8 (nA 0),.int .u8 (dA 0),.int .i8 (nA 1),.int .u8 (dA 1),.int .i8 (nA 2),.int .u8 (dA 2),.int .i8 (nA 3),.int .u8 (dA 3)]] W fun e w'=>∃ a c,e = .returned (.slice a ps.length c)/\Rd w' a (Kj (Zw nA dA ps.length))/\Bw_ W w'):=fun W a0 c0 hW=>by
  refine cm_ (Zrm W a0 c0 ps.length hp4 nA dA hnA hdA (L.below hW)) ?_;rintro e w' ⟨a,c,rfl,ho,hb⟩;exact⟨a,c,rfl,ho.rd,hb⟩
 have HB:Hid (∀ W a0 c0,Bw_ w W->Calls Tryz.prog 43 #[.slice a0 ps.length c0,.agg #[.int .i8 (nB 0),.int .u8 (dB 0),.int .i8 (nB 1),.int .u8 (dB 1),.int .i8 (nB 2),.int .u8 (dB 2),.int .i8 (nB 3),.int .u8 (dB 3)]] W fun e w'=>∃ a c,e = .returned (.slice a ps.length c)/\Rd w' a (Kj (Zw nB dB ps.length))/\Bw_ W w'):=fun W a0 c0 hW=>by
  refine cm_ (Zrm W a0 c0 ps.length hp4 nB dB hnB hdB (L.below hW)) ?_;rintro e w' ⟨a,c,rfl,ho,hb⟩;exact⟨a,c,rfl,ho.rd,hb⟩
 have bh:=Zav nA dA ps.length;have Bk:=Zav nB dB ps.length;have sa:=Zm5 nA dA ps.length;have sb:=Zm5 nB dB ps.length;have ma:=Zjs nA dA ps.length;have mb:=Zjs nB dB ps.length;have lw:Sml 960 12 (Zao (Zw nA dA ps.length) (Zw nB dB ps.length)):=Sml.comb (by decide) ma mb 1 (-1);generalize Zw nA dA ps.length=la at *;generalize Zw nB dB ps.length=lb at *;have LT:=(Sml.comb (by decide) ma mb 1 (-1)).good (ps:=ps) (by decide) (Qfn (by decide)) Gq Gv;have Jq:∀ {l:List Rat},(∀ q∈l,Sm 2 q)->∀ q∈l,Sm 30 q:=fun h q hq=>(h q hq).le (by decide)
 have sd:∀ q∈Zao la lb,Sm 30 q:=fun q hq=>(Zd9 sa sb Zq1 Zor q hq).le (by decide)
 have CS:(Zao la lb).length=ps.length:=(Zcr la lb (by omega)).trans bh;have GK:Hid (∀ (W:World) (a0 a1 a2:OA_) (c0 c1 c2:Nat),Bw_ w W->Rd W a0 (Vd ps)->Rd W a1 (Kj la)->Rd W a2 (Kj lb)->Kc Tryz.prog 24 #[.slice a0 ps.length c0,.slice a1 ps.length c1,.slice a2 ps.length c2] W (.tuple #[.int .i64 (LN.sz ps (Zao la lb)),.int .i64 0])):=fun W a0 a1 a2 c0 c1 c2 hW r0 r1 r2 =>
  Qgr c0 c1 c2 GD Gl Fg r0 r1 r2 bh Bk (Jq sa) (Jq sb) LT (L.below hW)
 have Ft:Hid (∀ (W:World) (a0 a1 a2:OA_) (c0 c1 c2:Nat),Bw_ w W->Rd W a0 (Vd ps)->Rd W a1 (Kj la)->Rd W a2 (Kj lb)->Calls Tryz.prog 16 #[.slice a0 ps.length c0,.slice a1 ps.length c1,.slice a2 ps.length c2] W fun e w'=>∃ a c,e = .returned (.tuple #[.slice a ps.length c,.int .i64 0])/\Rd w' a (Kj (Zao la lb))/\Bw_ W w'):=fun W a0 a1 a2 c0 c1 c2 hW r0 r1 r2 =>
  Zdu.sub (w:=W) (s:=⟨#[]⟩) (t:=⟨#[]⟩) ⟨hi,GD,bh,Bk,sa,sb,by decide,by decide,L.below hW⟩ (Below.refl _ _) c0 c1 c2 r0 r1 r2
 have A5:∀ q∈Zao lb la,Sm 30 q:=fun q hq=>(Zd9 sb sa Zq1 Zor q hq).le (by decide)
 have iT:(Zao lb la).length=ps.length:=(Zcr lb la (by omega)).trans Bk;have Gi:Zao lb la=(Zao la lb).map fun x => -x:=Qa1 (by omega)
 have bV:Hid (∀ (W:World) (a0 a1 a2:OA_) (c0 c1 c2:Nat),Bw_ w W->Rd W a0 (Vd ps)->Rd W a1 (Kj lb)->Rd W a2 (Kj la)->Calls Tryz.prog 16 #[.slice a0 ps.length c0,.slice a1 ps.length c1,.slice a2 ps.length c2] W fun e w'=>∃ a c,e = .returned (.tuple #[.slice a ps.length c,.int .i64 0])/\Rd w' a (Kj (Zao lb la))/\Bw_ W w'):=fun W a0 a1 a2 c0 c1 c2 hW r0 r1 r2 =>
  Zdu.sub (w:=W) (s:=⟨#[]⟩) (t:=⟨#[]⟩) ⟨hi,GD,Bk,bh,sb,sa,by decide,by decide,L.below hW⟩ (Below.refl _ _) c0 c1 c2 r0 r1 r2
 have EY:∀ i,0<i->i<ps.length->ps.getD (i-1) 0<ps.getD i 0:=fun i h1 h2=>CT i (by omega) h1 h2
 have h6:ps.length<=6:=by omega
 have Dh:∀ p∈ps,∃ q:Nat,p=q/\(q=2\/q∈Zba):=fun p hp=>⟨p.toNat,lR p hp⟩
 have LQ:∀ n l,(Zbj n ps l).length<=1000000:=fun n l=>Nat.le_trans (Zx3 n ps l) (by omega)
 cases hnz:(Zao la lb).any nzQ
 ·-- equal sizes
  have gY:∀ q∈Zao la lb,q=0:=fun q hq=>by
   have h:=List.any_eq_false.1 hnz q hq
   by_cases e:q=0
   ·exact e
   ·exact absurd ((Zhl q).2 e) h
  have Gu:LN.sz ps (Zao la lb)=0:=LN.sz_zero GI gY;have fE:∀ q∈Zao la lb,q.num=0:=fun q hq=>by rw[gY q hq];rfl
  have fM:∀ q∈Zao lb la,q.num=0:=fun q hq=>by
   rw[Gi] at hq;obtain⟨r,hr,rfl⟩:=List.mem_map.1 hq;rw[gY r hr];rfl
  have Fn:la=lb:=List.ext_getElem (by omega) fun i h1 h2=>by
   have h3:i<(Zao la lb).length:=by omega
   have h4:=gY _ (List.getElem_mem h3);rw[Zlo la lb i h1 h2 h3] at h4
   grind
  have dt:Hid (∀ (W:World) (a0 a1 a2:OA_) (c0 c1 c2:Nat),Bw_ w W->Rd W a0 (Vd ps)->Rd W a1 (Kj la)->Rd W a2 (Kj lb)->Qbr 15 #[.slice a0 ps.length c0,.slice a1 ps.length c1,.slice a2 ps.length c2] W 0 0 []):=fun W a0 a1 a2 c0 c1 c2 hW r0 r1 r2 =>
   Zrf W a0 a1 a2 c0 c1 c2 ps.length (Zao la lb) _ _ [] (fun V hV=>Ft.o V a0 a1 a2 c0 c1 c2 (bv_ hW hV) (r0.below hV nr_) (r1.below hV nr_) (r2.below hV nr_))
    (fun V a c hV r=>by
     unfold Qbr;refine cm_ (Zp6 V a0 a c0 c ps (Zao la lb) (r0.below hV nr_) r hi CS Fg sd GD hnz (L.below (bv_ hW hV))) ?_;rintro e w' ⟨rfl,hb⟩;exact⟨none,0,rfl,.inl rfl,hb⟩)
  have dZ:Hid (∀ (W:World) (a0 a1 a3:OA_) (c0 c1 c3:Nat),Rd W a0 (Vd ps)->Rd W a1 (Kj (Zao la lb))->Kc Tryz.prog 18 #[.slice a0 ps.length c0,.slice a1 ps.length c1,Zfr 0 0 a3 0 c3] W (.bool true)):=fun W a0 a1 a3 c0 c1 c3 r0 r1 =>
   Zjg W a0 a1 a3 c0 c1 c3 ps (Zao la lb) r0 r1 Gq EY dO h6 CS sd fE
  have bd:Hid (∀ (W:World) (a0 a1 a3:OA_) (c0 c1 c3:Nat),Rd W a0 (Vd ps)->Rd W a1 (Kj (Zao lb la))->Kc Tryz.prog 18 #[.slice a0 ps.length c0,.slice a1 ps.length c1,Zfr 0 0 a3 0 c3] W (.bool true)):=fun W a0 a1 a3 c0 c1 c3 r0 r1 =>
   Zjg W a0 a1 a3 c0 c1 c3 ps (Zao lb la) r0 r1 Gq EY dO h6 iT A5 fM
  have Ax:Hid (∀ (W:World) (a0 a1 a3:OA_) (c0 c1 c3:Nat),Bw_ w W->Rd W a0 (Vd ps)->Rd W a1 (Kj (Zao la lb))->Kc Tryz.prog 47 #[.slice a0 ps.length c0,.slice a1 ps.length c1,Zfr 0 0 a3 0 c3] W (.int .i64 0)):=fun W a0 a1 a3 c0 c1 c3 hW r0 r1 =>
   Qe9 W a0 a1 a3 c0 c1 c3 ps (Zao la lb) r0 r1 hi CS Fg sd GD hnz (L.below hW)
  have BX:Hid (∀ (W:World) (a1 a2:OA_) (c1 c2:Nat),Rd W a1 (Kj la)->Rd W a2 (Kj lb)->Kc Tryz.prog 41 #[.slice a1 ps.length c1,.slice a2 ps.length c2] W (.bool true)):=fun W a1 a2 c1 c2 r1 r2=>by
   have:=Zkr W a1 a2 c1 c2 (la.map qs) (lb.map qs) r1 r2 (by rw[List.length_map];omega)
   rw[List.length_map,List.length_map,bh,Bk,decide_eq_true (by rw[Fn])] at this;exact this
  rw[Gu] at GK;clear LD CT EY h6 Dh LQ hnz gY Gu fE fM Fn Gi CS iT sd A5 Jq LT lw ma mb sa sb bh Bk GI Gq Gv GD Gl hp4 Fg dO hi lR L E7 hpn hnA hdA hnB hdB;unfold Qbr Zfr at dt;unfold Zfr at dZ bd Ax;generalize Zao la lb=ld at *;generalize Zao lb la=ld' at *;generalize ps.length=n at *;unfold Zv5;have B0:=hd_ ((Below.refl w.heap.size w).alloc nr_ (.cells #[.int .u8 pn,.int .i8 (nA 0),.int .u8 (dA 0),.int .i8 (nA 1),.int .u8 (dA 1),.int .i8 (nA 2),.int .u8 (dA 2),.int .i8 (nA 3),.int .u8 (dA 3),.int .i8 (nB 0),.int .u8 (dB 0),.int .i8 (nB 1),.int .u8 (dB 1),.int .i8 (nB 2),.int .u8 (dB 2),.int .i8 (nB 3),.int .u8 (dB 3)] 28));have P0:Hid ((w.alloc (.cells #[.int .u8 pn,.int .i8 (nA 0),.int .u8 (dA 0),.int .i8 (nA 1),.int .u8 (dA 1),.int .i8 (nA 2),.int .u8 (dA 2),.int .i8 (nA 3),.int .u8 (dA 3),.int .i8 (nB 0),.int .u8 (dB 0),.int .i8 (nB 1),.int .u8 (dB 1),.int .i8 (nB 2),.int .u8 (dB 2),.int .i8 (nB 3),.int .u8 (dB 3)] 28)).heap[w.heap.size]?=some (.cells #[.int .u8 pn,.int .i8 (nA 0),.int .u8 (dA 0),.int .i8 (nA 1),.int .u8 (dA 1),.int .i8 (nA 2),.int .u8 (dA 2),.int .i8 (nA 3),.int .u8 (dA 3),.int .i8 (nB 0),.int .u8 (dB 0),.int .i8 (nB 1),.int .u8 (dB 1),.int .i8 (nB 2),.int .u8 (dB 2),.int .i8 (nB 3),.int .u8 (dB 3)] 28 (0,0))):=heap_alloc_new w _;go_enter Tryz.func8,Tryz.ntmps8;go_wp2_with fail;generalize w.alloc (.cells #[.int .u8 pn,.int .i8 (nA 0),.int .u8 (dA 0),.int .i8 (nA 1),.int .u8 (dA 1),.int .i8 (nA 2),.int .u8 (dA 2),.int .i8 (nA 3),.int .u8 (dA 3),.int .i8 (nB 0),.int .u8 (dB 0),.int .i8 (nB 1),.int .u8 (dB 1),.int .i8 (nB 2),.int .u8 (dB 2),.int .i8 (nB 3),.int .u8 (dB 3)] 28)=w0 at *;refine cm_ (HK.o _ B0.o) ?_;rintro e_ w1 ⟨rfl,hb_⟩;have B1:=bt_ B0 hb_;replace P0:=hk_ P0 hb_;clear hb_ B0 HK;have p0:w1.cell? ⟨w.heap.size,0,none⟩=some (.int .u8 pn):=by rw[cell_of_row _ _ _ _ _ _ P0.o];rfl
  go_wp2_with fail;clear p0;refine cm_ (Cl.o _) ?_;rintro e_ w2 ⟨gp,rfl,rp_,hb_⟩;have B2:=bt_ B1 hb_;replace P0:=hk_ P0 hb_;have Rp:=hd_ rp_;clear hb_ rp_ Cl B1;have p1:w2.cell? ⟨w.heap.size,1,none⟩=some (.int .i8 (nA 0)):=by rw[cell_of_row _ _ _ _ _ _ P0.o];rfl
  have p2:w2.cell? ⟨w.heap.size,2,none⟩=some (.int .u8 (dA 0)):=by rw[cell_of_row _ _ _ _ _ _ P0.o];rfl
  have p3:w2.cell? ⟨w.heap.size,3,none⟩=some (.int .i8 (nA 1)):=by rw[cell_of_row _ _ _ _ _ _ P0.o];rfl
  have p4:w2.cell? ⟨w.heap.size,4,none⟩=some (.int .u8 (dA 1)):=by rw[cell_of_row _ _ _ _ _ _ P0.o];rfl
  have p5:w2.cell? ⟨w.heap.size,5,none⟩=some (.int .i8 (nA 2)):=by rw[cell_of_row _ _ _ _ _ _ P0.o];rfl
  have p6:w2.cell? ⟨w.heap.size,6,none⟩=some (.int .u8 (dA 2)):=by rw[cell_of_row _ _ _ _ _ _ P0.o];rfl
  have p7:w2.cell? ⟨w.heap.size,7,none⟩=some (.int .i8 (nA 3)):=by rw[cell_of_row _ _ _ _ _ _ P0.o];rfl
  have p8:w2.cell? ⟨w.heap.size,8,none⟩=some (.int .u8 (dA 3)):=by rw[cell_of_row _ _ _ _ _ _ P0.o];rfl
  have p9:w2.cell? ⟨w.heap.size,9,none⟩=some (.int .i8 (nB 0)):=by rw[cell_of_row _ _ _ _ _ _ P0.o];rfl
  have iS:w2.cell? ⟨w.heap.size,10,none⟩=some (.int .u8 (dB 0)):=by rw[cell_of_row _ _ _ _ _ _ P0.o];rfl
  have iR:w2.cell? ⟨w.heap.size,11,none⟩=some (.int .i8 (nB 1)):=by rw[cell_of_row _ _ _ _ _ _ P0.o];rfl
  have iQ:w2.cell? ⟨w.heap.size,12,none⟩=some (.int .u8 (dB 1)):=by rw[cell_of_row _ _ _ _ _ _ P0.o];rfl
  have iO:w2.cell? ⟨w.heap.size,13,none⟩=some (.int .i8 (nB 2)):=by rw[cell_of_row _ _ _ _ _ _ P0.o];rfl
  have iN:w2.cell? ⟨w.heap.size,14,none⟩=some (.int .u8 (dB 2)):=by rw[cell_of_row _ _ _ _ _ _ P0.o];rfl
  have iM:w2.cell? ⟨w.heap.size,15,none⟩=some (.int .i8 (nB 3)):=by rw[cell_of_row _ _ _ _ _ _ P0.o];rfl
  have iL:w2.cell? ⟨w.heap.size,16,none⟩=some (.int .u8 (dB 3)):=by rw[cell_of_row _ _ _ _ _ _ P0.o];rfl
  have q1:=NW.cell p1;have q2:=NW.cell p2;have q3:=NW.cell p3;have q4:=NW.cell p4;have q5:=NW.cell p5;have q6:=NW.cell p6;have q7:=NW.cell p7;have q8:=NW.cell p8;have q9:=NW.cell p9;have lu:=NW.cell iS;have lr:=NW.cell iR;have lq:=NW.cell iQ;have ln:=NW.cell iO;have lm:=NW.cell iN;have ll:=NW.cell iM;have lk:=NW.cell iL;have gn:Nonempty (NW w2):=⟨⟨w2,Below.refl _ _⟩⟩;have I:Hid (Bw_ w2 w2.drew):=(Below.refl _ _).drew;go_wp2_with fail;clear p1 p2 p3 p4 p5 p6 p7 p8 p9 iS iR iQ iO iN iM iL P0;refine wn_ 9 [(1,0),(1,1),(1,2),(1,4),(1,5),(1,6),(0,3),(0,7),(0,8),(0,9)] I ?_;iterate 6 (refine wr_ rfl ?_;go_big_quiet_step (fail);refine wq_ ?_)
  clear gn q1 q2 q3 q4 q5 q6 q7 q8 q9 lu lr lq ln lm ll lk;refine wm_ rfl ?_;go_wp2_with fail;refine cm_ (HA.o _ _ _ (B2.o.drew)) ?_;rintro e_ wa ⟨aa,ca,rfl,ra_,hb_⟩;have Wa:Hid (Bw_ w2 wa):=(Below.refl w2.heap.size w2).drew.trans hb_;have Ra:=hd_ ra_;clear hb_ ra_ HA I;go_wp2_with fail;refine⟨⟨⟨_,Wa.o⟩,rfl⟩,?_⟩;refine wm_ rfl ?_;go_wp2_with fail;refine cm_ (HB.o _ _ _ (bu_ B2 Wa.o)) ?_;rintro e_ wb ⟨ab,cb_,rfl,rb_,hb_⟩;have Wb:=bt_ Wa hb_;have Rb:=hd_ rb_;replace Ra:=hd_ (Ra.o.below hb_ nr_);clear hb_ rb_ HB Wa;have Bb:=bt_ B2 Wb.o;go_wp2_with fail;refine⟨⟨⟨_,Wb.o⟩,rfl⟩,?_⟩;replace Rp:=hd_ (Rp.o.below Wb.o nr_);refine wm_ rfl ?_;go_wp2_with fail;refine⟨⟨⟨_,Wb.o⟩,rfl⟩,?_⟩;refine wm_ rfl ?_;go_wp2_with fail;simp only[RP.walkR];clear Wb B2;go_wp2_with fail;have B:=Bb;clear Bb;refine cm_ (GK.o _ _ _ _ _ _ _ B.o Rp.o Ra.o Rb.o) ?_;rintro e_ w3 ⟨rfl,hb_⟩;replace B:=bt_ B hb_;replace Rp:=hd_ (Rp.o.below hb_ nr_);replace Ra:=hd_ (Ra.o.below hb_ nr_);replace Rb:=hd_ (Rb.o.below hb_ nr_);clear hb_ GK;go_wp2_with fail;refine cm_ (dt.o _ _ _ _ _ _ _ B.o Rp.o Ra.o Rb.o) ?_;rintro e_ w4 ⟨ao,co,rfl,ro_,hb_⟩;replace B:=bt_ B hb_;replace Rp:=hd_ (Rp.o.below hb_ nr_);replace Ra:=hd_ (Ra.o.below hb_ nr_);replace Rb:=hd_ (Rb.o.below hb_ nr_);have gK:=(Below.refl w4.heap.size w4).alloc nr_ (.cells #[.int .i64 0,.int .i64 0,.slice ao 0 co] 46);have F1:Hid ((w4.alloc (.cells #[.int .i64 0,.int .i64 0,.slice ao 0 co] 46)).heap[w4.heap.size]?=some (.cells #[.int .i64 0,.int .i64 0,.slice ao 0 co] 46 (0,0))):=heap_alloc_new w4 _;have Ro:=hd_ (ro_.below gK nr_);replace B:=bt_ B gK;replace Rp:=hd_ (Rp.o.below gK nr_);replace Ra:=hd_ (Ra.o.below gK nr_);replace Rb:=hd_ (Rb.o.below gK nr_);clear gK hb_ ro_ dt;go_wp2_with fail;generalize w4.alloc (.cells #[.int .i64 0,.int .i64 0,.slice ao 0 co] 46)=w5 at *;generalize w4.heap.size=g1 at *;refine cm_ (Ft.o _ _ _ _ _ _ _ B.o Rp.o Ra.o Rb.o) ?_;rintro e_ w6 ⟨ad,cd,rfl,rd_,hb_⟩;replace B:=bt_ B hb_;replace Rp:=hd_ (Rp.o.below hb_ nr_);replace Ra:=hd_ (Ra.o.below hb_ nr_);replace Rb:=hd_ (Rb.o.below hb_ nr_);replace Ro:=hd_ (Ro.o.below hb_ nr_);replace F1:=hk_ F1 hb_;have Rd:=hd_ rd_;clear hb_ rd_ Ft;go_wp2_with fail;refine cm_ (bV.o _ _ _ _ _ _ _ B.o Rp.o Rb.o Ra.o) ?_;rintro e_ w7 ⟨ae,ce,rfl,rd_,hb_⟩;replace B:=bt_ B hb_;replace Rp:=hd_ (Rp.o.below hb_ nr_);replace Ra:=hd_ (Ra.o.below hb_ nr_);replace Rb:=hd_ (Rb.o.below hb_ nr_);replace Ro:=hd_ (Ro.o.below hb_ nr_);replace Rd:=hd_ (Rd.o.below hb_ nr_);replace F1:=hk_ F1 hb_;have Re:=hd_ rd_;clear hb_ rd_ bV;obtain⟨x0,x1,x2,-⟩:=Kd F1.o;go_wp2_with fail;clear x0 x1 x2;refine cm_ (dZ.o _ _ _ _ _ _ _ Rp.o Rd.o) ?_;rintro e_ w8 ⟨rfl,hb_⟩;replace B:=bt_ B hb_;replace Rp:=hd_ (Rp.o.below hb_ nr_);replace Ra:=hd_ (Ra.o.below hb_ nr_);replace Rb:=hd_ (Rb.o.below hb_ nr_);replace Ro:=hd_ (Ro.o.below hb_ nr_);replace Rd:=hd_ (Rd.o.below hb_ nr_);replace Re:=hd_ (Re.o.below hb_ nr_);replace F1:=hk_ F1 hb_;clear hb_ dZ;obtain⟨x0,x1,x2,-⟩:=Kd F1.o;go_wp2_with fail;clear x0 x1 x2;refine cm_ (Ax.o _ _ _ _ _ _ _ B.o Rp.o Rd.o) ?_;rintro e_ w9 ⟨rfl,hb_⟩;replace B:=bt_ B hb_;replace Rp:=hd_ (Rp.o.below hb_ nr_);replace Ra:=hd_ (Ra.o.below hb_ nr_);replace Rb:=hd_ (Rb.o.below hb_ nr_);replace Re:=hd_ (Re.o.below hb_ nr_);replace F1:=hk_ F1 hb_;clear hb_ Ax Ro Rd;go_wp2_with fail;refine cm_ (BX.o _ _ _ _ _ Ra.o Rb.o) ?_;rintro e_ w10 ⟨rfl,hb_⟩;replace B:=bt_ B hb_;replace Rp:=hd_ (Rp.o.below hb_ nr_);replace Re:=hd_ (Re.o.below hb_ nr_);replace F1:=hk_ F1 hb_;clear hb_ BX Ra Rb;obtain⟨x0,x1,x2,-⟩:=Kd F1.o;go_wp2_with fail;refine cm_ (bd.o _ _ _ _ _ _ _ Rp.o Re.o) ?_;rintro e_ w11 ⟨rfl,hb_⟩;replace B:=bt_ B hb_;go_wp2_with fail;go_ret;exact⟨rfl,B.o⟩
 ·-- sizes that differ
  obtain⟨sg,m,TC⟩:=LD Gi CS lw sd A5 hnz;have ak : -sg=1 \/ -sg = -1:=by have:=TC.pm;omega
  have De:¬ sg=0:=by have:=TC.pm;omega
  obtain⟨BL,hBL⟩:∃ BL,Zbj m ps (Zao la lb)=BL:=⟨_,rfl⟩;have LP:BL.length<=1000000:=by rw[<- hBL];exact LQ _ _
  have bL:Zbj m ps (Zao lb la)=BL:=TC.bnd.trans hBL;have dt:Hid (∀ (W:World) (a0 a1 a2:OA_) (c0 c1 c2:Nat),Bw_ w W->Rd W a0 (Vd ps)->Rd W a1 (Kj la)->Rd W a2 (Kj lb)->Qbr 15 #[.slice a0 ps.length c0,.slice a1 ps.length c1,.slice a2 ps.length c2] W sg m BL):=fun W a0 a1 a2 c0 c1 c2 hW r0 r1 r2 =>
   Zrf W a0 a1 a2 c0 c1 c2 ps.length (Zao la lb) _ _ BL (fun V hV=>Ft.o V a0 a1 a2 c0 c1 c2 (bv_ hW hV) (r0.below hV nr_) (r1.below hV nr_) (r2.below hV nr_))
    (fun V a c hV r=>by
     unfold Qbr;refine cm_ (Znx V a0 a c0 c 30 ps (Zao la lb) (r0.below hV nr_) r hi CS Fg Dh sd (by decide) GD hnz TC.en (L.below (bv_ hW hV))) ?_;rintro e w' ⟨m',a,c,rfl,hm,hr,hb⟩;obtain rfl:m'=m:=hm.uniq TC.up TC.at_;rw[hBL] at hr ⊢;rw[TC.dec];exact⟨a,c,rfl,hr,hb⟩)
  have dZ:Hid (∀ (W:World) (a0 a1 a3:OA_) (c0 c1 c3:Nat),Rd W a0 (Vd ps)->Rd W a1 (Kj (Zao la lb))->Rd W a3 (Qu BL)->Kc Tryz.prog 18 #[.slice a0 ps.length c0,.slice a1 ps.length c1,Zfr sg m a3 BL.length c3] W (.bool true)):=fun W a0 a1 a3 c0 c1 c3 r0 r1 r3=>by
   have h:=Zhg W a0 a1 a3 c0 c1 c3 m sg ps (Zao la lb) r0 r1 Gq EY dO h6 CS sd TC.pm TC.le TC.ne (by rw[hBL];exact r3);rw[hBL,TC.res] at h;exact h
  have bd:Hid (∀ (W:World) (a0 a1 a3:OA_) (c0 c1 c3:Nat),Rd W a0 (Vd ps)->Rd W a1 (Kj (Zao la lb))->Rd W a3 (Qu BL)->Kc Tryz.prog 18 #[.slice a0 ps.length c0,.slice a1 ps.length c1,Zfr (-sg) m a3 BL.length c3] W (.bool false)):=fun W a0 a1 a3 c0 c1 c3 r0 r1 r3=>by
   have h:=Zhg W a0 a1 a3 c0 c1 c3 m (-sg) ps (Zao la lb) r0 r1 Gq EY dO h6 CS sd ak TC.le TC.ne (by rw[hBL];exact r3);rw[hBL,TC.no] at h;exact h
  have Mc:Hid (∀ (W:World) (a0 a1 a3:OA_) (c0 c1 c3:Nat),Rd W a0 (Vd ps)->Rd W a1 (Kj (Zao lb la))->Rd W a3 (Qu BL)->Kc Tryz.prog 18 #[.slice a0 ps.length c0,.slice a1 ps.length c1,Zfr (-sg) m a3 BL.length c3] W (.bool true)):=fun W a0 a1 a3 c0 c1 c3 r0 r1 r3=>by
   have h:=Zhg W a0 a1 a3 c0 c1 c3 m (-sg) ps (Zao lb la) r0 r1 Gq EY dO h6 iT A5 ak TC.le TC.ne' (by rw[bL];exact r3);rw[bL,TC.back] at h;exact h
  have Ax:Hid (∀ (W:World) (a0 a1 a3:OA_) (c0 c1 c3:Nat),Bw_ w W->Rd W a0 (Vd ps)->Rd W a1 (Kj (Zao la lb))->Rd W a3 (Qu BL)->Kc Tryz.prog 47 #[.slice a0 ps.length c0,.slice a1 ps.length c1,Zfr sg m a3 BL.length c3] W (.int .i64 0)):=fun W a0 a1 a3 c0 c1 c3 hW r0 r1 r3=>by
   exact Zut W a0 a1 a3 c0 c1 c3 30 m ps (Zao la lb) sg BL r0 r1 r3 LP hi CS Fg Dh sd (by decide) GD hnz (Nat.le_trans TC.le (by decide)) De hBL.symm TC.dec (L.below hW)
  have NQ:Hid (∀ (W:World) (a0 a1 a3:OA_) (c0 c1 c3:Nat),Bw_ w W->Rd W a0 (Vd ps)->Rd W a1 (Kj (Zao lb la))->Rd W a3 (Qu BL)->Kc Tryz.prog 47 #[.slice a0 ps.length c0,.slice a1 ps.length c1,Zfr (-sg) m a3 BL.length c3] W (.int .i64 0)):=fun W a0 a1 a3 c0 c1 c3 hW r0 r1 r3=>by
   exact Zut W a0 a1 a3 c0 c1 c3 30 m ps (Zao lb la) (-sg) BL r0 r1 r3 LP hi iT Fg Dh A5 (by decide) GD TC.any' (Nat.le_trans TC.le (by decide)) (by omega) bL.symm TC.decb (L.below hW)
  rw[TC.sz] at GK;have lN:(sg==0)=false:=by rw[beq_eq_false_iff_ne];have:=TC.pm;omega
  have o7 : -1<=sg/\sg<=1:=by have:=TC.pm;omega
  clear TC hBL bL LP ak LD CT EY h6 Dh LQ hnz Gi CS iT sd A5 Jq LT lw ma mb sa sb bh Bk GI Gq Gv GD Gl hp4 Fg dO hi lR L E7 hpn hnA hdA hnB hdB;unfold Qbr Zfr at dt;unfold Zfr at dZ bd Mc Ax NQ;generalize Zao la lb=ld at *;generalize Zao lb la=ld' at *;generalize Qu BL=cb at *;generalize BL.length=bn at *;generalize ps.length=n at *;unfold Zv5;have B0:=hd_ ((Below.refl w.heap.size w).alloc nr_ (.cells #[.int .u8 pn,.int .i8 (nA 0),.int .u8 (dA 0),.int .i8 (nA 1),.int .u8 (dA 1),.int .i8 (nA 2),.int .u8 (dA 2),.int .i8 (nA 3),.int .u8 (dA 3),.int .i8 (nB 0),.int .u8 (dB 0),.int .i8 (nB 1),.int .u8 (dB 1),.int .i8 (nB 2),.int .u8 (dB 2),.int .i8 (nB 3),.int .u8 (dB 3)] 28));have P0:Hid ((w.alloc (.cells #[.int .u8 pn,.int .i8 (nA 0),.int .u8 (dA 0),.int .i8 (nA 1),.int .u8 (dA 1),.int .i8 (nA 2),.int .u8 (dA 2),.int .i8 (nA 3),.int .u8 (dA 3),.int .i8 (nB 0),.int .u8 (dB 0),.int .i8 (nB 1),.int .u8 (dB 1),.int .i8 (nB 2),.int .u8 (dB 2),.int .i8 (nB 3),.int .u8 (dB 3)] 28)).heap[w.heap.size]?=some (.cells #[.int .u8 pn,.int .i8 (nA 0),.int .u8 (dA 0),.int .i8 (nA 1),.int .u8 (dA 1),.int .i8 (nA 2),.int .u8 (dA 2),.int .i8 (nA 3),.int .u8 (dA 3),.int .i8 (nB 0),.int .u8 (dB 0),.int .i8 (nB 1),.int .u8 (dB 1),.int .i8 (nB 2),.int .u8 (dB 2),.int .i8 (nB 3),.int .u8 (dB 3)] 28 (0,0))):=heap_alloc_new w _;go_enter Tryz.func8,Tryz.ntmps8;go_wp2_with fail;generalize w.alloc (.cells #[.int .u8 pn,.int .i8 (nA 0),.int .u8 (dA 0),.int .i8 (nA 1),.int .u8 (dA 1),.int .i8 (nA 2),.int .u8 (dA 2),.int .i8 (nA 3),.int .u8 (dA 3),.int .i8 (nB 0),.int .u8 (dB 0),.int .i8 (nB 1),.int .u8 (dB 1),.int .i8 (nB 2),.int .u8 (dB 2),.int .i8 (nB 3),.int .u8 (dB 3)] 28)=w0 at *;refine cm_ (HK.o _ B0.o) ?_;rintro e_ w1 ⟨rfl,hb_⟩;have B1:=bt_ B0 hb_;replace P0:=hk_ P0 hb_;clear hb_ B0 HK;have p0:w1.cell? ⟨w.heap.size,0,none⟩=some (.int .u8 pn):=by rw[cell_of_row _ _ _ _ _ _ P0.o];rfl
  go_wp2_with fail;clear p0;refine cm_ (Cl.o _) ?_;rintro e_ w2 ⟨gp,rfl,rp_,hb_⟩;have B2:=bt_ B1 hb_;replace P0:=hk_ P0 hb_;have Rp:=hd_ rp_;clear hb_ rp_ Cl B1;have p1:w2.cell? ⟨w.heap.size,1,none⟩=some (.int .i8 (nA 0)):=by rw[cell_of_row _ _ _ _ _ _ P0.o];rfl
  have p2:w2.cell? ⟨w.heap.size,2,none⟩=some (.int .u8 (dA 0)):=by rw[cell_of_row _ _ _ _ _ _ P0.o];rfl
  have p3:w2.cell? ⟨w.heap.size,3,none⟩=some (.int .i8 (nA 1)):=by rw[cell_of_row _ _ _ _ _ _ P0.o];rfl
  have p4:w2.cell? ⟨w.heap.size,4,none⟩=some (.int .u8 (dA 1)):=by rw[cell_of_row _ _ _ _ _ _ P0.o];rfl
  have p5:w2.cell? ⟨w.heap.size,5,none⟩=some (.int .i8 (nA 2)):=by rw[cell_of_row _ _ _ _ _ _ P0.o];rfl
  have p6:w2.cell? ⟨w.heap.size,6,none⟩=some (.int .u8 (dA 2)):=by rw[cell_of_row _ _ _ _ _ _ P0.o];rfl
  have p7:w2.cell? ⟨w.heap.size,7,none⟩=some (.int .i8 (nA 3)):=by rw[cell_of_row _ _ _ _ _ _ P0.o];rfl
  have p8:w2.cell? ⟨w.heap.size,8,none⟩=some (.int .u8 (dA 3)):=by rw[cell_of_row _ _ _ _ _ _ P0.o];rfl
  have p9:w2.cell? ⟨w.heap.size,9,none⟩=some (.int .i8 (nB 0)):=by rw[cell_of_row _ _ _ _ _ _ P0.o];rfl
  have iS:w2.cell? ⟨w.heap.size,10,none⟩=some (.int .u8 (dB 0)):=by rw[cell_of_row _ _ _ _ _ _ P0.o];rfl
  have iR:w2.cell? ⟨w.heap.size,11,none⟩=some (.int .i8 (nB 1)):=by rw[cell_of_row _ _ _ _ _ _ P0.o];rfl
  have iQ:w2.cell? ⟨w.heap.size,12,none⟩=some (.int .u8 (dB 1)):=by rw[cell_of_row _ _ _ _ _ _ P0.o];rfl
  have iO:w2.cell? ⟨w.heap.size,13,none⟩=some (.int .i8 (nB 2)):=by rw[cell_of_row _ _ _ _ _ _ P0.o];rfl
  have iN:w2.cell? ⟨w.heap.size,14,none⟩=some (.int .u8 (dB 2)):=by rw[cell_of_row _ _ _ _ _ _ P0.o];rfl
  have iM:w2.cell? ⟨w.heap.size,15,none⟩=some (.int .i8 (nB 3)):=by rw[cell_of_row _ _ _ _ _ _ P0.o];rfl
  have iL:w2.cell? ⟨w.heap.size,16,none⟩=some (.int .u8 (dB 3)):=by rw[cell_of_row _ _ _ _ _ _ P0.o];rfl
  have q1:=NW.cell p1;have q2:=NW.cell p2;have q3:=NW.cell p3;have q4:=NW.cell p4;have q5:=NW.cell p5;have q6:=NW.cell p6;have q7:=NW.cell p7;have q8:=NW.cell p8;have q9:=NW.cell p9;have lu:=NW.cell iS;have lr:=NW.cell iR;have lq:=NW.cell iQ;have ln:=NW.cell iO;have lm:=NW.cell iN;have ll:=NW.cell iM;have lk:=NW.cell iL;have gn:Nonempty (NW w2):=⟨⟨w2,Below.refl _ _⟩⟩;have I:Hid (Bw_ w2 w2.drew):=(Below.refl _ _).drew;go_wp2_with fail;clear p1 p2 p3 p4 p5 p6 p7 p8 p9 iS iR iQ iO iN iM iL P0;refine wn_ 9 [(1,0),(1,1),(1,2),(1,4),(1,5),(1,6),(0,3),(0,7),(0,8),(0,9)] I ?_;iterate 6 (refine wr_ rfl ?_;go_big_quiet_step (fail);refine wq_ ?_)
  clear gn q1 q2 q3 q4 q5 q6 q7 q8 q9 lu lr lq ln lm ll lk;refine wm_ rfl ?_;go_wp2_with fail;refine cm_ (HA.o _ _ _ (B2.o.drew)) ?_;rintro e_ wa ⟨aa,ca,rfl,ra_,hb_⟩;have Wa:Hid (Bw_ w2 wa):=(Below.refl w2.heap.size w2).drew.trans hb_;have Ra:=hd_ ra_;clear hb_ ra_ HA I;go_wp2_with fail;refine⟨⟨⟨_,Wa.o⟩,rfl⟩,?_⟩;refine wm_ rfl ?_;go_wp2_with fail;refine cm_ (HB.o _ _ _ (bu_ B2 Wa.o)) ?_;rintro e_ wb ⟨ab,cb_,rfl,rb_,hb_⟩;have Wb:=bt_ Wa hb_;have Rb:=hd_ rb_;replace Ra:=hd_ (Ra.o.below hb_ nr_);clear hb_ rb_ HB Wa;have Bb:=bt_ B2 Wb.o;go_wp2_with fail;refine⟨⟨⟨_,Wb.o⟩,rfl⟩,?_⟩;replace Rp:=hd_ (Rp.o.below Wb.o nr_);refine wm_ rfl ?_;go_wp2_with fail;refine⟨⟨⟨_,Wb.o⟩,rfl⟩,?_⟩;refine wm_ rfl ?_;go_wp2_with fail;simp only[RP.walkR];clear Wb B2;go_wp2_with fail;have B:=Bb;clear Bb;refine cm_ (GK.o _ _ _ _ _ _ _ B.o Rp.o Ra.o Rb.o) ?_;rintro e_ w3 ⟨rfl,hb_⟩;replace B:=bt_ B hb_;replace Rp:=hd_ (Rp.o.below hb_ nr_);replace Ra:=hd_ (Ra.o.below hb_ nr_);replace Rb:=hd_ (Rb.o.below hb_ nr_);clear hb_ GK;go_wp2_with fail;refine cm_ (dt.o _ _ _ _ _ _ _ B.o Rp.o Ra.o Rb.o) ?_;rintro e_ w4 ⟨ao,co,rfl,ro_,hb_⟩;replace B:=bt_ B hb_;replace Rp:=hd_ (Rp.o.below hb_ nr_);replace Ra:=hd_ (Ra.o.below hb_ nr_);replace Rb:=hd_ (Rb.o.below hb_ nr_);have gK:=(Below.refl w4.heap.size w4).alloc nr_ (.cells #[.int .i64 sg,.int .i64 m,.slice ao bn co] 46);have F1:Hid ((w4.alloc (.cells #[.int .i64 sg,.int .i64 m,.slice ao bn co] 46)).heap[w4.heap.size]?=some (.cells #[.int .i64 sg,.int .i64 m,.slice ao bn co] 46 (0,0))):=heap_alloc_new w4 _;have Ro:=hd_ (ro_.below gK nr_);replace B:=bt_ B gK;replace Rp:=hd_ (Rp.o.below gK nr_);replace Ra:=hd_ (Ra.o.below gK nr_);replace Rb:=hd_ (Rb.o.below gK nr_);clear gK hb_ ro_ dt;go_wp2_with fail;generalize w4.alloc (.cells #[.int .i64 sg,.int .i64 m,.slice ao bn co] 46)=w5 at *;generalize w4.heap.size=g1 at *;refine cm_ (Ft.o _ _ _ _ _ _ _ B.o Rp.o Ra.o Rb.o) ?_;rintro e_ w6 ⟨ad,cd,rfl,rd_,hb_⟩;replace B:=bt_ B hb_;replace Rp:=hd_ (Rp.o.below hb_ nr_);replace Ra:=hd_ (Ra.o.below hb_ nr_);replace Rb:=hd_ (Rb.o.below hb_ nr_);replace Ro:=hd_ (Ro.o.below hb_ nr_);replace F1:=hk_ F1 hb_;have Rd:=hd_ rd_;clear hb_ rd_ Ft;go_wp2_with fail;refine cm_ (bV.o _ _ _ _ _ _ _ B.o Rp.o Rb.o Ra.o) ?_;rintro e_ w7 ⟨ae,ce,rfl,rd_,hb_⟩;replace B:=bt_ B hb_;replace Rp:=hd_ (Rp.o.below hb_ nr_);replace Ra:=hd_ (Ra.o.below hb_ nr_);replace Rb:=hd_ (Rb.o.below hb_ nr_);replace Ro:=hd_ (Ro.o.below hb_ nr_);replace Rd:=hd_ (Rd.o.below hb_ nr_);replace F1:=hk_ F1 hb_;have Re:=hd_ rd_;clear hb_ rd_ bV;obtain⟨x0,x1,x2,-⟩:=Kd F1.o;go_wp2_with fail;clear x0 x1 x2;refine cm_ (dZ.o _ _ _ _ _ _ _ Rp.o Rd.o Ro.o) ?_;rintro e_ w8 ⟨rfl,hb_⟩;replace B:=bt_ B hb_;replace Rp:=hd_ (Rp.o.below hb_ nr_);replace Ro:=hd_ (Ro.o.below hb_ nr_);replace Rd:=hd_ (Rd.o.below hb_ nr_);replace Re:=hd_ (Re.o.below hb_ nr_);replace F1:=hk_ F1 hb_;clear hb_ dZ;obtain⟨x0,x1,x2,-⟩:=Kd F1.o;go_wp2_with fail;clear x0 x1 x2;refine cm_ (Ax.o _ _ _ _ _ _ _ B.o Rp.o Rd.o Ro.o) ?_;rintro e_ w9 ⟨rfl,hb_⟩;replace B:=bt_ B hb_;replace Rp:=hd_ (Rp.o.below hb_ nr_);replace Ro:=hd_ (Ro.o.below hb_ nr_);replace Rd:=hd_ (Rd.o.below hb_ nr_);replace Re:=hd_ (Re.o.below hb_ nr_);replace F1:=hk_ F1 hb_;clear hb_ Ax;obtain⟨x0,x1,x2,-⟩:=Kd F1.o
  go_upto_region 14 with fail
  clear x0 x1 x2;have gK:=(Below.refl w9.heap.size w9).alloc nr_ (.cells #[.int .i64 sg,.int .i64 m,.slice ao bn co] 46);have F2:Hid ((w9.alloc (.cells #[.int .i64 sg,.int .i64 m,.slice ao bn co] 46)).heap[w9.heap.size]?=some (.cells #[.int .i64 sg,.int .i64 m,.slice ao bn co] 46 (0,0))):=heap_alloc_new w9 _;obtain⟨x0,x1,x2,f_⟩:=Kd F2.o;have EU:=f_ 0;obtain⟨y0,y1,y2,-⟩:=Kd (hj_ F1 gK);have ed:=(Below.refl w9.heap.size w9).alloc nr_ (.cells #[.int .i64 (-sg),.int .i64 m,.slice ao bn co] 46);have F3:Hid ((w9.alloc (.cells #[.int .i64 (-sg),.int .i64 m,.slice ao bn co] 46)).heap[w9.heap.size]?=some (.cells #[.int .i64 (-sg),.int .i64 m,.slice ao bn co] 46 (0,0))):=heap_alloc_new w9 _;replace B:=bt_ B ed;replace Rp:=hd_ (Rp.o.below ed nr_);replace Ro:=hd_ (Ro.o.below ed nr_);replace Rd:=hd_ (Rd.o.below ed nr_);replace Re:=hd_ (Re.o.below ed nr_);obtain⟨z0,z1,z2,-⟩:=Kd F3.o;clear gK ed F1 F2;go_wp2_with fail;clear x0 x1 x2 y0 y1 y2 z0 z1 z2;generalize w9.alloc (.cells #[.int .i64 (-sg),.int .i64 m,.slice ao bn co] 46)=w10 at *;generalize w9.heap.size=g2 at *;refine cm_ (bd.o _ _ _ _ _ _ _ Rp.o Rd.o Ro.o) ?_;rintro e_ w11 ⟨rfl,hb_⟩;replace B:=bt_ B hb_;replace Rp:=hd_ (Rp.o.below hb_ nr_);replace Ro:=hd_ (Ro.o.below hb_ nr_);replace Re:=hd_ (Re.o.below hb_ nr_);replace F3:=hk_ F3 hb_;clear hb_ bd Rd;obtain⟨x0,x1,x2,-⟩:=Kd F3.o;go_wp2_with fail;clear x0 x1 x2;refine cm_ (Mc.o _ _ _ _ _ _ _ Rp.o Re.o Ro.o) ?_;rintro e_ w12 ⟨rfl,hb_⟩;replace B:=bt_ B hb_;replace Rp:=hd_ (Rp.o.below hb_ nr_);replace Ro:=hd_ (Ro.o.below hb_ nr_);replace Re:=hd_ (Re.o.below hb_ nr_);replace F3:=hk_ F3 hb_;clear hb_ Mc;obtain⟨x0,x1,x2,-⟩:=Kd F3.o;go_wp2_with fail;clear x0 x1 x2;refine cm_ (NQ.o _ _ _ _ _ _ _ B.o Rp.o Re.o Ro.o) ?_;rintro e_ w13 ⟨rfl,hb_⟩;replace B:=bt_ B hb_;go_wp2_with fail;go_ret;exact⟨rfl,B.o⟩
end Go.Proofs.YtbielfplgbammaaGreatDoor

namespace Go.Proofs.YtbielfplgbammaaGreatDoor
open Go.ChangeShapes Go.WideShapes Go.ChangeAt Go.RowKit
theorem Zat(os:Os)(started:os.Started)(H:Type)(enc:TypeId×Value->H):
  ReturnsInHanded {} Tryz.checked os 8 .any (fun w args=>(Rows.topComparisonsAreRealSpec.pre enc Tryz.prog Tryz.f8 [] false w args/\laidMetH Tryz.prog Zwz w)/\sizedMet enc Tryz.prog Tryz.f8 (OpenSpec.ofChange Rows.topComparisonsAreRealSpec) false w args)
   (Rows.topComparisonsAreRealSpec.post enc Tryz.prog Tryz.f8 false true false false):=by
 refine returnsInHanded_of_change_and (C:=Tryz.checked) (X:=fun w _=>laidMetH Tryz.prog Zwz w) (fun _ _ _ hh h=>h.of_heap hh) own started (by kernel_rfl) Tryz.func8
  (ChangeSpec.witness_shaped (enc:=enc) (C:=Tryz.checked) (os:=os) (X:=fun w _=>laidMetH Tryz.prog Zwz w) false (World.doorLaid Tryz.prog 400 os) #[.agg #[.int .u8 0,.int .i8 0,.int .u8 0,.int .i8 0,.int .u8 0,.int .i8 0,.int .u8 0,.int .i8 0,.int .u8 0,.int .i8 0,.int .u8 0,.int .i8 0,.int .u8 0,.int .i8 0,.int .u8 0,.int .i8 0,.int .u8 0]] 8 rfl (World.shaped_of_RefB (by kernel_rfl) (by kernel_rfl)) (by kernel_rfl) (by kernel_rfl) (by kernel_rfl) (Qav os _)) ?_
 intro W base args ds gs before hval0 hW _ _ hL _;have gQ:∀ (j:Nat) t v,Tryz.f8.params[j]?=some t->args[j]?=some v->Value.okWide Tryz.prog W .any base t v:=hval0;have JF:=hW;obtain⟨p,q,hA0,hV,rfl,hfz,ar⟩:=hW;have hA:DataW.TrodAll enc Tryz.prog W 0 (fun _=>true) true Tryz.f8.params.toList args.toList ds p:=hA0;rw[Tryz.params8] at hA gQ;obtain⟨v0,vs0,d0,ds0,p0,q0,hargs,rfl,rfl,h0,r0⟩:=trodAll_cons hA;obtain⟨rfl,rfl,rfl⟩:=trodAll_nil r0;obtain rfl:args = #[v0]:=by cases args;simp_all
 obtain⟨rfl,rfl⟩:=trodVars_none hV;have k0:=h0;have oH:∀ x∈p0,x.block<W.heap.size:=by obtain⟨m,hm⟩:=k0;exact DataW.trod_lt m _ _ _ hm
 obtain⟨pn,nA,dA,nB,dB,rfl,hpn,hnA,hdA,hnB,hdB⟩:=Zwb (gQ 0 28 v0 rfl rfl) h0;clear hA0 hval0;refine(Qfx W pn nA dA nB dB hpn hnA hdA hnB hdB (Qds hL)).mono fun e W' ⟨he,bel⟩=>?_
 subst he;exact⟨_,rfl,_,_,_,[],_,[],JF,trodAll_mk1 (shut_bool Tryz.underlying4 _),(trodAll_cons_mk (Below.trod Qdt (by kernel_rfl) (of_decide_eq_true (by kernel_rfl)) k0 bel oH) trodAll_mk0),rfl,bel.frame _,fun h=>by cases h⟩
theorem Zby:Rows.TopComparisonsAreRealSaid :=
 OpenClaim.holds_of_wide 8 Tryz.f8 rfl rfl rfl rfl rfl rfl rfl ⟨rfl,rfl,rfl,rfl,rfl⟩ rfl rfl rfl rfl rfl (by as_aux_lemma=>kernel_rfl) Tryz.func8 (by
   unfold joinedFacts;simp only[Bool.and_eq_true]
   repeat' (refine And.intro ?_ ?_)
   all_goals (as_aux_lemma=>kernel_rfl))
  (by as_aux_lemma=>exact of_decide_eq_true (by kernel_rfl)) (by unfold Func.isWrapper;first | (rw[if_pos (by decide +kernel)];kernel_rfl) | (rw[if_neg (by decide +kernel)];exact⟨rfl,rfl⟩))
  (fun os started H enc _=>Zat os started H enc)
end Go.Proofs.YtbielfplgbammaaGreatDoor
