/- Lemmas for the laws of this seat, part 5. -/
import Derived.StillTail
import Derived.Lib.QuietBelow
import Derived.BigQuiet
import Derived.Deep.MidRow
import Derived.Test.YtbielfplgbammaaGreatDoorCards
import Derived.Test.YtbielfplgbammaaGreatDoorTie
import Derived.SevenTiedAt
import Derived.Test.YtbielfplgbammaaGreatDoorWl4
set_option maxRecDepth 100000
set_option maxHeartbeats 16000000
namespace Go.Proofs.YtbielfplgbammaaGreatDoor
open Go.RowKit Go.Shelf
attribute [local go_sem] Oper.semAt_some
structure OfI (X w2:World) (n m:Nat) (D:List (List Rat)) (T F:Nat→Nat) (k:Nat):Prop where
 row:Zdk X w2.heap.size 5 (Zml T F m k)
 b7:X.heap[w2.heap.size+1]?=some (.cells #[.slice (some ⟨w2.heap.size,0,none⟩) m m] 81 (0,0))
 b8:X.heap[w2.heap.size+1+1]?=some (.cells #[.int .i64 (if k=0 then -1 else (lvB (fun j=>T (F j)) m k:Nat))] 3 (0,0))
 b9:∃ al nl cl,X.heap[w2.heap.size+1+1+1]?=some (.cells #[.slice al nl cl] 35 (0,0))∧(0<k→nl=n∧Rd w2 al (Kg (D.getD (F (m-1-(k-1))) [])))
 bel:Below w2.heap.size w2 X
theorem OfI.kept{X Y w2:World}{n m:Nat}{D:List (List Rat)}{T F:Nat→Nat}{k r:Nat}(h:OfI X w2 n m D T F k)(hg:X.grownBy Y (some r))(hr:w2.heap.size+4≤r):OfI Y w2 n m D T F k:=by
 have keep:∀ (g:Nat) (o:Obj),X.heap[g]?=some o→g<w2.heap.size+4→Y.heap[g]?=some o:=fun g o h1 h2=>(hg.block g (Array.getElem?_eq_some_iff.1 h1).1 (fun e=>by have:=Option.some.inj e;omega)).trans h1
 obtain⟨al,nl,cl,h1,h2⟩:=h.b9;refine⟨?_,keep _ _ h.b7 (by omega),keep _ _ h.b8 (by omega),⟨al,nl,cl,keep _ _ h1 (by omega),h2⟩,h.bel.trans ⟨hg.os,hg.tape,hg.output,hg.size,fun i hi=>hg.block i (by have:=h.bel.size;omega) (fun e=>by have:=Option.some.inj e;omega)⟩⟩
 have hrow:=h.row;unfold Zdk World.rowIs at hrow ⊢;obtain⟨c,q1,q2,q3⟩:=hrow;exact⟨c,keep _ _ q1 (by omega),q2,q3⟩
theorem OfI.below{X Y w2:World}{n m:Nat}{D:List (List Rat)}{T F:Nat→Nat}{k:Nat}(h:OfI X w2 n m D T F k)(hb:Below X.heap.size X Y):OfI Y w2 n m D T F k:=by
 obtain⟨al,nl,cl,h1,h2⟩:=h.b9;refine⟨?_,Kd h.b7 hb nr_,Kd h.b8 hb nr_,⟨al,nl,cl,Kd h1 hb nr_,h2⟩,h.bel.trans (hb.mono h.bel.size)⟩;have hrow:=h.row;unfold Zdk World.rowIs at hrow ⊢;obtain⟨c,q1,q2,q3⟩:=hrow;exact⟨c,Kd q1 hb nr_,q2,q3⟩
theorem Zjx{X Y Z w2:World}{n m E:Nat}{D:List (List Rat)}{T F:Nat→Nat}{k lv:Nat}(H:OfI X w2 n m D T F k)(hXY:Below X.heap.size X Y)(_hk:k<m)(hE:E=w2.heap.size+5)(hX:E+1<X.heap.size)
  (h1:lv=lvB (fun j=>T (F j)) m (k+1)) (h2:lv=gtN T m (T (F (m-1-k)))) (zs:Y.heap.size≤Z.heap.size) (zos:Z.os=Y.os∧Z.tape=Y.tape∧Z.output=Y.output)
  (z8:Z.heap[w2.heap.size+1+1]?=some (.cells #[.int .i64 (lv:Nat)] 3 (0,0))) (z9:∃ al cl,Z.heap[w2.heap.size+1+1+1]?=some (.cells #[.slice al n cl] 35 (0,0))∧Rd w2 al (Kg (D.getD (F (m-1-k)) [])))
  (zo:∀ i,i≠w2.heap.size+1+1→i≠w2.heap.size+1+1+1→Z.heap[i]?=Y.heap[i]?) :
  OfI (Z.setCell ⟨w2.heap.size,F (m-1-k),none⟩ (.int .u8 ((97+lv:Nat):Int))) w2 n m D T F (k+1)∧KpB w2.heap.size [E,E+1,w2.heap.size+1+1+1+1] X (Z.setCell ⟨w2.heap.size,F (m-1-k),none⟩ (.int .u8 ((97+lv:Nat):Int))):=by
 have HY:=H.below hXY;have hoth:∀ i,i≠w2.heap.size→(Z.setCell ⟨w2.heap.size,F (m-1-k),none⟩ (.int .u8 ((97+lv:Nat):Int))).heap[i]?=Z.heap[i]?:=fun i hi=>Below.heap_setCell _ _ _ i hi
 obtain⟨al,cl,q9,r9⟩:=z9;have hbz:Below w2.heap.size Y Z:=⟨zos.1,zos.2.1,zos.2.2,zs,fun i hi=>zo i (by omega) (by omega)⟩
 have hbv:Below w2.heap.size Y (Z.setCell ⟨w2.heap.size,F (m-1-k),none⟩ (.int .u8 ((97+lv:Nat):Int))):=hbz.setCell (p:=⟨w2.heap.size,F (m-1-k),none⟩) nr_ _;have hrow:Zdk Z w2.heap.size 5 (Zml T F m k):=by
  have hr:=HY.row;unfold Zdk World.rowIs at hr ⊢;obtain⟨c,q1,q2,q3⟩:=hr;exact⟨c,(zo _ (by omega) (by omega)).trans q1,q2,q3⟩
 have h25:=Zw8 T m (T (F (m-1-k)));have hset:=hrow.set (F (m-1-k)) (97+lv) (by omega)
 rw[h2,← Zsn] at hset;refine⟨⟨by rw[h2];exact hset,(hoth _ (by omega)).trans ((zo _ (by omega) (by omega)).trans HY.b7),?_,⟨al,n,cl,(hoth _ (by omega)).trans q9,fun _=>⟨rfl,by rw[Nat.add_sub_cancel];exact r9⟩⟩,HY.bel.trans hbv⟩,?_⟩
 ·rw[if_neg (by omega),← h1]
  exact(hoth _ (by omega)).trans z8
 ·refine⟨(hXY.mono H.bel.size).trans hbv,fun i hi=>?_⟩
  have hc:w2.heap.size+4≤i∧i<X.heap.size:=by
   simp only[List.mem_cons,List.not_mem_nil,or_false] at hi;omega
  exact(hoth i (by omega)).trans ((zo i (by omega) (by omega)).trans (hXY.block i hc.2))
structure Zfz (p:Addr) (v:Value) (q:Addr) (u:Value) where
 w:World
 h1:w.cell? p=some v
 h2:w.cell? q=some u
def Zx0 (a0 al ao:Option Addr) (c0 cl co n m d1 b s4 g bs os E:Nat) (q y:Int):Act :=
 { tmps := #[.agg #[.slice a0 n c0,.slice al m cl],.pointer (some ⟨b,0,none⟩),.pointer (some ⟨b+1,0,none⟩),.pointer (some ⟨b+1+1,0,none⟩),.pointer (some ⟨s4,0,none⟩),.int .i64 0,.slice ao m co,.pointer (some ⟨g+1,0,none⟩),.pointer (some ⟨g+1+1,0,none⟩),.pointer (some ⟨g+1+1+1,0,none⟩),undef,.int .i64 y,
   .tuple #[.slice (some ⟨bs,os,none⟩) m d1,.int .i64 0],.agg #[.slice a0 n c0,.slice al m cl],.tuple #[.slice (some ⟨bs,os,none⟩) m d1,.int .i64 0],.slice (some ⟨bs,os,none⟩) m d1,.int .i64 0,.int .i64 0,.bool false,undef,.tuple #[.slice ao m co,.int .i64 0],.pointer (some ⟨b,0,none⟩),.slice a0 n c0,.slice (some ⟨bs,os,none⟩) m d1,
   .tuple #[.slice ao m co,.int .i64 0],.slice ao m co,.int .i64 0,.int .i64 0,.bool false,undef,.slice (some ⟨bs,os,none⟩) m d1,.int .i64 m,.slice (some ⟨g,0,none⟩) m m,.slice ao m co,.func (.func 169) #[] #[.pointer (some ⟨E,0,none⟩)],.int .i64 q,.int .i64 y,undef,undef,undef,undef,undef,undef,undef,undef,undef,undef,undef,undef,undef,undef,undef,undef,undef,undef,undef,undef,undef,undef,undef,undef,undef,undef,undef],defers:=[] }
theorem Zrm(w:World)(ps:List Int)(N M:Nat)(D:List (List Rat))(a0 al:Option Addr)(c0 cl:Nat)(T:Nat→Nat)(O:Zaa ps N M D)(A:Zdg w ps a0 al D)(K:Zrf ps D T)(L:Qx w):
  Calls Tryz.prog 27 #[.agg #[.slice a0 ps.length c0,.slice al D.length cl]] w fun e w'=>e = .returned (.tuple #[.string ⟨(Zn8 T D.length).toArray⟩,.int .i64 0])∧Below w.heap.size w w':=by
 have HS:Hid (∀ W,Below w.heap.size w W→Calls Tryz.prog 84 #[.agg #[.slice a0 ps.length c0,.slice al D.length cl]] W fun e w'=>∃ b d,e = .returned (.tuple #[.slice b D.length d,.int .i64 0])∧RdL w' b (D.map (List.map qs))∧Below W.heap.size W w'):=fun W hW =>
  Zmy W ps N M D a0 al c0 cl O (A.below hW nr_) (L.below hW)
 have HSo:Hid (∀ W b d,Below w.heap.size w W→RdL W b (D.map (List.map qs))→Calls Tryz.prog 85 #[.slice a0 ps.length c0,.slice b D.length d] W fun e w'=>∃ a c F,e = .returned (.tuple #[.slice a D.length c,.int .i64 0])∧Zpl (cS ps D) D.length F∧Rd w' a (Qw ((List.range D.length).map fun (k:Nat)=>((F k:Nat):Int)))∧Below W.heap.size W w'):=fun W b d hW hr =>
  Zy3 W ps a0 b c0 d D (A.rp.below hW nr_) hr O.sort (by have:=O.m14;omega) (L.below hW)
 have hlen:=O.len;have hm1:=O.m1;have hm14:=O.m14;have hn4:=O.n4;have hn0:0<ps.length:=(Zbm O.p0).1;have hpre:=Qao O.sort;have Hmono:Hid (∀ F,Zpl (cS ps D) D.length F→∀ k,k+1<D.length→T (F k)≤T (F (k+1))):=fun F hF k hk=>K.mono hF hk
 have Honto:Hid (∀ F,Zpl (cS ps D) D.length F→∀ u,u<D.length→∃ k,k<D.length∧F k=u):=fun F hF u hu=>hF.onto hpre hu
 have Hb:Hid (∀ i,i<D.length→T i<26):=K.b;have Heq:Hid (∀ u v,u<D.length→v<D.length→(D.getD u []=D.getD v []↔T u=T v)):=K.eq;have Hcells:Hid (∀ W b,RdL W b (D.map (List.map qs))→∃ bs os,b=some ⟨bs,os,none⟩∧bs<W.heap.size∧∀ i,i<D.length→∃ a' c',W.cell? ⟨bs,os+i,none⟩=some (.slice a' ps.length c')∧Rd W a' (Kg (D.getD i []))):=fun W b h=>Zk9 h hlen hm1
 have HEq:Hid (∀ W a1 a2 c1 c2 u v,u<D.length→v<D.length→Rd W a1 (Kg (D.getD u []))→Rd W a2 (Kg (D.getD v []))→Kc Tryz.prog 41 #[.slice a1 ps.length c1,.slice a2 ps.length c2] W (.bool (decide (T u=T v)))):=fun W a1 a2 c1 c2 u v hu hv h1 h2=>by
  have l1:=hlen _ (Kl hu);have l2:=hlen _ (Kl hv);have:=Zd5 W a1 a2 c1 c2 ((D.getD u []).map qs) ((D.getD v []).map qs) h1 h2 (by rw[List.length_map];omega)
  rw[List.length_map,List.length_map,l1,l2] at this;have e:decide ((D.getD u []).map qs=(D.getD v []).map qs)=decide (T u=T v):=by
   rw[decide_eq_decide,← K.eq u v hu hv];exact List.map_inj_right fun a b h=>by
    have h1:=congrArg Prod.fst h;have h2:=congrArg Prod.snd h;exact Zwx h
  rw[e] at this;exact this
 clear O A K L hlen hpre;generalize cS ps D=cs at *
 obtain⟨m,hm⟩:∃ m,D.length=m:=⟨_,rfl⟩;obtain⟨n,hnn⟩:∃ n,ps.length=n:=⟨_,rfl⟩;simp only[hm,hnn] at HS HSo Hmono Honto Hb Heq Hcells HEq hm1 hm14 hn0 hn4 ⊢;clear hm hnn;refine(callsIn_wide (n:=3)).1 ?_;refine callsIn_of_wp_marks Tryz.func27 rfl trivial ?_ rfl;simp only[Tryz.ntmps27,List.size_toArray,List.length_cons,List.length_nil,Nat.reduceAdd,Nat.reduceSub,Array.replicate_succ,Array.replicate_zero,List.push_toArray,List.append_toArray,List.nil_append,List.cons_append];obtain⟨w0,hw0⟩:∃ w0,(((w.alloc (.cells #[.slice a0 n c0,.slice al m cl] 62)).alloc (.cells #[.string ⟨#[]⟩] 9)).alloc (.cells #[.int .i64 0] 39))=w0:=⟨_,rfl⟩;obtain⟨P1,P2,P3,b0,hs0⟩:=Zs5 w _ _ _ _ _ _ w0 hw0;obtain⟨k0,k1,-,-⟩:=Ka P1;have H1:=hd_ P1;have H2:=hd_ P2;have H3:=hd_ P3;have B0:=hd_ b0;have Hs0:=hd_ hs0;clear P1 P2 P3 b0 hs0
 gi_wp2_with fail
 clear hw0 k0 k1;refine⟨trivial,?_⟩;refine(callsIn_wide.2 (HS.out _ B0.out)).mono ?_;rintro e w1 ⟨b1,d1,rfl,hr1,hb⟩;have B1:=hd_ (B0.out.trans (hb.mono B0.out.size));have hs1:Hid (w.heap.size+3≤w1.heap.size):=by show _≤_;have:=hb.size;have:=Hs0.out;omega
 have H1:=hd_ (Kd H1.out hb nr_);have H2:=hd_ (Kd H2.out hb nr_);have H3:=hd_ (Kd H3.out hb nr_);obtain⟨w1a,hw1a⟩:∃ w1a,w1.alloc (.cells #[.slice b1 m d1] 54)=w1a:=⟨_,rfl⟩;have A1:Below w1.heap.size w1 w1a:=by rw[← hw1a];exact(Below.refl _ _).alloc nr_ _
 have H4:Hid (w1a.heap[w1.heap.size]?=some (.cells #[.slice b1 m d1] 54 (0,0))):=by show _=_;rw[← hw1a];exact Kq w1 _ _ _ rfl
 have H1:=hd_ (Kd H1.out A1 nr_);have H2:=hd_ (Kd H2.out A1 nr_);have H3:=hd_ (Kd H3.out A1 nr_);have B1a:=hd_ (B1.out.trans (A1.mono B1.out.size));have Rl:=hd_ (hr1.below A1 nr_);have hs1a:Hid (w1.heap.size+1≤w1a.heap.size):=by show _≤_;rw[← hw1a];simp
 obtain⟨k0,k1,-,-⟩:=Ka H1.out;obtain⟨k4,-⟩:=Kp H4.out;have HSo1:=hd_ (HSo.out w1a b1 d1 B1a.out Rl.out);clear hb hr1 HS HSo B0 B1 A1 Hs0
 gi_wp2_with fail
 refine⟨trivial,?_⟩;refine(callsIn_wide.2 HSo1.out).mono ?_;rintro e w2 ⟨ao,co,F,rfl,hF,hro,hb⟩;clear hw1a k0 k1 k4;have B2:=hd_ (B1a.out.trans (hb.mono B1a.out.size));have H1:=hd_ (Kd H1.out hb nr_);have H2:=hd_ (Kd H2.out hb nr_);have H3:=hd_ (Kd H3.out hb nr_);have H4:=hd_ (Kd H4.out hb nr_);have hs2:Hid (w.heap.size+3≤w1.heap.size∧w1.heap.size+1≤w2.heap.size):=by
  have h1:=hs1.out;have h2:=hs1a.out;have h3:=hb.size;exact⟨h1,by omega⟩
 obtain⟨bs,os,rfl,hbs,hcl⟩:=Hcells.out w1a b1 Rl.out;have HD:Hid (bs<w2.heap.size∧∀ i,i<m→∃ a' c',w2.cell? ⟨bs,os+i,none⟩=some (.slice a' n c')∧Rd w2 a' (Kg (D.getD i []))):=by
  refine⟨Nat.lt_of_lt_of_le hbs hb.size,fun i hi=>?_⟩
  obtain⟨a',c',k1,k2⟩:=hcl i hi;exact⟨a',c',(hb.cell (p:=⟨bs,os+i,none⟩) hbs).trans k1,k2.below hb nr_⟩
 have HFl:=hd_ hF.lt;have Hmo:=hd_ (Hmono.out F hF);have Hon:=hd_ (Honto.out F hF);have Hro:=hd_ hro;clear hb hF hro hbs hcl HSo1 Rl Hcells Hmono Honto B1a hs1 hs1a;have hmk:=run_make_row' (P:=Tryz.prog) 81 5 (.int .u8 0) 1 Tryz.underlying81 Zyd rfl .i64 .i64 m (by omega) (by omega) w2
 obtain⟨k0,k1,-,-⟩:=Ka H1.out;obtain⟨k4,-⟩:=Kp H4.out
 gi_wp2_with fail
 refine⟨trivial,?_⟩;refine(callsIn_wide.2 (Zwh _ ao co m)).mono ?_;rintro e ws ⟨rfl,hws⟩;simp only[World.size_alloc] at hws ⊢
 gi_wp2_with fail
 clear k0 k1 k4 hmk;obtain⟨E,hE⟩:∃ E,ws.heap.size=E:=⟨_,rfl⟩;have hEs:E=w2.heap.size+5:=by rw[← hE,hws];simp
 have Q0:Zdk ws w2.heap.size 5 (Zml T F m 0):=by
  have h0:Zdk (w2.alloc (.cells (madeCells #[.int .u8 0] m) 5)) w2.heap.size 5 (Zml T F m 0):=by
   rw[Zsm];unfold Zdk;rw[List.length_replicate];refine(World.rowIs_made w2 (.int .u8 0) m 5).congr fun j hj=>?_
   rw[List.getD_eq_getElem?_getD,List.getElem?_replicate,if_pos hj];rfl
  unfold Zdk World.rowIs at h0 ⊢;obtain⟨c,q1,q2,q3⟩:=h0;refine⟨c,?_,q2,q3⟩;rw[hws];exact Ks (Ks (Ks (Ks q1 _) _) _) _
 have Q7:ws.heap[w2.heap.size+1]?=some (.cells #[.slice (some ⟨w2.heap.size,0,none⟩) m m] 81 (0,0)):=by rw[hws];exact Ks (Ks (Ks (Kq _ _ _ _ (by simp)) _) _) _
 have Q8:ws.heap[w2.heap.size+1+1]?=some (.cells #[.int .i64 (-1)] 3 (0,0)):=by rw[hws];exact Ks (Ks (Kq _ _ _ _ (by simp)) _) _
 have Q9:ws.heap[w2.heap.size+1+1+1]?=some (.cells #[.slice none 0 0] 35 (0,0)):=by rw[hws];exact Ks (Kq _ _ _ _ (by simp)) _
 have hb1:ws.heap[w2.heap.size+1+1+1+1]?=some (.cells #[.slice ao m co] 30 (0,0)):=by rw[hws];exact Kq _ _ _ _ (by simp)
 have G:Below w2.heap.size w2 ws:=by rw[hws];exact(((((Below.refl _ w2).alloc nr_ _).alloc (by simp) _).alloc (by simp;omega) _).alloc (by simp;omega) _).alloc (by simp;omega) _
 clear hws;refine Zp1 (n':=3) (by decide) ((List.range m).map fun (k:Nat)=>((F k:Nat):Int)) ao co m w2 ws G Hro.out (by rw[List.length_map,List.length_range]) (by omega) (by omega) (w2.heap.size+1+1+1+1) hb1 rfl
  (fun k X=>k≤m∧OfI X w2 n m D T F k) ?hI ⟨Nat.zero_le _,Q0,Q7,Q8,⟨none,0,0,Q9,fun h=>absurd h (Nat.lt_irrefl _)⟩,G⟩
  (fun k=>Zx0 a0 al ao c0 cl co n m d1 w.heap.size w1.heap.size w2.heap.size bs os (w2.heap.size+1+1+1+1) ((m-1-k:Nat):Int) (((List.range m).map fun (k:Nat)=>((F k:Nat):Int)).getD (m-1-k) 0)) ?assign ?body ?done
 case hI =>
  rintro k A B r ⟨hk,H⟩ hg hr;rw[hE] at hr;exact⟨hk,H.kept hg (by omega)⟩
 case assign =>
  intro k W K hk hK;unfold Zx0 at hK;generalize ((List.range m).map fun (k:Nat)=>((F k:Nat):Int)).getD (m-1-k) 0=y at *
  generalize ((m-1-k:Nat):Int)=q at *
  gi_wp2
  exact hK
 case body =>
  rintro k X hk ⟨hkm,H⟩ hbX hsX;rw[hE] at hsX ⊢;have hyk:((List.range m).map fun (k:Nat)=>((F k:Nat):Int)).getD (m-1-k) 0=((F (m-1-k):Nat):Int):=by
   rw[List.getD_eq_getElem?_getD,List.getElem?_map,List.getElem?_range (by omega)];rfl
  rw[hyk];unfold Zx0;have HH:=hd_ H;have HbX:=hd_ hbX;clear hyk H hbX Q0 Q7 Q8 Q9 hb1 G;have hfi:=HFl.out (m-1-k) (by omega)
  have hfi':((F (m-1-k):Nat):Int)<m:=by omega
  have hbs:=HD.out.1;obtain⟨a',c',kd,rd⟩:=HD.out.2 _ hfi;have kd':=(HH.out.bel.cell (p:=⟨bs,os+F (m-1-k),none⟩) hbs).trans kd;have RD:=hd_ rd;have X4:=hd_ (Kd H4.out HH.out.bel nr_);obtain⟨m4,-⟩:=Kp X4.out;obtain⟨m8,f8⟩:=Kp HH.out.b8;obtain⟨al9,nl9,cl9,hb9,hl9⟩:=HH.out.b9;obtain⟨m9,f9⟩:=Kp hb9;have HL9:=hd_ hl9;have HB9:=hd_ hb9;clear rd hbs hb9 hl9;have I:Hid (Below X.heap.size X X.drew):=(Below.refl _ _).drew;have hnon:Nonempty (BW X):=⟨⟨X,Below.refl _ _⟩⟩;have KD:=hd_ (show w2.cell? ⟨bs,os+F (m-1-k),none⟩=some (.slice a' n c') from kd)
  obtain⟨lv,hlv⟩:∃ lv,lvB (fun j=>T (F j)) m (k+1)=lv:=⟨_,rfl⟩
  have hlv2:lv=gtN T m (T (F (m-1-k))):=by rw[← hlv];exact Zw1 (by omega) Hmo.out Hon.out HFl.out (fun j hj=>Hb.out _ (HFl.out j hj)) k hk
  have h25:lv≤25:=by rw[hlv2];exact Zw8 _ _ _
  have Hlv1:=hd_ hlv.symm;have Hlv2:=hd_ hlv2;have hstep:lv=if k=0 then 0 else lvB (fun j=>T (F j)) m k+if T (F (m-1-k))=T (F (m-1-(k-1))) then 0 else 1:=by rw[← hlv,lvB]
  clear hlv hlv2 kd;rcases Nat.eq_zero_or_pos k with hk0|hk0
  ·rw[if_pos hk0] at m8 hstep;have Hk0:=hd_ hk0;clear hk0;have q4:=BW.cell m4;have q8:=BW.cell m8;have q9:=BW.cell m9;have qd:=BW.cell kd';subst hstep
   gi_wp2_with fail
   refine Kt [(10,0),(1,1),(1,2),(10,3),(10,4),(1,5),(1,6),(10,7),(0,8),(0,9),(0,10)] [(8,fun w'=>∃ p:BW X,w'=p.w)] (by kernel_rfl) (by kernel_rfl) ⟨.inr ⟨⟨_,I.out⟩,rfl⟩,trivial⟩ ?_
   refine Ko (s:=8) _ (List.mem_cons_self ..) rfl ?_;simp only[dz_,Qd,tz_]
   go_big_quiet_step (fail)
   refine wpQuiet_nil ?_
   iterate 2 (refine Qa ?_;simp only[Qg,dz_,Qd,tz_];go_big_quiet_step (fail);refine wpQuiet_nil ?_)
   iterate 2 (refine Ko (s:=8) _ (List.mem_cons_self ..) rfl ?_;simp only[Qg,dz_,Qd,tz_];go_big_quiet_step (fail);refine wpQuiet_nil ?_)
   iterate 2 (refine Qa ?_;simp only[Qg,dz_,Qd,tz_];go_big_quiet_step (fail);refine wpQuiet_nil ?_)
   iterate 1 (refine Ko (s:=8) _ (List.mem_cons_self ..) rfl ?_;simp only[Qg,dz_,Qd,tz_];go_big_quiet_step (fail);refine wpQuiet_nil ?_)
   refine Kj ?_;simp only[Qg,dz_,Qd,tz_]
   go_wp2_with fail
   refine⟨⟨.inl rfl,trivial⟩,?_⟩
   iterate 2 (refine Kj ?_;simp only[Qg,dz_,Qd,tz_];go_wp2_with fail;refine⟨⟨.inl rfl,trivial⟩,?_⟩)
   simp only[Qz];clear q4 q8 q9 qd hnon
   gi_wp2_with fail
   have BY:Hid (Below X.heap.size X X.drew):=I;clear m4 m8 f8 m9 f9 kd' I X4;generalize X.drew=Y at *
   have HY:=hd_ (HH.out.below BY.out);have X4:=hd_ (Kd H4.out HY.out.bel nr_);obtain⟨m4,-⟩:=Kp X4.out;obtain⟨m8,f8⟩:=Kp HY.out.b8;rw[if_pos Hk0.out] at m8;have m9:=(Kp (Kd HB9.out BY.out nr_)).1;have f9:=(Kp (Kd HB9.out BY.out nr_)).2;have kd':=(HY.out.bel.cell (p:=⟨bs,os+F (m-1-k),none⟩) HD.out.1).trans KD.out;have hb9y:=Kd HB9.out BY.out nr_;have m8d:Y.drew.cell? ⟨w2.heap.size+1+1,0,none⟩=some (.int .i64 (-1:Int)):=m8;have f8d:Y.drew.frozen? ⟨w2.heap.size+1+1,0,none⟩=false:=f8;have q8:=@Vu.h;have q1:∀ p:Zfz ⟨w1.heap.size,0,none⟩ (.slice (some ⟨bs,os,none⟩) m d1) ⟨bs,os+F (m-1-k),none⟩ (.slice a' n c'),p.w.cell? ⟨w1.heap.size,0,none⟩=some (.slice (some ⟨bs,os,none⟩) m d1):=fun p=>p.h1
   have q2:∀ p:Zfz ⟨w1.heap.size,0,none⟩ (.slice (some ⟨bs,os,none⟩) m d1) ⟨bs,os+F (m-1-k),none⟩ (.slice a' n c'),p.w.cell? ⟨bs,os+F (m-1-k),none⟩=some (.slice a' n c'):=fun p=>p.h2
   have n8:Nonempty (Vu ⟨w2.heap.size+1+1,0,none⟩ (.int .i64 (-1:Int))):=⟨⟨Y,m8⟩⟩;have n2:Nonempty (Zfz ⟨w1.heap.size,0,none⟩ (.slice (some ⟨bs,os,none⟩) m d1) ⟨bs,os+F (m-1-k),none⟩ (.slice a' n c')):=⟨⟨Y,m4,kd'⟩⟩;obtain⟨y8,y9,yo,yb⟩:=Zm8 (X:=Y.drew) (n₀:=w2.heap.size) (.int .i64 (0:Int)) (.slice a' n c') (show Y.drew.heap[w2.heap.size+1+1]?=_ from HY.out.b8) (show Y.drew.heap[w2.heap.size+1+1+1]?=_ from hb9y) (by omega) (by omega) (by omega)
   obtain⟨Z,hZ⟩:∃ Z,((Y.setCell ⟨w2.heap.size+1+1,0,none⟩ (.int .i64 (0:Int))).setCell ⟨w2.heap.size+1+1+1,0,none⟩ (.slice a' n c')).drew=Z:=⟨_,rfl⟩;have hZ':(Y.drew.setCell ⟨w2.heap.size+1+1,0,none⟩ (.int .i64 (0:Int))).setCell ⟨w2.heap.size+1+1+1,0,none⟩ (.slice a' n c')=Z:=hZ;rw[hZ'] at y8 y9 yo yb;have HFin:=hd_ (Zjx (Z:=Z) (Y:=Y.drew) (lv:=0) HH.out (BY.out.trans (Below.refl _ Y).drew) hk rfl (by omega) Hlv1.out Hlv2.out yb.size ⟨yb.os,yb.tape,yb.output⟩ y8 ⟨a',c',y9,RD.out⟩ yo)
   have HZ0:Hid (Zdk Z w2.heap.size 5 (Zml T F m k)):=by
    have hr:=HY.out.row;unfold Zdk World.rowIs at hr;obtain⟨c,g1,g2,g3⟩:=hr;exact⟨c,(yo _ (by omega) (by omega)).trans g1,g2,g3⟩
   have m7:=(Kp ((yo (w2.heap.size+1) (by omega) (by omega)).trans HY.out.b7)).1
   have m8z:=(Kp y8).1;have m9s:(Y.drew.setCell ⟨w2.heap.size+1+1,0,none⟩ (.int .i64 (0:Int))).cell? ⟨w2.heap.size+1+1+1,0,none⟩=some (.slice al9 nl9 cl9):=by rw[World.cell?_setCell_other _ _ _ _ (by simp)];exact m9
   have f9s:(Y.drew.setCell ⟨w2.heap.size+1+1,0,none⟩ (.int .i64 (0:Int))).frozen? ⟨w2.heap.size+1+1+1,0,none⟩=false:=by rw[World.frozen?_setCell];exact f9
   have c2s:(Y.drew.setCell ⟨w2.heap.size+1+1,0,none⟩ (.int .i64 (0:Int))).cell? ⟨w1.heap.size,0,none⟩=some (.slice (some ⟨bs,os,none⟩) m d1):=by rw[World.cell?_setCell_other _ _ _ _ (by simp;have:=hs2.out;omega)];exact m4
   have c3s:(Y.drew.setCell ⟨w2.heap.size+1+1,0,none⟩ (.int .i64 (0:Int))).cell? ⟨bs,os+F (m-1-k),none⟩=some (.slice a' n c'):=by rw[World.cell?_setCell_other _ _ _ _ (by simp;have:=HD.out.1;omega)];exact kd'
   clear y8 y9 yo yb HY X4 hb9y;refine Kt [(8,0),(1,1),(9,2),(1,3),(1,4),(9,5),(0,6),(0,7)] [(6,fun w'=>∃ p:Vu ⟨w2.heap.size+1+1,0,none⟩ (.int .i64 (-1:Int)),w'=p.w),(7,fun w'=>∃ p:Zfz ⟨w1.heap.size,0,none⟩ (.slice (some ⟨bs,os,none⟩) m d1) ⟨bs,os+F (m-1-k),none⟩ (.slice a' n c'),w'=p.w)] (by kernel_rfl) (by kernel_rfl) ⟨.inr ⟨⟨Y.drew,m8⟩,rfl⟩,.inr ⟨⟨Y.drew,m4,kd'⟩,rfl⟩,trivial⟩ ?_
   iterate 1 (refine Ko (s:=6) _ (List.mem_cons_self ..) rfl ?_;simp only[dz_,Qd,tz_];go_big_quiet_step (fail);refine wpQuiet_nil ?_)
   iterate 1 (refine Qa ?_;simp only[Qg,dz_,Qd,tz_];go_big_quiet_step (fail);refine wpQuiet_nil ?_)
   iterate 1 (refine Ko (s:=7) _ (List.mem_cons_of_mem _ (List.mem_cons_self ..)) rfl ?_;simp only[Qg,dz_,Qd,tz_];go_big_quiet_step (fail);refine wpQuiet_nil ?_)
   iterate 2 (refine Qa ?_;simp only[Qg,dz_,Qd,tz_];go_big_quiet_step (fail);refine wpQuiet_nil ?_)
   iterate 1 (refine Ko (s:=7) _ (List.mem_cons_of_mem _ (List.mem_cons_self ..)) rfl ?_;simp only[Qg,dz_,Qd,tz_];go_big_quiet_step (fail);refine wpQuiet_nil ?_)
   clear q8 q1 q2 n8 n2;refine Kj ?_;simp only[Qg,dz_,Qd,tz_]
   go_wp2_with fail
   refine⟨⟨.inl rfl,.inr ⟨⟨_,c2s,c3s⟩,rfl⟩,trivial⟩,?_⟩;refine Kj ?_;simp only[Qg,dz_,Qd,tz_]
   go_wp2_with fail
   refine⟨⟨.inl rfl,.inl rfl,trivial⟩,?_⟩;simp only[Qz]
   try rw[hZ]
   clear hZ hZ';clear m8d f8d m8 f8 m9 f9 m9s f9s c2s c3s m4 kd';have mr:=HZ0.out;have mrc:=Zdk.cell (i:=F (m-1-k)) mr (by rw[Zb5];exact hfi)
   have mrf:=Zdk.frozen mr (F (m-1-k));clear mr
   gi_wp2_with fail
   show _∧_
   have hfin:=HFin.out;exact⟨⟨by omega,hfin.1⟩,hfin.2⟩
  ·rw[if_neg (by omega)] at m8 hstep
   obtain⟨lk,hlk⟩:∃ lk,lvB (fun j=>T (F j)) m k=lk:=⟨_,rfl⟩
   rw[hlk] at m8 hstep;have Hlk:=hd_ hlk;have Hk0:Hid (¬ k=0):=by show ¬ k=0;omega
   obtain⟨hn9,hr9⟩:=HL9.out hk0;have hn9':=hn9.symm;subst hn9';have HR9:=hd_ hr9;have hu:m-1-(k-1)<m:=by omega
   have hfu:=HFl.out _ hu;have hkk:k<m:=hk;have I:Hid (Below X.heap.size X X.drew):=(Below.refl _ _).drew;have hneg:¬ (((lk:Nat):Int)<0):=by omega
   have hneg2:decide (((lk:Nat):Int)<0)=false:=decide_eq_false hneg;have HE0:=HEq.out X.drew al9 a' cl9 c' _ _ hfu hfi ((hr9.below HH.out.bel nr_).below I.out nr_) ((RD.out.below HH.out.bel nr_).below I.out nr_);have q4:=BW.cell m4;have q8:=BW.cell m8;have q9:=BW.cell m9;have qd:=BW.cell kd';have HeT:=Heq.out _ _ hfu hfi;clear hlk hk0 hn9 hr9 hu hfu
   by_cases hT:T (F (m-1-(k-1)))=T (F (m-1-k))
   ·rw[decide_eq_true hT] at HE0;have HE1:=hd_ HE0;have HeD:=hd_ (HeT.2 hT);rw[if_pos hT.symm] at hstep;have Hlv:Hid (lv=lk):=hstep;clear HE0 HeT hT hstep;unfold Kc at HE1
    gi_wp2_with fail
    refine Kt [(10,0),(1,1),(1,2),(10,3),(10,4),(1,5),(1,6),(10,7),(0,8),(0,9),(0,10)] [(8,fun w'=>∃ p:BW X,w'=p.w)] (by kernel_rfl) (by kernel_rfl) ⟨.inr ⟨⟨_,I.out⟩,rfl⟩,trivial⟩ ?_
    refine Ko (s:=8) _ (List.mem_cons_self ..) rfl ?_;simp only[dz_,Qd,tz_]
    go_big_quiet_step (fail)
    refine wpQuiet_nil ?_
    iterate 2 (refine Qa ?_;simp only[Qg,dz_,Qd,tz_];go_big_quiet_step (fail);refine wpQuiet_nil ?_)
    iterate 2 (refine Ko (s:=8) _ (List.mem_cons_self ..) rfl ?_;simp only[Qg,dz_,Qd,tz_];go_big_quiet_step (fail);refine wpQuiet_nil ?_)
    iterate 2 (refine Qa ?_;simp only[Qg,dz_,Qd,tz_];go_big_quiet_step (fail);refine wpQuiet_nil ?_)
    iterate 1 (refine Ko (s:=8) _ (List.mem_cons_self ..) rfl ?_;simp only[Qg,dz_,Qd,tz_];go_big_quiet_step (fail);refine wpQuiet_nil ?_)
    refine Kj ?_;simp only[Qg,dz_,Qd,tz_]
    go_wp2_with fail
    refine cm_ HE1.out ?_;rintro e_ Y ⟨rfl,hb_⟩;have BY:Hid (Below X.heap.size X Y):=I.out.trans (hb_.mono I.out.size);clear hb_ HE1
    go_wp2_with fail
    refine⟨⟨.inl rfl,trivial⟩,?_⟩
    iterate 2 (refine Kj ?_;simp only[Qg,dz_,Qd,tz_];go_wp2_with fail;refine⟨⟨.inl rfl,trivial⟩,?_⟩)
    simp only[Qz];clear q4 q8 q9 qd hnon;clear m4 m8 f8 m9 f9 kd' I X4;have HY:=hd_ (HH.out.below BY.out);obtain⟨m8,f8⟩:=Kp HY.out.b8;rw[if_neg Hk0.out,Hlk.out,← Hlv.out] at m8;have hb9y:=Kd HB9.out BY.out nr_;have HFin:=hd_ (Zjx (Y:=Y) (Z:=Y) (lv:=lv) HH.out BY.out hk rfl (by omega) Hlv1.out Hlv2.out nr_ ⟨rfl,rfl,rfl⟩ (by have h:=HY.out.b8;rw[if_neg Hk0.out,Hlk.out,← Hlv.out] at h;exact h) ⟨al9,cl9,hb9y,by rw[← HeD.out];exact HR9.out⟩ (fun _ _ _=>rfl))
    have HZ0:=hd_ HY.out.row;have m7:=(Kp HY.out.b7).1;have m8z:=m8;clear hb9y HY;have mr:=HZ0.out;have mrc:=Zdk.cell (i:=F (m-1-k)) mr (by rw[Zb5];exact hfi)
    have mrf:=Zdk.frozen mr (F (m-1-k));have hw1:IntKind.u8.wrap ((lv:Nat):Int)=((lv:Nat):Int):=IntWalk.u8_in _ (by omega)
    have hw2:IntKind.u8.wrap (97+((lv:Nat):Int))=((97+lv:Nat):Int):=by rw[show (97:Int)+((lv:Nat):Int)=((97+lv:Nat):Int) by omega];exact IntWalk.u8_in _ (by omega)
    have h25':¬ (25:Int)<((lv:Nat):Int):=by omega
    have h25d:decide ((25:Int)<((lv:Nat):Int))=false:=decide_eq_false h25';clear mr
    gi_wp2_with fail
    show _∧_
    have hfin:=HFin.out;exact⟨⟨by omega,hfin.1⟩,hfin.2⟩
   ·rw[decide_eq_false hT] at HE0;have HE1:=hd_ HE0;rw[if_neg (fun h=>hT h.symm)] at hstep
    have Hlv:Hid (lv=lk+1):=hstep;clear HE0 HeT hT hstep;unfold Kc at HE1
    gi_wp2_with fail
    refine Kt [(10,0),(1,1),(1,2),(10,3),(10,4),(1,5),(1,6),(10,7),(0,8),(0,9),(0,10)] [(8,fun w'=>∃ p:BW X,w'=p.w)] (by kernel_rfl) (by kernel_rfl) ⟨.inr ⟨⟨_,I.out⟩,rfl⟩,trivial⟩ ?_
    refine Ko (s:=8) _ (List.mem_cons_self ..) rfl ?_;simp only[dz_,Qd,tz_]
    go_big_quiet_step (fail)
    refine wpQuiet_nil ?_
    iterate 2 (refine Qa ?_;simp only[Qg,dz_,Qd,tz_];go_big_quiet_step (fail);refine wpQuiet_nil ?_)
    iterate 2 (refine Ko (s:=8) _ (List.mem_cons_self ..) rfl ?_;simp only[Qg,dz_,Qd,tz_];go_big_quiet_step (fail);refine wpQuiet_nil ?_)
    iterate 2 (refine Qa ?_;simp only[Qg,dz_,Qd,tz_];go_big_quiet_step (fail);refine wpQuiet_nil ?_)
    iterate 1 (refine Ko (s:=8) _ (List.mem_cons_self ..) rfl ?_;simp only[Qg,dz_,Qd,tz_];go_big_quiet_step (fail);refine wpQuiet_nil ?_)
    refine Kj ?_;simp only[Qg,dz_,Qd,tz_]
    go_wp2_with fail
    refine cm_ HE1.out ?_;rintro e_ Y ⟨rfl,hb_⟩;have BY:Hid (Below X.heap.size X Y):=I.out.trans (hb_.mono I.out.size);clear hb_ HE1
    go_wp2_with fail
    refine⟨⟨.inl rfl,trivial⟩,?_⟩
    iterate 2 (refine Kj ?_;simp only[Qg,dz_,Qd,tz_];go_wp2_with fail;refine⟨⟨.inl rfl,trivial⟩,?_⟩)
    simp only[Qz];clear q4 q8 q9 qd hnon;clear m4 m8 f8 m9 f9 kd' I X4
    gi_wp2_with fail
    have HY:=hd_ (HH.out.below BY.out);have X4:=hd_ (Kd H4.out HY.out.bel nr_);obtain⟨m4,-⟩:=Kp X4.out;obtain⟨m8,f8⟩:=Kp HY.out.b8;rw[if_neg Hk0.out,Hlk.out] at m8;have m9:=(Kp (Kd HB9.out BY.out nr_)).1;have f9:=(Kp (Kd HB9.out BY.out nr_)).2;have kd':=(HY.out.bel.cell (p:=⟨bs,os+F (m-1-k),none⟩) HD.out.1).trans KD.out;have hb9y:=Kd HB9.out BY.out nr_;have m8d:Y.drew.cell? ⟨w2.heap.size+1+1,0,none⟩=some (.int .i64 ((lk:Nat):Int)):=m8;have f8d:Y.drew.frozen? ⟨w2.heap.size+1+1,0,none⟩=false:=f8;have hadd:IntKind.i64.wrap (((lk:Nat):Int)+1)=((lv:Nat):Int):=by rw[show ((lk:Nat):Int)+1=((lv:Nat):Int) by have:=Hlv.out;omega];exact iw_ _ (by omega)
    have q8:=@Vu.h;have q1:∀ p:Zfz ⟨w1.heap.size,0,none⟩ (.slice (some ⟨bs,os,none⟩) m d1) ⟨bs,os+F (m-1-k),none⟩ (.slice a' n c'),p.w.cell? ⟨w1.heap.size,0,none⟩=some (.slice (some ⟨bs,os,none⟩) m d1):=fun p=>p.h1
    have q2:∀ p:Zfz ⟨w1.heap.size,0,none⟩ (.slice (some ⟨bs,os,none⟩) m d1) ⟨bs,os+F (m-1-k),none⟩ (.slice a' n c'),p.w.cell? ⟨bs,os+F (m-1-k),none⟩=some (.slice a' n c'):=fun p=>p.h2
    have n8:Nonempty (Vu ⟨w2.heap.size+1+1,0,none⟩ (.int .i64 ((lk:Nat):Int))):=⟨⟨Y,m8⟩⟩;have n2:Nonempty (Zfz ⟨w1.heap.size,0,none⟩ (.slice (some ⟨bs,os,none⟩) m d1) ⟨bs,os+F (m-1-k),none⟩ (.slice a' n c')):=⟨⟨Y,m4,kd'⟩⟩;obtain⟨y8,y9,yo,yb⟩:=Zm8 (X:=Y.drew) (n₀:=w2.heap.size) (.int .i64 ((lv:Nat):Int)) (.slice a' n c') (show Y.drew.heap[w2.heap.size+1+1]?=_ from HY.out.b8) (show Y.drew.heap[w2.heap.size+1+1+1]?=_ from hb9y) (by omega) (by omega) (by omega)
    obtain⟨Z,hZ⟩:∃ Z,((Y.setCell ⟨w2.heap.size+1+1,0,none⟩ (.int .i64 ((lv:Nat):Int))).setCell ⟨w2.heap.size+1+1+1,0,none⟩ (.slice a' n c')).drew=Z:=⟨_,rfl⟩;have hZ':(Y.drew.setCell ⟨w2.heap.size+1+1,0,none⟩ (.int .i64 ((lv:Nat):Int))).setCell ⟨w2.heap.size+1+1+1,0,none⟩ (.slice a' n c')=Z:=hZ;rw[hZ'] at y8 y9 yo yb;have HFin:=hd_ (Zjx (Z:=Z) (Y:=Y.drew) (lv:=lv) HH.out (BY.out.trans (Below.refl _ Y).drew) hk rfl (by omega) Hlv1.out Hlv2.out yb.size ⟨yb.os,yb.tape,yb.output⟩ y8 ⟨a',c',y9,RD.out⟩ yo)
    have HZ0:Hid (Zdk Z w2.heap.size 5 (Zml T F m k)):=by
     have hr:=HY.out.row;unfold Zdk World.rowIs at hr;obtain⟨c,g1,g2,g3⟩:=hr;exact⟨c,(yo _ (by omega) (by omega)).trans g1,g2,g3⟩
    have m7:=(Kp ((yo (w2.heap.size+1) (by omega) (by omega)).trans HY.out.b7)).1
    have m8z:=(Kp y8).1;have m9s:(Y.drew.setCell ⟨w2.heap.size+1+1,0,none⟩ (.int .i64 ((lv:Nat):Int))).cell? ⟨w2.heap.size+1+1+1,0,none⟩=some (.slice al9 n cl9):=by rw[World.cell?_setCell_other _ _ _ _ (by simp)];exact m9
    have f9s:(Y.drew.setCell ⟨w2.heap.size+1+1,0,none⟩ (.int .i64 ((lv:Nat):Int))).frozen? ⟨w2.heap.size+1+1+1,0,none⟩=false:=by rw[World.frozen?_setCell];exact f9
    have c2s:(Y.drew.setCell ⟨w2.heap.size+1+1,0,none⟩ (.int .i64 ((lv:Nat):Int))).cell? ⟨w1.heap.size,0,none⟩=some (.slice (some ⟨bs,os,none⟩) m d1):=by rw[World.cell?_setCell_other _ _ _ _ (by simp;have:=hs2.out;omega)];exact m4
    have c3s:(Y.drew.setCell ⟨w2.heap.size+1+1,0,none⟩ (.int .i64 ((lv:Nat):Int))).cell? ⟨bs,os+F (m-1-k),none⟩=some (.slice a' n c'):=by rw[World.cell?_setCell_other _ _ _ _ (by simp;have:=HD.out.1;omega)];exact kd'
    clear y8 y9 yo yb HY X4 hb9y;refine Kt [(8,0),(1,1),(9,2),(1,3),(1,4),(9,5),(0,6),(0,7)] [(6,fun w'=>∃ p:Vu ⟨w2.heap.size+1+1,0,none⟩ (.int .i64 ((lk:Nat):Int)),w'=p.w),(7,fun w'=>∃ p:Zfz ⟨w1.heap.size,0,none⟩ (.slice (some ⟨bs,os,none⟩) m d1) ⟨bs,os+F (m-1-k),none⟩ (.slice a' n c'),w'=p.w)] (by kernel_rfl) (by kernel_rfl) ⟨.inr ⟨⟨Y.drew,m8⟩,rfl⟩,.inr ⟨⟨Y.drew,m4,kd'⟩,rfl⟩,trivial⟩ ?_
    iterate 1 (refine Ko (s:=6) _ (List.mem_cons_self ..) rfl ?_;simp only[dz_,Qd,tz_];go_big_quiet_step (fail);refine wpQuiet_nil ?_)
    iterate 1 (refine Qa ?_;simp only[Qg,dz_,Qd,tz_];go_big_quiet_step (fail);refine wpQuiet_nil ?_)
    iterate 1 (refine Ko (s:=7) _ (List.mem_cons_of_mem _ (List.mem_cons_self ..)) rfl ?_;simp only[Qg,dz_,Qd,tz_];go_big_quiet_step (fail);refine wpQuiet_nil ?_)
    iterate 2 (refine Qa ?_;simp only[Qg,dz_,Qd,tz_];go_big_quiet_step (fail);refine wpQuiet_nil ?_)
    iterate 1 (refine Ko (s:=7) _ (List.mem_cons_of_mem _ (List.mem_cons_self ..)) rfl ?_;simp only[Qg,dz_,Qd,tz_];go_big_quiet_step (fail);refine wpQuiet_nil ?_)
    clear q8 q1 q2 n8 n2;refine Kj ?_;simp only[Qg,dz_,Qd,tz_]
    go_wp2_with fail
    refine⟨⟨.inl rfl,.inr ⟨⟨_,c2s,c3s⟩,rfl⟩,trivial⟩,?_⟩;refine Kj ?_;simp only[Qg,dz_,Qd,tz_]
    go_wp2_with fail
    refine⟨⟨.inl rfl,.inl rfl,trivial⟩,?_⟩;simp only[Qz]
    try rw[hZ]
    clear hZ hZ';clear m8d f8d m8 f8 m9 f9 m9s f9s c2s c3s m4 kd';have mr:=HZ0.out;have mrc:=Zdk.cell (i:=F (m-1-k)) mr (by rw[Zb5];exact hfi)
    have mrf:=Zdk.frozen mr (F (m-1-k));have hw1:IntKind.u8.wrap ((lv:Nat):Int)=((lv:Nat):Int):=IntWalk.u8_in _ (by omega)
    have hw2:IntKind.u8.wrap (97+((lv:Nat):Int))=((97+lv:Nat):Int):=by rw[show (97:Int)+((lv:Nat):Int)=((97+lv:Nat):Int) by omega];exact IntWalk.u8_in _ (by omega)
    have h25':¬ (25:Int)<((lv:Nat):Int):=by omega
    have h25d:decide ((25:Int)<((lv:Nat):Int))=false:=decide_eq_false h25';clear mr
    gi_wp2_with fail
    show _∧_
    have hfin:=HFin.out;exact⟨⟨by omega,hfin.1⟩,hfin.2⟩
 case done =>
  rintro X ⟨-,H⟩ hK;rw[hE] at hK;have hbel:=hd_ H.bel;have HRW:=hd_ H.row;have hBX:=hd_ (B2.out.trans (H.bel.mono B2.out.size));have X2:=hd_ (Kd H2.out H.bel nr_);have X3:=hd_ (Kd H3.out H.bel nr_);have HK:=hd_ hK;obtain⟨k7,-⟩:=Kp H.b7;obtain⟨j2,f2⟩:=Kp X2.out;obtain⟨j3,f3⟩:=Kp X3.out;have hcv:=HRW.out.text (src:=81) (dst:=9) (e:=5) 0 m m (by rw[Zb5];omega) Tryz.underlying81 Tryz.underlying5 Tryz.underlying9
  rw[List.drop_zero,Zu4 Hon.out] at hcv;clear H hK Q0 Q7 Q8 Q9 hb1 H1 H2 H3 H4 HD
  gi_wp2_with fail
  clear hcv;obtain⟨y6,y7,yo,yb⟩:=Zm8 (X:=X) (n₀:=w.heap.size) (.string ⟨(Zn8 T m).toArray⟩) (.int .i64 0) X2.out X3.out (by omega) (by omega) (by omega)
  have hss:=hs2.out;have hKy:=(yo E (by omega) (by omega)).trans HK.out
  obtain⟨z6,-⟩:=Kp y6;obtain⟨z7,-⟩:=Kp y7;have hbY0:Below w.heap.size w ((X.setCell ⟨w.heap.size+1,0,none⟩ (.string ⟨(Zn8 T m).toArray⟩)).setCell ⟨w.heap.size+1+1,0,none⟩ (.int .i64 0)):=hBX.out.trans yb;generalize (X.setCell ⟨w.heap.size+1,0,none⟩ (.string ⟨(Zn8 T m).toArray⟩)).setCell ⟨w.heap.size+1+1,0,none⟩ (.int .i64 0)=Y at *
  have gY:=grownBy_putObj' Y E (.deferred none);have g6:=(World.cell?_of_block (w:=Y) (gY.block (w.heap.size+1) (Array.getElem?_eq_some_iff.1 y6).1 (fun e=>by have:=Option.some.inj e;omega)) (a:=⟨w.heap.size+1,0,none⟩)).trans z6
  have g7:=(World.cell?_of_block (w:=Y) (gY.block (w.heap.size+1+1) (Array.getElem?_eq_some_iff.1 y7).1 (fun e=>by have:=Option.some.inj e;omega)) (a:=⟨w.heap.size+1+1,0,none⟩)).trans z7
  rw[hE];refine⟨by simp,.inl ⟨_,_,rfl,run_takeDeferred hKy,?_⟩⟩
  have hbY:Below w.heap.size w (Y.putObj E (.deferred none)):=hbY0.trans ⟨gY.os,gY.tape,gY.output,gY.size,fun i hi=>gY.block i (by have:=hbY0.size;omega) (fun e=>by have:=Option.some.inj e;omega)⟩
  refine⟨.tuple #[.string ⟨(Zn8 T m).toArray⟩,.int .i64 0],?_,rfl,hbY⟩;simp[results,Tryz.results27,go_sem,g6,g7]
end Go.Proofs.YtbielfplgbammaaGreatDoor

namespace Go.Proofs.YtbielfplgbammaaGreatDoor
open Go.RowKit Go.Shelf
theorem Zkl.keptE{w w':World}{B r d n:Nat}{b:Option Addr}{L:List (Option Addr×Nat)}{ls:List (List Rat)}(h:Zkl w B b d n L ls)(hg:w.grownBy w' (some r))(hr:r<B):Zkl w' B b d n L ls :=
 ⟨h.len,h.row.kept hg (.inr fun e=>by have:=(h.row.lt _ e).1;omega),fun i h1 h2=>by
  have:=h.each i h1 h2
  exact World.ownsRow.kept (show w.ownsRow B 101 2 _ _ _ from this) hg (.inr fun e=>by have:=(World.ownsRow.lt (show w.ownsRow B 101 2 _ _ _ from this) _ e).1;omega),h.lens⟩
theorem Zls(w:World)(b:Nat)(v:Value):w.grownBy (w.setCell ⟨b,1,none⟩ v) (some b) :=
 ⟨rfl,rfl,rfl,by simp[World.setCell],fun k _ hk=>Below.heap_setCell _ _ _ _ (fun e=>hk (by simp[e]))⟩
structure Zuk (w:World) (E:Nat) (a b:Value):Prop where
 c0:w.cell? ⟨E,0,none⟩=some a
 c1:w.cell? ⟨E,1,none⟩=some b
 f1:w.frozen? ⟨E,1,none⟩=false
theorem Zuk.of{w:World}{E:Nat}{a b:Value}{t:TypeId}(h:w.heap[E]?=some (.cells #[a,b] t (0,0))):Zuk w E a b:=by
 obtain⟨k0,k1,-,f1⟩:=Ka h;exact⟨k0,k1,f1⟩
theorem Zuk.kept{w w':World}{E:Nat}{a b:Value}(h:Zuk w E a b)(e:w'.heap[E]?=w.heap[E]?):Zuk w' E a b :=
 ⟨(World.cell?_of_block (w:=w) e (a:=⟨E,0,none⟩)).trans h.c0,(World.cell?_of_block (w:=w) e (a:=⟨E,1,none⟩)).trans h.c1,by have:=h.f1;unfold World.frozen? at this ⊢;rw[e];exact this⟩
theorem Zuk.set{w:World}{E:Nat}{a b:Value}(h:Zuk w E a b)(v:Value):Zuk (w.setCell ⟨E,1,none⟩ v) E a v :=
 ⟨by rw[World.cell?_setCell_other _ _ _ _ (by simp)];exact h.c0,World.cell?_setCell_same _ _ _ h.c1,by rw[World.frozen?_setCell];exact h.f1⟩
def Zrh (w:World) (n:Nat) (al:Option Addr) (l:List (List Rat)):Prop :=
 l=[]∨∃ b off,al=some ⟨b,off,none⟩∧b<w.heap.size∧∀ k,k<l.length→∃ a' c',w.cell? ⟨b,off+k,none⟩=some (.slice a' n c')∧Rd w a' (Kg (l.getD k []))
theorem Zrh.below{w w':World}{n:Nat}{al:Option Addr}{l:List (List Rat)}{B:Nat}(h:Zrh w n al l)(hb:Below B w w')(hB:w.heap.size≤B):Zrh w' n al l:=by
 rcases h with h|⟨b,off,h1,h2,h3⟩
 ·exact .inl h
 ·refine .inr ⟨b,off,h1,Nat.lt_of_lt_of_le h2 hb.size,fun k hk=>?_⟩
  obtain⟨a',c',h4,h5⟩:=h3 k hk;exact⟨a',c',(hb.cell (p:=⟨b,off+k,none⟩) (by show b<B;omega)).trans h4,h5.below hb hB⟩
theorem Zrh.rdl{w:World}{n:Nat}{al:Option Addr}{l:List (List Rat)}(h:Zrh w n al l)(hl:∀ d∈l,d.length=n):RdL w al (l.map (List.map qs)):=by
 rcases h with rfl|⟨b,off,h1,h2,h3⟩
 ·exact .inl rfl
 ·refine .inr ⟨b,off,h1,h2,fun k hk=>?_⟩
  rw[List.length_map] at hk;obtain⟨a',c',h4,h5⟩:=h3 k hk;have e:(l.map (List.map qs)).getD k []=(l.getD k []).map qs:=by
   rw[List.getD_eq_getElem?_getD,List.getElem?_map,List.getD_eq_getElem?_getD,List.getElem?_eq_getElem hk];rfl
  rw[e];refine⟨a',c',?_,h5⟩;rw[List.length_map,hl _ (Kl hk)];exact h4
theorem Ye.sm30{ps:List Int}{l:List (List Rat)}(h:Ye ps l):∀ d∈l,∀ q∈d,Sm 30 q:=fun d hd q hq=>(h.sm2 d hd q hq).le (by decide)
theorem Zl2{W:World}{ps:List Int}{l:List (List Rat)}{a0 al:Option Addr}(c0 cl:Nat)(D:Ye ps l)(hp:Qv ps=0)(hi:Zf3 ps)(hn:ps.length≤100)(hl:l.length≤1000)(rp:Rd W a0 (Qw ps))(A:Zrh W ps.length al l)(L:Qx W):
  Kc Tryz.prog 20 #[.slice a0 ps.length c0,.slice al l.length cl] W (.int .i64 0):=by
 have:=Yc W a0 al c0 cl ps (l.map (List.map qs)) rp hi (by omega) (A.rdl D.len) (by rw[List.length_map];omega) (fun x hx=>by
  obtain⟨m,hm,rfl⟩:=List.mem_map.1 hx;exact⟨by rw[List.length_map,D.len m hm];omega,Zd3 (D.sm30 m hm)⟩) L
 rw[Zej hp fun d hd=>⟨D.len d hd,D.sm30 d hd⟩,List.length_map] at this
 exact this
theorem Zcw{s:ByteArray}(hv:chk (lb s)=0){k:Nat}(hk:k<s.size):((s[k].toNat:Nat):Int)=97+(ixB s[k]:Nat)∧ixB s[k]≤25∧(lb s).getD k 0=s[k]:=by
 obtain⟨h1,h2⟩:=Za6 s (Zaw s hv) k hk;refine⟨by unfold ixB;omega,by unfold ixB;omega,?_⟩
 rw[List.getD_eq_getElem?_getD,List.getElem?_eq_getElem (by rw[Kr];exact hk),Vf s k hk];rfl
theorem Zxy(w:World)(b o c:Nat)(l:List Int)(hr:Rd w (some ⟨b,o,none⟩) (Qw l))(hl:l.length≤1000)(h0:0<l.length):
  Calls Tryz.prog 83 #[.slice (some ⟨b,o,none⟩) l.length c] w fun e w'=>∃ g d,e = .returned (.slice (some ⟨g,0,none⟩) l.length d)∧Zbu w' w.heap.size (some ⟨g,0,none⟩) d l∧Below w.heap.size w w':=by
 obtain⟨i0,hi,hz0,hz1,hz2⟩:=info_parts Zyc;have q22:∀ (w:World) (a:Option Addr) (n c n' c':Nat),(binOp .eql 31 (.slice a n c) (.slice none n' c')).run Tryz.prog w = .ok (.bool a.isNone) w:=fun w a n c n' c'=>Lib.run_eql_slice_nil w _ _ a n c n' c' Tryz.underlying31
 obtain⟨b',off,e0,hb',hc0⟩:=hr.open (by rw[Qm];exact h0)
 simp only[Option.some.injEq,Addr.mk.injEq,and_true] at e0;obtain⟨rfl,rfl⟩:=e0;have Hc:Hid (∀ j u,(Qw l)[j]?=some u→w.cell? ⟨b,o+j,none⟩=some u):=hc0;have Hone:Hid (∀ u∈Qw l,u.oneCell'=true):=fun u hu=>by
  obtain⟨x,_,rfl⟩:=List.mem_map.1 hu;rfl
 have Hlen:Hid ((Qw l).length=l.length):=Qm l;clear hc0 hr;unfold Zbu;generalize Qw l=vs at *
 generalize l.length=n at *
 go_enter Tryz.func83,Tryz.ntmps83
 go_wp2_with (at_builtin;refine wpList_append_own _ rfl _ _ 31 rfl w.heap.size 3 i0 (.int .i64 0) 1 8 Tryz.underlying31 hi hz0 hz1 hz2 rfl (by decide) _ _ _ rfl (World.ownsRow_made w #[] 0 nr_ (Nat.zero_le _) rfl) ⟨b,o,none⟩ n c vs rfl ?qc1 ?qc2 ?qc3 ?qc4 ?qc5 ?qc6 ?_)
 case qc1=>rw[Hlen.out];omega
 case qc2 =>
  intro j u hj;rw[Addr.add_lit];exact Lib.cell?_alloc_some _ (Hc.out j u hj)
 case qc3=>exact Hone.out
 case qc4=>unfold maxLen;omega
 case qc5=>omega
 case qc6=>simp
 intro v' w1 hown hgrow hnil;obtain⟨a3,d3,rfl⟩:=Ky hown;have hown':w1.ownsRow w.heap.size 3 1 (.slice a3 n d3) n vs:=by simpa using hown
 have B:=hd_ (((Below.refl _ w).alloc nr_ (.cells #[] 3)).grown hgrow (by simp) (by intro k hk;simp[Value.ownBlock] at hk;omega))
 obtain⟨g,cap,hv,-,-,-,-,-⟩:=Qb hown' h0;simp only[Value.slice.injEq] at hv;obtain⟨rfl,-,rfl⟩:=hv;have O:=hd_ hown';clear hown hown' hgrow hnil
 go_wp2_with fail
 go_ret;exact⟨g,d3,rfl,O.out,B.out⟩
theorem Zsj(w:World)(a:Option Addr)(c:Nat)(l:List Int)(hr:Rd w a (Qw l))(hl:l.length≤1000)(h0:0<l.length):
  Calls Tryz.prog 83 #[.slice a l.length c] w fun e w'=>∃ a d,e = .returned (.slice a l.length d)∧Rd w' a (Qw l)∧Below w.heap.size w w':=by
 obtain⟨b,o,rfl,-,-⟩:=hr.open (by rw[Qm];exact h0)
 refine cm_ (Zxy w b o c l hr hl h0) ?_;rintro e w' ⟨g,d,rfl,ho,hb⟩;exact⟨_,d,rfl,Zcu ho,hb⟩
theorem Zww{w w':World}{R:Nat}(hc:∀ p:Addr,p.block≠R→w'.cell? p=w.cell? p)(hs:w'.heap.size=w.heap.size){x y:Value}{T:TypeId}{fr:Nat×Nat}(hR:w.heap[R]?=some (.cells #[x,y] T fr)){a:Option Addr}{vs:List Value}(h:Rd w a vs)(h1:∀ v∈vs,v≠x∧v≠y):Rd w' a vs:=by
 rcases h with h|⟨b,off,e1,e2,e3⟩
 ·exact .inl h
 ·refine .inr ⟨b,off,e1,by rw[hs];exact e2,fun i v hi=>?_⟩
  have hv:=e3 i v hi;have hne:b≠R:=by
   rintro rfl;obtain⟨n1,n2⟩:=h1 v (List.mem_of_getElem? hi);rw[cell_of_row _ _ _ _ _ _ hR] at hv;generalize off+i=j at hv;rcases j with _|_|j
   ·exact n1 (Option.some.inj hv).symm
   ·exact n2 (Option.some.inj hv).symm
   ·simp at hv
  rw[hc ⟨b,off+i,none⟩ hne];exact hv
theorem Zm1{w w':World}{R:Nat}(hc:∀ p:Addr,p.block≠R→w'.cell? p=w.cell? p){x y:Value}{T:TypeId}{fr:Nat×Nat}(hR:w.heap[R]?=some (.cells #[x,y] T fr)){b o:Nat}{v:Value}(hv:w.cell? ⟨b,o,none⟩=some v)(n1:v≠x)(n2:v≠y):w'.cell? ⟨b,o,none⟩=some v:=by
 have hne:b≠R:=by
  rintro rfl;rw[cell_of_row _ _ _ _ _ _ hR] at hv;rcases o with _|_|j
  ·exact n1 (Option.some.inj hv).symm
  ·exact n2 (Option.some.inj hv).symm
  ·simp at hv
 rw[hc ⟨b,o,none⟩ hne];exact hv
theorem Zdg.stored{w:World}{ps:List Int}{a b:Option Addr}{D:List (List Rat)}{R:Nat}{T:TypeId}{fr:Nat×Nat}(h:Zdg w ps a b D)(hn:0<ps.length)(hR:w.heap[R]?=some (.cells #[.slice none 0 0,.slice none 0 0] T fr))(x y:Value):
  Zdg ((w.setCell ⟨R,0,none⟩ x).setCell ⟨R,1,none⟩ y) ps a b D:=by
 have hc:∀ p:Addr,p.block≠R→((w.setCell ⟨R,0,none⟩ x).setCell ⟨R,1,none⟩ y).cell? p=w.cell? p:=fun p hp=>by
  rw[World.cell?_setCell_other _ _ _ _ (fun e=>hp (by rw[← e])),World.cell?_setCell_other _ _ _ _ (fun e=>hp (by rw[← e]))]
 have hs:((w.setCell ⟨R,0,none⟩ x).setCell ⟨R,1,none⟩ y).heap.size=w.heap.size:=by rw[World.size_setCell,World.size_setCell]
 refine⟨Zww hc hs hR h.rp fun v hv=>?_,?_⟩
 ·obtain⟨z,_,rfl⟩:=List.mem_map.1 hv;exact⟨(fun e=>by cases e),(fun e=>by cases e)⟩
 ·obtain⟨bs,os,e1,e2,e3⟩:=h.rl;refine⟨bs,os,e1,by rw[hs];exact e2,fun k hk=>?_⟩
  obtain⟨a',c',e4,e5⟩:=e3 k hk;refine⟨a',c',Zm1 hc hR e4 (fun e=>by simp only[Value.slice.injEq] at e;omega) (fun e=>by simp only[Value.slice.injEq] at e;omega),Zww hc hs hR e5 fun v hv=>?_⟩
  unfold Kg Qf at hv;obtain⟨z,_,hz⟩:=List.mem_flatMap.1 hv;simp only[List.mem_cons,List.not_mem_nil,or_false] at hz;rcases hz with rfl | rfl<;>exact⟨(fun e=>by cases e),(fun e=>by cases e)⟩
theorem Zt5(w:World)(ps:List Int)(l:List (List Rat))(s:ByteArray)(a0 al:Option Addr)(c0 cl:Nat)(D:Ye ps l)(hp:Qv ps=0)(hi:Zf3 ps)(hn:ps.length≤100)(hl:l.length≤26)(rp:Rd w a0 (Qw ps))(A:Zrh w ps.length al l)(hv:chk (lb s)=0)
  (hx:¬ ∀ x∈lb s,ixB x<l.length) (L:Qx w) :
  Kc Tryz.prog 25 #[.slice a0 ps.length c0,.string s,.slice al l.length cl] w (.tuple #[.agg #[.slice none 0 0,.slice none 0 0],.int .i64 5]):=by
 unfold Kc;obtain⟨hs0,hs60⟩:=Zaj s hv;have HC:Hid (∀ W,Below w.heap.size w W→Kc Tryz.prog 20 #[.slice a0 ps.length c0,.slice al l.length cl] W (.int .i64 0)):=fun W hW=>Zl2 c0 cl D hp hi hn (by omega) (rp.below hW nr_) (A.below hW nr_) (L.below hW)
 have HK:=hd_ (fun W=>Zbq s W 0 hv.symm)
 have Hix:=hd_ (fun k (hk:k<s.size)=>Zcw hv hk)
 have Hbad:Hid (¬ ∀ k (hk:k<s.size),ixB s[k]<l.length):=fun h=>hx fun x hx=>by
  obtain⟨k,hk,rfl⟩:=List.mem_iff_getElem.1 hx;rw[Kr] at hk;rw[Vf s k hk];exact h k hk
 clear D hp hi rp A hv hx L;generalize ps.length=n at *
 generalize l.length=m at *
 have B0:=hd_ ((Below.refl w.heap.size w).alloc nr_ (.cells #[.slice none 0 0,.slice none 0 0] 62));have P0:=hd_ (Kq w #[.slice none 0 0,.slice none 0 0] 62 _ rfl);go_enter Tryz.func25,Tryz.ntmps25
 go_wp2_with fail
 generalize w.alloc (.cells #[.slice none 0 0,.slice none 0 0] 62)=w0 at *
 refine cm_ (HC.out _ B0.out) ?_;rintro e_ w1 ⟨rfl,hb_⟩;have B1:=hd_ (B0.out.trans (hb_.mono B0.out.size));have P1:=hd_ (Kd P0.out hb_ nr_);clear hb_ HC B0 P0
 go_wp2_with fail
 refine cm_ (HK.out _) ?_;rintro e_ w2 ⟨rfl,hb_⟩;have B2:=hd_ (B1.out.trans (hb_.mono B1.out.size));have P2:=hd_ (Kd P1.out hb_ nr_);clear hb_ HK B1 P1
 go_wp2_with fail
 go_loopw [37] (fun z wr=>∃ k:Nat,k≤s.size∧z = .int .i64 k∧wr=w2∧Hid (∀ j (hj:j<s.size),j<k→ixB s[j]<m)) (fun z _=>s.size-(intOf z).toNat)
 case atStart=>exact⟨0,Nat.zero_le _,rfl,rfl,fun j _ hj=>absurd hj (Nat.not_lt_zero _)⟩
 case round =>
  obtain⟨k,hk,rfl,hwr,HJ⟩:=hrel;subst hwr
  by_cases hlt:k<s.size
  ·obtain⟨hc1,hc2,-⟩:=Hix.out k hlt;obtain⟨j,hj⟩:∃ j,ixB s[k]=j:=⟨_,rfl⟩;rw[hj] at hc1 hc2;have Hj:=hd_ hj;clear hj;have hw8:IntKind.u8.wrap ((s[k].toNat:Int)-97)=(j:Int):=by
    rw[hc1,IntKind.wrap_u8];omega
   have hs256:(s[k].toNat:Int)<256:=by omega
   by_cases hjm:j<m
   ·have hjm':¬ (m:Int)≤j:=by omega
    have HJ2:Hid (∀ j (hj:j<s.size),j<k+1→ixB s[j]<m):=fun i hi hik=>by
     rcases Nat.lt_or_ge i k with h|h
     ·exact HJ.out i hi h
     ·obtain rfl:i=k:=by omega
      rw[Hj.out];exact hjm
    clear HJ
    go_wp2_with fail
    go_roundw
    case rel=>exact⟨k+1,by omega,by go_num,trivial,HJ2⟩
    case measure=>simp[intOf];omega
   ·have hjm':(m:Int)≤j:=by omega
    obtain⟨k0,k1,f0,f1⟩:=Ka P2.out;clear HJ Hbad
    go_wp2_with fail
    obtain⟨q0,q1,hb3⟩:=Qc (B:=w.heap.size) (.slice none 0 0) (.slice none 0 0) k0 k1 (by omega) B2.out
    generalize (wr.setCell ⟨w.heap.size,0,none⟩ (.slice none 0 0)).setCell ⟨w.heap.size,1,none⟩ (.slice none 0 0)=w9 at *
    exact bodyPost_ret (v := .tuple #[.agg #[.slice none 0 0,.slice none 0 0],.int .i64 5]) (by simp[results,Tryz.results25,go_sem,q0,q1]) rfl ⟨rfl,hb3⟩
  ·exfalso;exact Hbad.out fun i hi=>HJ.out i hi (by omega)
theorem Zwe(w:World)(ps:List Int)(l:List (List Rat))(s:ByteArray)(a0 al:Option Addr)(c0 cl:Nat)(D:Ye ps l)(hp:Qv ps=0)(h13:∀ p∈ps,2≤p∧p≤13)(small:∀ p∈ps,p∈Zw)(nd:ps.Nodup)(hn:ps.length≤100)(hl:l.length≤26)
  (rp:Rd w a0 (Qw ps)) (A:Zrh w ps.length al l) (hv:chk (lb s)=0) (h14:s.size≤14) (hx:∀ x∈lb s,ixB x<l.length) (L:Qx w) :
  Calls Tryz.prog 25 #[.slice a0 ps.length c0,.string s,.slice al l.length cl] w fun e w'=>∃ a c b d,e = .returned (.tuple #[.agg #[.slice a ps.length c,.slice b s.size d],.int .i64 0])∧Zdg w' ps a b (Zf2 l (lb s))∧Below w.heap.size w w':=by
 obtain⟨hs0,hs60⟩:=Zaj s hv;have hi:Zf3 ps:=fun x hx=>by have:=h13 x hx;omega
 have hn0:0<ps.length:=(Zbm hp).1;have hps:=Zak small;have O:=Zt8 (s:=lb s) D hp h13 small nd hn (by rw[Kr];exact hs0) (by rw[Kr];exact h14) hx
 have HC:Hid (∀ W,Below w.heap.size w W→Kc Tryz.prog 20 #[.slice a0 ps.length c0,.slice al l.length cl] W (.int .i64 0)):=fun W hW=>Zl2 c0 cl D hp hi hn (by omega) (rp.below hW nr_) (A.below hW nr_) (L.below hW)
 have HK:=hd_ (fun W=>Zbq s W 0 hv.symm)
 have Hix:=hd_ (fun k (hk:k<s.size)=>Zcw hv hk)
 have Hfit:Hid (∀ k (hk:k<s.size),ixB s[k]<l.length):=fun k hk=>hx _ (by rw[← Vf s k hk];exact List.getElem_mem _)
 have HSg:Hid (∀ W k a c,Below w.heap.size w W→k<l.length→Rd W a (Kg (l.getD k []))→Kc Tryz.prog 23 #[.slice a0 ps.length c0,.slice a ps.length c] W (.tuple #[.int .i64 1,.int .i64 0])):=fun W k a c hW hk r=>by
  have hm:=Kl hk;have:=Zoh c0 c hp hn h13 (rp.below hW nr_) r (D.len _ hm) (D.sm2 _ hm) ((D.sml _ hm).good (by decide) (Zgz (by decide)) small nd) (L.below hW)
  rw[D.pos _ hm] at this;exact this
 have HCm:Hid (∀ W k a c a' c',Below w.heap.size w W→k+1<l.length→Rd W a (Kg (l.getD (k+1) []))→Rd W a' (Kg (l.getD k []))→Kc Tryz.prog 24 #[.slice a0 ps.length c0,.slice a ps.length c,.slice a' ps.length c'] W (.tuple #[.int .i64 (-1),.int .i64 0])):=fun W k a c a' c' hW hk r1 r2=>by
  have m1:=Kl hk;have m2:=Kl (show k<l.length by omega)
  have hg:=Sml.comb (by decide) (D.sml _ m1) (D.sml _ m2) 1 (-1)
  have:=Ztx c0 c c' hp h13 hn (rp.below hW nr_) r1 r2 (D.len _ m1) (D.len _ m2) (D.sm30 _ m1) (D.sm30 _ m2) ((show Sml _ 12 (Zs (l.getD (k+1) []) (l.getD k [])) from hg).good (by decide) (Zgz (by decide)) small nd) (L.below hW)
  rw[Zgm hps (by rw[D.len _ m1,D.len _ m2]),Zef D.dec (Nat.lt_succ_self k) hk] at this
  exact this
 have HZ:Hid (∀ W,Below w.heap.size w W→Calls Tryz.prog 39 #[.slice a0 ps.length c0] W fun e w'=>∃ a c,e = .returned (.tuple #[.slice a ps.length c,.int .i64 0])∧Rd w' a (Kg (psL ps.length (Zf2 l (lb s)) 0))∧Below W.heap.size W w'):=fun W hW=>by
  have:=Zmn W a0 c0 ps (rp.below hW nr_) hi (by omega) hp (L.below hW)
  unfold Zci at this;rw[List.length_replicate] at this;refine cm_ this ?_;rintro e w' ⟨a,c,rfl,ho,hb⟩;exact⟨a,c,rfl,ho.rd,hb⟩
 have HCl:Hid (∀ W,Below w.heap.size w W→Calls Tryz.prog 83 #[.slice a0 ps.length c0] W fun e w'=>∃ a d,e = .returned (.slice a ps.length d)∧Rd w' a (Qw ps)∧Below W.heap.size W w'):=fun W hW=>Zsj W a0 c0 ps (rp.below hW nr_) (by omega) hn0
 have HAd:Hid (∀ W k a c a' c',Below w.heap.size w W→k<s.size→Rd W a (Kg (psL ps.length (Zf2 l (lb s)) k))→Rd W a' (Kg ((Zf2 l (lb s)).getD k []))→Calls Tryz.prog 40 #[.slice a0 ps.length c0,.slice a ps.length c,.slice a' ps.length c'] W fun e w'=>∃ a c,e = .returned (.tuple #[.slice a ps.length c,.int .i64 0])∧Zu w' W.heap.size a c (psL ps.length (Zf2 l (lb s)) (k+1))∧Below W.heap.size W w'):=fun W k a c a' c' hW hk r1 r2=>by
  have hk':k<(Zf2 l (lb s)).length:=by rw[Vk,Kr];exact hk
  have m:=Kl hk';exact Zuf W ps a0 a a' c0 c c' _ _ (rp.below hW nr_) hi hp r1 r2 (O.plen k (by omega)) (O.len _ m) (O.psm (by omega)) (O.dsm _ m) (O.psm (k:=k+1) (by omega)) (L.below hW)
 have HSc:Hid (∀ W a b c d,Below w.heap.size w W→Zdg W ps a b (Zf2 l (lb s))→Kc Tryz.prog 26 #[.agg #[.slice a ps.length c,.slice b s.size d]] W (.int .i64 0)):=fun W a b c d hW A=>by
  have:=Zdm W ps 480 12 _ a b c d O A (L.below hW)
  rw[Vk,Kr] at this;exact this
 have Hget:Hid (∀ k (hk:k<s.size),(Zf2 l (lb s)).getD k []=l.getD (ixB s[k]) []):=fun k hk=>by
  rw[Zc9 l (lb s) (by rw[Kr];exact hk),(Zcw hv hk).2.2]
 have Hpl:Hid (∀ k,k≤s.size→(psL ps.length (Zf2 l (lb s)) k).length=ps.length):=fun k hk=>O.plen k (by rw[Vk,Kr];exact hk)
 have HN:Hid (Zzt ps.length (Zf2 l (lb s))=(List.range s.size).map fun k=>psL ps.length (Zf2 l (lb s)) (k+1)):=by
  show _=_
  unfold Zzt;rw[Vk,Kr]
 obtain⟨b,off,rfl,hb,hcl⟩:∃ b off,al=some ⟨b,off,none⟩∧b<w.heap.size∧∀ k,k<l.length→∃ a' c',w.cell? ⟨b,off+k,none⟩=some (.slice a' ps.length c')∧Rd w a' (Kg (l.getD k [])):=by
  rcases A with h|h
  ·exfalso;have:=Hfit.out 0 hs0
   rw[h] at this;simp at this
  ·exact h
 have HA:=hd_ hcl;have Hbl:Hid ((Zf2 l (lb s)).length=s.size):=by show _=_;rw[Vk,Kr]
 have Hplen:=hd_ (show ps.length=ps.length from rfl)
 clear D hp h13 small nd rp A hv hx L O hcl hps hi;generalize Zf2 l (lb s)=DD at *
 have B0:=hd_ ((Below.refl w.heap.size w).alloc nr_ (.cells #[.slice none 0 0,.slice none 0 0] 62));have P0:=hd_ (Kq w #[.slice none 0 0,.slice none 0 0] 62 _ rfl);obtain⟨m,hm⟩:∃ m,l.length=m:=⟨_,rfl⟩;rw[hm] at HC hl HSg HCm Hfit HA ⊢;clear hm;go_enter Tryz.func25,Tryz.ntmps25
 go_wp2_with fail
 generalize w.alloc (.cells #[.slice none 0 0,.slice none 0 0] 62)=w0 at *
 refine cm_ (HC.out _ B0.out) ?_;rintro e_ w1 ⟨rfl,hb_⟩;have B1:=hd_ (B0.out.trans (hb_.mono B0.out.size));have P1:=hd_ (Kd P0.out hb_ nr_);clear hb_ HC B0 P0
 go_wp2_with fail
 refine cm_ (HK.out _) ?_;rintro e_ w2 ⟨rfl,hb_⟩;have B2:=hd_ (B1.out.trans (hb_.mono B1.out.size));have P2:=hd_ (Kd P1.out hb_ nr_);clear hb_ HK B1 P1
 go_wp2_with fail
 go_loopw [37] (fun z wr=>∃ k:Nat,k≤s.size∧z = .int .i64 k∧wr=w2) (fun z _=>s.size-(intOf z).toNat)
 case atStart=>exact⟨0,Nat.zero_le _,rfl,rfl⟩
 case round =>
  obtain⟨k,hk,rfl,hwr⟩:=hrel;have hwr':=hwr.symm;clear hwr;subst hwr'
  by_cases hlt:k<s.size
  ·obtain⟨hc1,hc2,-⟩:=Hix.out k hlt;have hjm:=Hfit.out k hlt;generalize ixB s[k]=j at *
   have hw8:IntKind.u8.wrap ((s[k].toNat:Int)-97)=(j:Int):=by
    rw[hc1,IntKind.wrap_u8];omega
   have hs256:(s[k].toNat:Int)<256:=by omega
   have hjm':¬ (m:Int)≤j:=by omega
   go_wp2_with fail
   go_roundw
   case rel=>exact⟨k+1,by omega,by go_num,trivial⟩
   case measure=>simp[intOf];omega
  ·have hlt':¬ (k:Int)<s.size:=by omega
   go_wp2_with fail
   go_loopw [52] (fun z wr=>∃ i:Nat,i≤m∧z = .int .i64 i∧Hid (Below w.heap.size w wr)∧Hid (Below w2.heap.size w2 wr)) (fun z _=>m-(intOf z).toNat)
   case atStart=>exact⟨0,Nat.zero_le _,rfl,B2,Below.refl _ _⟩
   case round =>
    obtain⟨i,hi,rfl,HB,HB2⟩:=hrel
    by_cases hlt2:i<m
    ·have hlt2':(i:Int)<m:=by omega
     obtain⟨a',c',k2,r2⟩:=HA.out i hlt2;have k2':=(HB.out.cell (p:=⟨b,off+i,none⟩) hb).trans k2;have R2:=hd_ (r2.below HB.out nr_);have HS1:=hd_ (HSg.out wr i a' c' HB.out hlt2 R2.out);clear k2 r2
     go_wp2_with fail
     clear k2';refine cm_ HS1.out ?_;rintro e_ w3 ⟨rfl,hb_⟩;have B3:=hd_ (HB.out.trans (hb_.mono HB.out.size));have D3:=hd_ (HB2.out.trans (hb_.mono HB2.out.size));have R3:=hd_ (R2.out.below hb_ nr_);clear hb_ HS1 HB HB2 R2;rcases Nat.eq_zero_or_pos i with hz|hz
     ·subst hz
      go_wp2_with fail
      go_roundw
      case rel=>exact⟨1,by omega,rfl,B3,D3⟩
      case measure=>simp[intOf];omega
     ·obtain⟨j,rfl⟩:∃ j,i=j+1:=⟨i-1,by omega⟩
      have hz':(((j+1:Nat):Int)==0)=false:=by rw[beq_eq_false_iff_ne];omega
      have hwj:IntKind.i64.wrap (((j+1:Nat):Int)-1)=(j:Nat):=by rw[show (((j+1:Nat):Int)-1)=(j:Nat) by omega];exact iw_ _ (by omega)
      obtain⟨a4,c4,k4,r4⟩:=HA.out j (by omega)
      have k4':=(B3.out.cell (p:=⟨b,off+j,none⟩) hb).trans k4;have HC1:=hd_ (HCm.out w3 j a' c' a4 c4 B3.out hlt2 R3.out (r4.below B3.out nr_));clear k4 r4
      go_wp2_with fail
      clear k4';refine cm_ HC1.out ?_;rintro e_ w4 ⟨rfl,hb_⟩;have B4:=hd_ (B3.out.trans (hb_.mono B3.out.size));have D4:=hd_ (D3.out.trans (hb_.mono D3.out.size));clear hb_ HC1 B3 D3 R3
      go_wp2_with fail
      go_roundw
      case rel=>exact⟨j+1+1,by omega,by go_num,B4,D4⟩
      case measure=>simp[intOf];omega
    ·have hlt2':¬ (i:Int)<m:=by omega
     have P3:=hd_ (Kd P2.out HB2.out nr_);clear HSg HCm P2 HB2
     go_wp2_with fail
     refine cm_ (HZ.out _ HB.out) ?_;rintro e_ w3 ⟨az,cz,rfl,hrz,hb_⟩;have B3:=hd_ (HB.out.trans (hb_.mono HB.out.size));have P3:=hd_ (Kd P3.out hb_ nr_);have RZq:=hd_ hrz;clear hb_ hrz HZ HB
     go_wp2_with fail
     refine cm_ (HCl.out _ B3.out) ?_;rintro e_ w5 ⟨gp,cp,rfl,hrp,hb_⟩;have B5:=hd_ (B3.out.trans (hb_.mono B3.out.size));have P5:=hd_ (Kd P3.out hb_ nr_);have RZq:=hd_ (RZq.out.below hb_ nr_);have Rp:=hd_ hrp;clear hb_ hrp HCl B3 P3
     go_wp2_with fail
     have hE5:=hd_ (B5.out.size);obtain⟨E,hE⟩:∃ E,w5.heap.size=E:=⟨_,rfl⟩;have X0:Hid (Zuk (w5.alloc (.cells #[.slice gp ps.length cp,.slice none 0 0] 62)) E (.slice gp ps.length cp) (.slice none 0 0)):=Zuk.of (Kq _ _ _ _ hE);have D0:Hid (Below E w5 (w5.alloc (.cells #[.slice gp ps.length cp,.slice none 0 0] 62))):=(Below.refl _ _).alloc (by omega) _
     have hsz0:E<(w5.alloc (.cells #[.slice gp ps.length cp,.slice none 0 0] 62)).heap.size:=by simp;omega
     have RZ0:=hd_ (RZq.out.below D0.out (Nat.le_of_eq hE));rw[hE] at hE5 ⊢;generalize w5.alloc (.cells #[.slice gp ps.length cp,.slice none 0 0] 62)=w6 at *
     clear RZq
     go_loopw [17,97] (fun q z wr=>∃ (k:Nat) (bo:Option Addr) (d:Nat) (LL:List (Option Addr×Nat)) (a:Option Addr) (c:Nat),k≤s.size∧z = .int .i64 k∧q = .slice a ps.length c∧Hid (LL.length=k)∧Hid (Zuk wr E (.slice gp ps.length cp) (.slice bo LL.length d)) ∧
      Hid (Zkl wr (E+1) bo d ps.length LL ((List.range k).map fun i=>psL ps.length DD (i+1)))∧Hid (Rd wr a (Kg (psL ps.length DD k)))∧Hid (Below E w5 wr)∧E<wr.heap.size) (fun _ z _=>s.size-(intOf z).toNat)
     case atStart=>exact⟨0,none,0,[],az,cz,Nat.zero_le _,rfl,rfl,rfl,X0,⟨by simp,World.ownsRow_nil ..,fun i h=>absurd h (Nat.not_lt_zero _),fun x hx=>by simp at hx⟩,RZ0,D0,hsz0⟩
     case round =>
      clear X0 D0 hsz0 RZ0;obtain⟨k,bo,d,LL,a,c,hk,rfl,rfl,HL,HX,HO,HR,HB,hsz⟩:=hrel;have Bw:=hd_ (B5.out.trans (HB.out.mono hE5.out))
      by_cases hlt3:k<s.size
      ·have hlt3':(k:Int)<s.size:=by omega
       obtain⟨hc1,hc2,-⟩:=Hix.out k hlt3;have hjm:=Hfit.out k hlt3;have hge:=hd_ (Hget.out k hlt3);generalize ixB s[k]=j at *
       have hw8:IntKind.u8.wrap ((s[k].toNat:Int)-97)=(j:Int):=by
        rw[hc1,IntKind.wrap_u8];omega
       have hs256:(s[k].toNat:Int)<256:=by omega
       have hjm':(j:Int)<m:=by omega
       obtain⟨a',c',k2,r2⟩:=HA.out j hjm;have k2':=(Bw.out.cell (p:=⟨b,off+j,none⟩) hb).trans k2;have R2:=hd_ (r2.below Bw.out nr_);rw[← hge.out] at R2;have HA1:=hd_ (HAd.out wr k a c a' c' Bw.out hlt3 HR.out R2.out);have hpl1:=hd_ (Hpl.out (k+1) (by omega))
       clear k2 r2 R2 HR hge
       go_wp2_with fail
       clear k2';refine cm_ HA1.out ?_;rintro e_ w9 ⟨an,cn,rfl,ho_,hb_⟩;have B9:Hid (Below wr.heap.size wr w9):=hb_;have O9:=hd_ (HO.out.below B9.out);have X9:=hd_ (HX.out.kept (B9.out.block E hsz));have HQ:Hid (Zu w9 (E+1) an cn (psL ps.length DD (k+1))):=Zu.lowerD ho_ (by omega)
       have hsz9:E+1≤w9.heap.size:=by have:=B9.out.size;omega
       have kk:=X9.out.c1;have hLL:LL.length≤14:=by have:=HL.out;omega
       clear ho_ hb_ HA1 HO HX
       go_wp2_with (at_builtin;refine Km rfl (.tmp 118) (.tmp 120) 54 rfl Zh8 _ 1 [.slice an ps.length cn] rfl rfl O9.out.row hsz9 rfl ?c1 (by omega) (by omega) ?_)
       case c1=>first | rfl | (intro u hu;obtain rfl:=List.mem_singleton.1 hu;rfl)
       intro v' w10 hown hg hnl;obtain⟨b',d',rfl,OW⟩:=Zkl.put O9.out HQ.out hpl1.out hown hg;have B10:Hid (Below (E+1) w9 w10):=((Below.refl _ w9).alloc hsz9 _).grown hg (by simp;omega) (fun k hk=>(O9.out.row.lt k hk).1)
       have X10:=hd_ (X9.out.kept (B10.out.block E (by omega)))
       have hs10:=B10.out.size;have Hl8:Hid ((LL++[(an,cn)]).length=k+1):=by show (LL++[(an,cn)]).length=_;rw[List.length_append,HL.out];rfl
       have OW10:Hid (Zkl w10 (E+1) b' d' ps.length (LL++[(an,cn)]) ((List.range (k+1)).map fun i=>psL ps.length DD (i+1))):=by
        rw[List.range_succ,List.map_append,List.map_singleton];exact OW
       have e8:LL.length+1=(LL++[(an,cn)]).length:=by simp
       have hsB:=B9.out.size;clear hown hg OW hnl O9 X9 HQ;rw[e8];have X11:=hd_ (X10.out.set (.slice b' (LL++[(an,cn)]).length d'));have O11:=hd_ (OW10.out.keptE (Zls w10 E (.slice b' (LL++[(an,cn)]).length d')) (Nat.lt_succ_self E));have B11:Hid (Below E w5 (w10.setCell ⟨E,1,none⟩ (.slice b' (LL++[(an,cn)]).length d'))):=((HB.out.trans (B9.out.mono (Nat.le_of_lt hsz))).trans (B10.out.mono (Nat.le_succ E))).setCell (p:=⟨E,1,none⟩) nr_ _;have hs11:E<(w10.setCell ⟨E,1,none⟩ (.slice b' (LL++[(an,cn)]).length d')).heap.size:=by rw[World.size_setCell];omega
       have R11:Hid (Rd (w10.setCell ⟨E,1,none⟩ (.slice b' (LL++[(an,cn)]).length d')) an (Kg (psL ps.length DD (k+1)))):=by
        have h:=(O11.out.each k (by rw[Hl8.out];omega) (by simp)).rd
        simp only[List.getElem_map,List.getElem_range] at h;have hk2:(LL++[(an,cn)])[k]'(by rw[Hl8.out];omega)=(an,cn):=by
         rw[List.getElem_append_right (by rw[HL.out];exact Nat.le_refl _)]
         simp
        rw[hk2] at h;exact h
       have k1:=X10.out.c1;have f1:=X10.out.f1;generalize (LL++[(an,cn)])=LM at *
       clear e8 OW10
       go_wp2_with fail
       clear k1 f1 kk X10;generalize w10.setCell ⟨E,1,none⟩ (.slice b' LM.length d')=w11 at *
       go_roundw
       case rel=>exact⟨k+1,b',d',LM,an,cn,by omega,by go_num,rfl,Hl8,X11,O11,R11,B11,hs11⟩
       case measure=>simp[intOf];omega
      ·have hlt3':¬ (k:Int)<s.size:=by omega
       have hke:k=s.size:=by omega
       have AS:Hid (Zdg wr ps gp bo DD):=by
        refine⟨Rp.out.below HB.out (Nat.le_of_eq hE),?_⟩;obtain⟨bs,os,h1,h2,h3⟩:=Zk9 HO.out.rdl HO.out.lens (by simp;omega)
        refine⟨bs,os,h1,h2,fun i hi=>?_⟩
        rw[Hbl.out] at hi;obtain⟨a',c',h4,h5⟩:=h3 i (by simp;omega)
        refine⟨a',c',h4,?_⟩;rw[List.getD_eq_getElem?_getD,List.getElem?_map,List.getElem?_range (by omega)] at h5
        exact h5
       have hLk:LL.length=s.size:=by rw[HL.out,hke]
       rw[hLk] at HX;have HS1:=hd_ (HSc.out wr gp bo cp d Bw.out AS.out);have k0:=HX.out.c0;have k1:=HX.out.c1;clear HL HO hLk HAd
       go_wp2_with fail
       clear k0 k1;refine cm_ HS1.out ?_;rintro e_ w7 ⟨rfl,hb_⟩;have B7:=hd_ (Bw.out.trans (hb_.mono Bw.out.size));have A7:=hd_ (AS.out.below hb_ nr_);have X7:=hd_ (HX.out.kept (hb_.block E hsz));have P7:=hd_ (Kd P5.out (HB.out.trans (hb_.mono (Nat.le_of_lt hsz))) (by have:=hE5.out;omega))
       clear hb_ HS1 HX;have k0:=X7.out.c0;have k1:=X7.out.c1;obtain⟨r0,r1,f0,f1⟩:=Ka P7.out
       go_wp2_with fail
       obtain⟨q0,q1,hb3⟩:=Qc (B:=w.heap.size) (.slice gp ps.length cp) (.slice bo s.size d) r0 r1 (by omega) B7.out
       have AF:Hid (Zdg ((w7.setCell ⟨w.heap.size,0,none⟩ (.slice gp ps.length cp)).setCell ⟨w.heap.size,1,none⟩ (.slice bo s.size d)) ps gp bo DD):=A7.out.stored hn0 P7.out _ _;generalize (w7.setCell ⟨w.heap.size,0,none⟩ (.slice gp ps.length cp)).setCell ⟨w.heap.size,1,none⟩ (.slice bo s.size d)=w9 at *
       exact bodyPost_ret (v := .tuple #[.agg #[.slice gp ps.length cp,.slice bo s.size d],.int .i64 0]) (by simp[results,Tryz.results25,go_sem,q0,q1]) rfl ⟨gp,cp,bo,d,rfl,AF.out,hb3⟩
end Go.Proofs.YtbielfplgbammaaGreatDoor

namespace Go.Proofs.YtbielfplgbammaaGreatDoor
open Go Go.Sort
section
variable {P:Program} {ops:Array Oper} {md:Region.Mode} {C:World→Prop}
def Zb7:Op→Bool
 | .move _ | .assign _ | .load _ _ | .fieldAddr _ _ _ | .indexAddr _ _ _ | .extract _ _ | .binOp _ _ _ _ _ | .convert _ _ _ | .slice _ _ _ _ _=>true
 | _=>false
theorem Zga{s:Sem Value}{w w':World}{f:FuncId}{args:Array Value}(h:(do pure (Next.value (← s)):Sem Next).run P w = .ok (.enter f args) w'):False:=by
 simp only[Sem.run_bind,Sem.run_pure] at h;cases hs:s.run P w with
 | ok v w1=>rw[hs] at h;simp[Result.andThen] at h
 | halt x w1=>rw[hs] at h;simp[Result.andThen] at h
theorem Zsp{o:Oper}{a:Act}{w w':World}{f:FuncId}{args:Array Value}(ho:Zb7 o.op=true)(h:(execOp a.eval o).run P w = .ok (.enter f args) w'):False:=by
 have cases5:(∃ x,o.op = .move x)∨(∃ x,o.op = .assign x)∨(∃ t x,o.op = .load t x)∨(∃ t x k,o.op = .fieldAddr t x k)∨(∃ t x y,o.op = .indexAddr t x y)∨(∃ x k,o.op = .extract x k)∨(∃ b t x y r,o.op = .binOp b t x y r)∨(∃ s d x,o.op = .convert s d x)∨(∃ s x l h m,o.op = .slice s x l h m):=by
  cases hop:o.op<;>rw[hop] at ho<;>first | (simp[Zb7] at ho;done) | simp
 rcases cases5 with⟨x,hop⟩|⟨x,hop⟩|⟨t,x,hop⟩|⟨t,x,k,hop⟩|⟨t,x,y,hop⟩|⟨x,k,hop⟩|⟨b,t,x,y,r,hop⟩|⟨s,d,x,hop⟩|⟨s,x,lo,hi,mx,hop⟩
 ·rw[BigFrame.run_move x hop] at h;cases h
 ·rw[BigFrame.run_assign x hop] at h;cases h
 all_goals
  unfold execOp at h;rw[hop] at h;exact Zga h
theorem Zgq{o:Oper}{a:Act}{w:World}{v:Value}(ho:Zb7 o.op=true)(h:o.quietAt P a C w v){K:Act→World→Prop}(hk:K (a.put o.dst v) w):o.wp P a w K (fun _ _ _=>False):=by
 unfold Oper.quietAt at h;unfold Oper.wp;have hne:=@Zsp P o a w;generalize (execOp a.eval o).run P w=r at *
 cases r with
 | ok n w' =>
  cases n<;>simp only[Oper.quietUpon] at h<;>simp only[Oper.upon]
  case value u=>obtain⟨rfl,rfl⟩:=h;exact hk
  case skip=>obtain⟨rfl,rfl⟩:=h;exact hk
  case enter f args=>exact(hne ho rfl).elim
 | halt x w'=>simp only[Oper.quietUpon] at h
def Zct (C:World→Prop) (s:Nat) (listed:Array Bool) (w:World):Prop:=listed.getD s false=true∨C w
def Zrc (P:Program) (md:Region.Mode) (ops:Array Oper) (C:World→Prop) (s:Nat) (Q:Act→World→Prop):Nat→Array Bool→Act→World→Prop
 | 0,listed,a,w=>Region.ready md ops listed=[]∧Q a w
 | f+1,listed,a,w=>Region.ready md ops listed≠[]∧∀ i∈Region.ready md ops listed,
   wpOp P ops (fun _ _ _=>False) i (fun a' w'=>Zct C s (listed.setIfInBounds i true) w'∧Zrc P md ops C s Q f (listed.setIfInBounds i true) a' w') a w
theorem Zpn{o:Oper}{a:Act}{w:World}{K:Act→World→Prop}{Q':Exit→Act→World→Prop}(h:o.wp P a w K (fun _ _ _=>False)):o.wp P a w K Q':=by
 unfold Oper.wp at *
 generalize (execOp a.eval o).run P w=r at *
 cases r with
 | ok n w' =>
  cases n<;>simp only[Oper.upon] at h ⊢ <;>
   first
    | exact h
    | exact cm_ h (fun e w'' he=>by cases e<;>first | exact he | exact he.elim | (obtain⟨_,_,hf⟩:=he;exact hf.elim))
    | exact Rows.mono h (fun _ _ he=>he)
 | halt x w'=>cases x<;>simp only[Oper.upon] at h<;>exact h.elim
theorem Zko{i:Nat}{a:Act}{w:World}{K K':Act→World→Prop}{Q':Exit→Act→World→Prop}(hk:∀ a w,K a w→K' a w)(h:wpOp P ops (fun _ _ _=>False) i K a w):wpOp P ops Q' i K' a w:=by
 unfold wpOp at *
 split
 ·rename_i ho;simp only[ho] at h;exact hk _ _ h
 ·rename_i o ho
  simp only[ho] at h;split
  ·rename_i hw
   simp only[hw,if_true] at h;rcases h with h|⟨_,_,_,hf⟩
   ·exact .inl (Oper.wp_mono hk (Zpn h))
   ·exact hf.elim
  ·rename_i hw;simp only[hw] at h;exact hk _ _ h
theorem Zkp{i:Nat}{a:Act}{w:World}{K:Act→World→Prop}{Q':Exit→Act→World→Prop}(hq:∀ e a w,Q' e a w→e = .normal)(h:wpOp P ops Q' i K a w):wpOp P ops (fun _ _ _=>False) i K a w:=by
 have hout:¬ LetsOut Q':=fun ⟨a,w,h⟩=>by have:=hq _ _ _ h;cases this
 unfold wpOp at *
 split
 ·rename_i ho;simp only[ho] at h;exact h
 ·rename_i o ho
  simp only[ho] at h;split
  ·rename_i hw
   simp only[hw,if_true] at h;rcases h with h|⟨_,h⟩
   ·left;unfold Oper.wp at *
    generalize (execOp a.eval o).run P w=r at *
    cases r with
    | ok n w' =>
     cases n<;>simp only[Oper.upon] at h ⊢ <;>
      first
       | exact h
       | exact cm_ h (fun e w'' he=>by cases e<;>first | exact he | (have:=hq _ _ _ he;cases this) | exact absurd he hout)
       | exact Rows.mono h (fun _ _ he=>he)
    | halt x w'=>cases x<;>simp only[Oper.upon] at h<;>first | exact h.elim | (have:=hq _ _ _ h;cases this)
   ·exact absurd h hout
  ·rename_i hw;simp only[hw] at h;exact h
theorem Zmf{s:Nat}{Q:Act→World→Prop}{Q':Exit→Act→World→Prop}(hQ:∀ a w,Q a w→Q' .normal a w):
  ∀ (f:Nat) (listed:Array Bool) (a:Act) (w:World),Zrc P md ops C s Q f listed a w→wpAny P md ops Q' f listed a w
 | 0,_,_,_,h=>⟨h.1,hQ _ _ h.2⟩
 | f+1,_,_,_,h=>⟨fun h0=>absurd h0 h.1,fun i hi=>Zko (fun a' w' h'=>Zmf hQ f _ a' w' h'.2) (h.2 i hi)⟩
structure Zic (md:Region.Mode) (ops:Array Oper) (listed:Array Bool):Prop where
 size:listed.size=ops.size
 closed:∀ j oj,ops[j]?=some oj→listed.getD j false=true→∀ e∈oj.after,Region.binds md e=true→listed.getD e.on false=true
theorem Zic.set{i:Nat}{listed:Array Bool}(inv:Zic md ops listed)(hi:i∈Region.ready md ops listed):Zic md ops (listed.setIfInBounds i true):=by
 obtain⟨_,oi,hoi,hall⟩:=mem_ready.1 hi;refine⟨by simp[inv.size],fun j oj hj hl e he hb=>?_⟩
 by_cases hij:i=j
 ·subst hij;have:oj=oi:=Option.some.inj (hj.symm.trans hoi)
  subst this;exact getD_set_true (hall e he hb)
 ·rw[getD_set_ne false hij] at hl;exact getD_set_true (inv.closed j oj hj hl e he hb)
def Zgx (md:Region.Mode) (ops:Array Oper):Nat→Nat→Nat→Bool
 | 0,_,_=>false
 | f+1,s,i=>match ops[s]? with
  | some o=>o.after.any fun e=>Region.binds md e&&(e.on==i||Zgx md ops f e.on i)
  | none=>false
theorem Zd9{listed:Array Bool}(inv:Zic md ops listed):∀ (f s i:Nat),Zgx md ops f s i=true→listed.getD s false=true→listed.getD i false=true
 | 0,_,_,h,_=>by cases h
 | f+1,s,i,h,hs=>by
  unfold Zgx at h;split at h
  ·rename_i o ho
   obtain⟨e,he,hb⟩:=Array.any_eq_true'.1 h;simp only[Bool.and_eq_true,Bool.or_eq_true,beq_iff_eq] at hb;have hl:=inv.closed s o ho hs e he hb.1;rcases hb.2 with h2|h2
   ·rw[← h2];exact hl
   ·exact Zd9 inv f e.on i h2 hl
  ·cases h
def Yz (P:Program) (ops:Array Oper) (md:Region.Mode) (C:World→Prop) (s i:Nat) (o:Oper) (v:Value) (a:Act):Prop :=
 (Zgx md ops 4 s i=true∧YieldsIn P ops C o v a)∨YieldsIn P ops (fun _=>True) o v a
theorem Yz.of_same{s i:Nat}{o:Oper}{v:Value}{a a':Act}(hy:Yz P ops md C s i o v a)(he:execOp a'.eval o=execOp a.eval o)
  (hw:Region.wanted o (yielded ops a'.tmps)=Region.wanted o (yielded ops a.tmps)):Yz P ops md C s i o v a' :=
 hy.imp (fun ⟨h1,h2⟩=>⟨h1,h2.of_same he hw⟩) (fun h=>h.of_same he hw)
theorem Zk7{s i:Nat}{o:Oper}{v:Value}{a:Act}{w:World}{listed:Array Bool}(hi:ops[i]?=some o)(hne:Zb7 o.op=true)(inv:Zic md ops listed)(hr:i∈Region.ready md ops listed)(hs:Zct C s listed w)
  (hy:Yz P ops md C s i o v a) {K:Act→World→Prop} (hk:K (a.put o.dst v) w):wpOp P ops (fun _ _ _=>False) i K a w:=by
 have key:∀ D:World→Prop,D w→YieldsIn P ops D o v a→wpOp P ops (fun _ _ _=>False) i K a w:=fun D hD h=>by
  unfold wpOp;simp only[hi];rcases h with⟨h1,h2⟩|⟨h1,rfl⟩
  ·simp only[h1,if_true];exact .inl (Zgq hne (h2 w hD) hk)
  ·simp only[h1,Bool.false_eq_true,if_false];exact hk
 rcases hy with⟨hw,h⟩|h
 ·refine key C ?_ h;rcases hs with hs|hs
  ·have:=Zd9 inv 4 s i hw hs
   rw[getD_both (mem_ready.1 hr).1] at this;cases this
  ·exact hs
 ·exact key _ trivial h
theorem Zrk{j:Nat}{oi oj:Oper}{v:Value}(hj:ops[j]?=some oj)(hap:oi.apart ops oj=true)
  (hsi:∀ cs b,oi.op ≠ .select cs b) (hsj:∀ cs b,oj.op ≠ .select cs b) {s i:Nat} {K:Act→World→Prop} {a:Act} {w:World}
  (hy:Yz P ops md C s i oi v a) (h:wpOp P ops (fun _ _ _=>False) j K (a.put oi.dst v) w) :
  wpOp P ops (fun _ _ _=>False) j (fun a' w'=>Yz P ops md C s i oi v a'∧K (a'.put oi.dst v) w') a w:=by
 obtain⟨h1,h2,h3⟩:=Oper.apart_spec hap;have keep:∀ (a:Act),Yz P ops md C s i oi v a→∀ u,Yz P ops md C s i oi v (a.put oj.dst u):=fun a hy u =>
  hy.of_same (execOp_put oi hsi a oj.dst u h3) (wanted_put oi a oj.dst u h3)
 have keepd:∀ d,Yz P ops md C s i oi v ({ a with defers:=d::a.defers }:Act):=fun d=>hy.of_same rfl rfl
 unfold wpOp at *
 simp only[hj] at *
 rw[wanted_put oj a oi.dst v h1] at h;split
 ·rename_i hw
  simp only[hw,if_true] at h;left;rcases h with h|⟨_,_,_,hf⟩
  ·unfold Oper.wp at *
   rw[execOp_put oj hsj a oi.dst v h1] at h;generalize (execOp a.eval oj).run P w=r at *
   cases r with
   | ok n w' =>
    cases n<;>simp only[Oper.upon] at h ⊢
    case value u=>exact⟨keep a hy u,by rw[← Act.put_comm a v u h2];exact h⟩
    case skip=>exact⟨keep a hy undef,by rw[← Act.put_comm a v undef h2];exact h⟩
    case defer d =>
     refine⟨keep _ (keepd d) undef,?_⟩;rw[Act.put_defers] at h;rw[← Act.put_comm _ v undef h2];exact h
    case enter f args =>
     exact cm_ h (fun e w'' he=>by
      cases e
      case returned u=>exact⟨keep a hy u,by rw[← Act.put_comm a v u h2];exact he⟩
      case panicked c=>exact he
      case outgrown=>obtain⟨_,_,hf⟩:=he;exact hf.elim)
    case row row args=>exact Rows.mono h (fun u w'' he=>⟨keep a hy u,by rw[← Act.put_comm a v u h2];exact he⟩)
    all_goals exact h
   | halt x w'=>cases x<;>simp only[Oper.upon] at h<;>exact h.elim
  ·exact hf.elim
 ·rename_i hw
  simp only[hw] at h;exact⟨keep a hy _,by rw[← Act.put_comm a v undef h2];exact h⟩
theorem Znz{s i:Nat}{oi:Oper}{v:Value}{Q:Act→World→Prop}(hi:ops[i]?=some oi)(his:i≠s)(hne:Zb7 oi.op=true)(hsel:∀ (j:Nat) (o:Oper) cs b,ops[j]?=some o→o.op ≠ .select cs b):
  ∀ (f:Nat) (listed:Array Bool) (a:Act) (w:World),Zic md ops listed →
   (∀ j oj,ops[j]?=some oj→j≠i→listed.getD j true=false→(∀ e∈oj.after,Region.binds md e=true→e.on≠i)→oi.apart ops oj=true) →
   i∈Region.ready md ops listed→Yz P ops md C s i oi v a→Zct C s listed w →
   Zrc P md ops C s Q f (listed.setIfInBounds i true) (a.put oi.dst v) w→Zrc P md ops C s Q (f+1) listed a w:=by
 intro f
 induction f with
 | zero =>
  intro listed a w inv _ hr hy hs H;refine⟨fun h=>(by rw[h] at hr;cases hr),fun j hj=>?_⟩
  by_cases hji:j=i
  ·subst hji;exact Zk7 hi hne inv hr hs hy ⟨hs.imp (fun h=>getD_set_true h) id,H⟩
  ·have:=ready_mono hj hji
   rw[H.1] at this;cases this
 | succ f ih =>
  intro listed a w inv hfree hr hy hs H;have hun:=(mem_ready.1 hr).1;refine⟨fun h=>(by rw[h] at hr;cases hr),fun j hj=>?_⟩
  by_cases hji:j=i
  ·subst hji;exact Zk7 hi hne inv hr hs hy ⟨hs.imp (fun h=>getD_set_true h) id,H⟩
  ·have h1:=H.2 j (ready_mono hj hji);obtain⟨hjun,oj,hoj,hall⟩:=mem_ready.1 hj;have hnot:∀ e∈oj.after,Region.binds md e=true→e.on≠i:=fun e he hb heq=>by
    have h1:=hall e he hb;rw[heq,getD_both hun] at h1;cases h1
   have h2:=Zrk hoj (hfree j oj hoj hji hjun hnot) (fun cs b=>hsel i oi cs b hi) (fun cs b=>hsel j oj cs b hoj) hy h1
   have hfree':∀ k ok,ops[k]?=some ok→k≠i→(listed.setIfInBounds j true).getD k true=false →
     (∀ e∈ok.after,Region.binds md e=true→e.on≠i)→oi.apart ops ok=true:=fun k ok hk hki hun hno=>by
    refine hfree k ok hk hki ?_ hno
    by_cases hjk:j=k
    ·subst hjk;exact hjun
    ·rw[getD_set_ne true hjk] at hun;exact hun
   have hr':=ready_mono hr (Ne.symm hji);refine wpOp_mono (fun a' w' h3=>?_) h2
   obtain⟨hy',hs',H'⟩:=h3;have hs2:Zct C s (listed.setIfInBounds j true) w':=by
    rcases hs' with h|h
    ·rw[Array.setIfInBounds_comm _ _ (Ne.symm hji),getD_set_ne false his] at h;exact .inl h
    ·exact .inr h
   refine⟨hs2,ih (listed.setIfInBounds j true) a' w' (inv.set hj) hfree' hr' hy' hs2 ?_⟩;rw[Array.setIfInBounds_comm _ _ hji];exact H'
theorem Zfs{i:Nat}{o:Oper}{a:Act}{D:World→Prop}{K:Act→Prop}(hi:ops[i]?=some o)(h:wpQuiet P ops D K (ops[i]?).toList a):qOp P ops D i K a:=by
 rw[hi] at h;unfold qOp;simp only[hi];exact h
theorem Zed:∀ (l:List Oper) (i:Nat),(l.toArray[i]?).toList=(l.drop i).take 1
 | [],i=>by simp
 | o::l,0=>by simp
 | o::l,i+1=>by
  have:=Zed l i
  simpa using this
end
section
variable {P:Program} {ops:Array Oper} {md:Region.Mode} {C:World→Prop}
inductive Zab where
 | nil:Zab
 | rd:Nat→Nat→Zab→Zab
 | mv:Nat→Zab→Zab
 | two:Nat→Nat→Zab→Zab→Zab
def Zab.len:Zab→Nat
 | .nil=>0
 | .rd _ _ t=>t.len+1
 | .mv _ t=>t.len+1
 | .two _ _ t _=>t.len+1
def Zh3 (md:Region.Mode) (ops:Array Oper) (s:Nat):Zab→Array Bool→Bool
 | .nil,listed=>(Region.ready md ops listed).isEmpty
 | .rd k i t,listed =>
  ((Region.ready md ops listed).contains i&&Region.free md ops listed i&&(match ops[i]? with | some o=>Zb7 o.op | none=>false)&&decide (i≠s)&&(k==2||Zgx md ops 4 s i)) &&
  Zh3 md ops s t (listed.setIfInBounds i true)
 | .mv i t,listed=>decide (Region.ready md ops listed=[i])&&Zh3 md ops s t (listed.setIfInBounds i true)
 | .two i j t u,listed=>(decide (Region.ready md ops listed=[i,j])&&decide (t.len=u.len))&&(Zh3 md ops s t (listed.setIfInBounds i true)&&Zh3 md ops s u (listed.setIfInBounds j true))
def Vg (P:Program) (ops:Array Oper) (C:World→Prop) (s:Nat) (Q:Act→World→Prop):Zab→Bool→Act→World→Prop
 | .nil,_,a,w=>Q a w
 | .rd k i t,b,a,w=>if k=2 then wpQuiet P ops (fun _=>True) (fun a'=>Vg P ops C s Q t b a' w) (ops[i]?).toList a else wpQuiet P ops C (fun a'=>Vg P ops C s Q t b a' w) (ops[i]?).toList a
 | .mv i t,b,a,w=>wpList P ops (fun e a' w'=>e = .normal∧((b||i==s)=true∨C w')∧Vg P ops C s Q t (b||i==s) a' w') (ops[i]?).toList a w
 | .two i j t u,b,a,w =>
  wpList P ops (fun e a' w'=>e = .normal∧((b||i==s)=true∨C w')∧Vg P ops C s Q t (b||i==s) a' w') (ops[i]?).toList a w ∧
  wpList P ops (fun e a' w'=>e = .normal∧((b||j==s)=true∨C w')∧Vg P ops C s Q u (b||j==s) a' w') (ops[j]?).toList a w
theorem Zd7{s i:Nat}{listed:Array Bool}(inv:Zic md ops listed)(hr:i∈Region.ready md ops listed):(listed.setIfInBounds i true).getD s false=(listed.getD s false||i==s):=by
 by_cases his:i=s
 ·subst his;obtain⟨hun,o,ho,_⟩:=mem_ready.1 hr;have hlt:i<listed.size:=by rw[inv.size];exact(Array.getElem?_eq_some_iff.1 ho).1
  simp[hlt]
 ·rw[getD_set_ne false his];simp[his]
theorem Zjm{s j:Nat}{K:Act→World→Prop}{listed:Array Bool}{a:Act}{w:World}(inv:Zic md ops listed)(hr:j∈Region.ready md ops listed)
  (h:wpList P ops (fun e a' w'=>e = .normal∧((listed.getD s false||j==s)=true∨C w')∧K a' w') (ops[j]?).toList a w) :
  wpOp P ops (fun _ _ _=>False) j (fun a' w'=>Zct C s (listed.setIfInBounds j true) w'∧K a' w') a w:=by
 obtain⟨hun,o,ho,_⟩:=mem_ready.1 hr;simp only[ho,Option.toList] at h;have h2:wpOp P ops (fun e a' w'=>e = .normal∧((listed.getD s false||j==s)=true∨C w')∧K a' w') j (fun a' w'=>((listed.getD s false||j==s)=true∨C w')∧K a' w') a w:=by
  unfold wpOp;simp only[ho];simp only[wpList,true_and] at h;exact h
 have h3:=Zkp (fun e a' w' hq=>hq.1) h2
 refine wpOp_mono (fun a' w' h4=>⟨?_,h4.2⟩) h3
 unfold Zct;rw[Zd7 inv hr];exact h4.1
theorem Zbt{s:Nat}{Q:Act→World→Prop}(hsel:Region.noSelect ops=true):
  ∀ (l:Zab) (listed:Array Bool) (a:Act) (w:World),Zic md ops listed→Zct C s listed w→Zh3 md ops s l listed=true →
   Vg P ops C s Q l (listed.getD s false) a w→Zrc P md ops C s Q l.len listed a w
 | .nil,listed,a,w,_,_,hB,h=>⟨by simpa [Zh3] using hB,h⟩
 | .mv i t,listed,a,w,inv,hs,hB,h=>by
  simp only[Zh3,Bool.and_eq_true,decide_eq_true_eq] at hB;obtain⟨hB1,hB2⟩:=hB;have hr:i∈Region.ready md ops listed:=by rw[hB1];exact List.mem_singleton.2 rfl
  refine⟨by rw[hB1];simp,fun j hj=>?_⟩
  rw[hB1] at hj;obtain rfl:=List.mem_singleton.1 hj;refine wpOp_mono (fun a' w' h4=>⟨h4.1,Zbt hsel t _ a' w' (inv.set hr) h4.1 hB2 ?_⟩) (Zjm inv hr h)
  rw[Zd7 inv hr];exact h4.2
 | .two i k t u,listed,a,w,inv,hs,hB,h=>by
  simp only[Zh3,Bool.and_eq_true,decide_eq_true_eq] at hB;obtain⟨⟨hB1,hlen⟩,hB2,hB3⟩:=hB;have hr:i∈Region.ready md ops listed:=by rw[hB1];simp
  have hr2:k∈Region.ready md ops listed:=by rw[hB1];simp
  refine⟨by rw[hB1];simp,fun j hj=>?_⟩
  rw[hB1] at hj;simp only[List.mem_cons,List.not_mem_nil,or_false] at hj
  by_cases hji:j=i
  ·subst hji;refine wpOp_mono (fun a' w' h4=>⟨h4.1,Zbt hsel t _ a' w' (inv.set hr) h4.1 hB2 ?_⟩) (Zjm inv hr h.1)
   rw[Zd7 inv hr];exact h4.2
  ·have hjk:j=k:=hj.resolve_left hji;subst hjk;have:=wpOp_mono (fun a' w' (h4:Zct C s (listed.setIfInBounds j true) w'∧Vg P ops C s Q u (listed.getD s false||j==s) a' w')=>(⟨h4.1,Zbt hsel u _ a' w' (inv.set hr2) h4.1 hB3 (by rw[Zd7 inv hr2];exact h4.2)⟩:Zct C s (listed.setIfInBounds j true) w'∧Zrc P md ops C s Q u.len (listed.setIfInBounds j true) a' w')) (Zjm inv hr2 h.2)
   rw[← hlen] at this;exact this
 | .rd k i t,listed,a,w,inv,hs,hB,h=>by
  simp only[Zh3,Bool.and_eq_true] at hB;obtain⟨hB1,hB2⟩:=hB;simp only[decide_eq_true_eq,Bool.or_eq_true,beq_iff_eq] at hB1;obtain⟨⟨⟨⟨hr,hf⟩,hne⟩,his⟩,hw⟩:=hB1;have hr':i∈Region.ready md ops listed:=by simpa using hr
  obtain⟨_,o,ho,_⟩:=mem_ready.1 hr';have hne':Zb7 o.op=true:=by rw[ho] at hne;exact hne
  have hgs:(listed.setIfInBounds i true).getD s false=listed.getD s false:=getD_set_ne false his;have hs2:Zct C s (listed.setIfInBounds i true) w:=by unfold Zct;rw[hgs];exact hs
  simp only[Vg] at h;have hread:∃ v,Yz P ops md C s i o v a∧Vg P ops C s Q t (listed.getD s false) (a.put o.dst v) w:=by
   by_cases h2:k=2
   ·rw[if_pos h2] at h;obtain⟨v,hy,hK⟩:=yieldsIn_of_qOp ho (Zfs ho h);exact⟨v,.inr hy,hK⟩
   ·rw[if_neg h2] at h;obtain⟨v,hy,hK⟩:=yieldsIn_of_qOp ho (Zfs ho h);exact⟨v,.inl ⟨hw.resolve_left h2,hy⟩,hK⟩
  obtain⟨v,hy,hK⟩:=hread;exact Znz ho his hne' (Region.noSelect_spec hsel) t.len listed a w inv (Region.free_spec ho hf) hr' hy hs
   (Zbt hsel t _ _ w (inv.set hr') hs2 hB2 (by rw[hgs];exact hK))
theorem Ze2{s i:Nat}{Q:Act→World→Prop}{l:Zab}{b:Bool}{a:Act}{w:World}{lo:List Oper}(h:wpQuiet P lo.toArray (fun _=>True) (fun a'=>Vg P lo.toArray C s Q l b a' w) ((lo.drop i).take 1) a):Vg P lo.toArray C s Q (.rd 2 i l) b a w:=by
 simp only[Vg,Zed];exact h
theorem Ku{s i:Nat}{Q:Act→World→Prop}{l:Zab}{b:Bool}{a:Act}{w:World}{lo:List Oper}
  (h:wpList P lo.toArray (fun e a' w'=>e = .normal∧((b||i==s)=true∨C w')∧Vg P lo.toArray C s Q l (b||i==s) a' w') ((lo.drop i).take 1) a w):Vg P lo.toArray C s Q (.mv i l) b a w:=by
 simp only[Vg,Zed];exact h
theorem Ze1{s i j:Nat}{Q:Act→World→Prop}{l m:Zab}{b:Bool}{a:Act}{w:World}{lo:List Oper}
  (h1:wpList P lo.toArray (fun e a' w'=>e = .normal∧((b||i==s)=true∨C w')∧Vg P lo.toArray C s Q l (b||i==s) a' w') ((lo.drop i).take 1) a w)
  (h2:wpList P lo.toArray (fun e a' w'=>e = .normal∧((b||j==s)=true∨C w')∧Vg P lo.toArray C s Q m (b||j==s) a' w') ((lo.drop j).take 1) a w):Vg P lo.toArray C s Q (.two i j l m) b a w:=by
 simp only[Vg,Zed];exact⟨h1,h2⟩
theorem Zar{id:Nat}{Q:Exit→Act→World→Prop}{a:Act}{w:World}{l:List Oper}(s:Nat)(ord:Zab)(C:World→Prop)(hm:P.follows .mixedOrders=true)
  (hB:(Region.noSelect l.toArray&&decide (ord.len=l.length)&&Zh3 .any l.toArray s ord (Array.replicate l.length false))=true)
  (hC:C { w with drawn:=w.drawn+1 }) (h:Vg P l.toArray C s (fun a' w'=>Q .normal a' w') ord false a { w with drawn:=w.drawn+1 }):(Code.region id l.toArray true).wp P Q a w:=by
 simp only[Bool.and_eq_true,decide_eq_true_eq] at hB;obtain⟨⟨hsel,hlen⟩,hord⟩:=hB;refine wp_region_any hm ?_;have inv0:Zic .any l.toArray (Array.replicate l.length false):=⟨by simp,fun j oj _ hl=>(by rw[getD_replicate_false] at hl;cases hl)⟩
 have H:=Zbt (md := .any) hsel ord _ a _ inv0 (.inr hC) hord (by rw[getD_replicate_false];exact h)
 have:=Zmf (Q':=Q) (fun a w h=>h) _ _ _ _ H
 rw[hlen] at this
 simpa using this
end
end Go.Proofs.YtbielfplgbammaaGreatDoor

namespace Go.Proofs.YtbielfplgbammaaGreatDoor
open Go.RowKit
theorem Zxs{w:World}{a:Option Addr}{V:List Value}(h:Rd w a V)(m:Nat):Rd w a (V.take m):=by
 rcases h with rfl|⟨b,off,h1,h2,h3⟩
 ·left;simp
 ·refine .inr ⟨b,off,h1,h2,fun i v hi=>h3 i v ?_⟩
  rw[List.getElem?_take] at hi;split at hi
  ·exact hi
  ·cases hi
theorem Zxu{w:World}{b o d:Nat}{V:List Value}(h:Rd w (some ⟨b,o,none⟩) V)(m:Nat)(hd:V.length≤d):Rd w (if d=m then some ⟨b,o,none⟩ else some ⟨b,o+m,none⟩) (V.drop m):=by
 split
 ·left;rw[List.drop_of_length_le (by omega)]
 ·rcases h with rfl | ⟨b',off,h1,h2,h3⟩
  ·left;simp
  ·simp only[Option.some.injEq,Addr.mk.injEq,and_true] at h1;obtain⟨rfl,rfl⟩:=h1;refine .inr ⟨b,o+m,rfl,h2,fun i v hi=>?_⟩
   rw[List.getElem?_drop] at hi;rw[Nat.add_assoc];exact h3 (m+i) v hi
end Go.Proofs.YtbielfplgbammaaGreatDoor

namespace Go.Proofs.YtbielfplgbammaaGreatDoor
open Go.RowKit Go.Shelf
structure SzV (w:World) (n:Nat) (V:List Value) (l:List (List Rat)):Prop where
 len:V.length=l.length
 at_:∀ k,k<l.length→∃ a' c',V[k]?=some (.slice a' n c')∧Rd w a' (Kg (l.getD k []))
theorem SzV.nil(w:World)(n:Nat):SzV w n [] []:=⟨rfl,fun k h=>absurd h (Nat.not_lt_zero k)⟩
theorem SzV.below{w w':World}{n:Nat}{V:List Value}{l:List (List Rat)}{B:Nat}(h:SzV w n V l)(hb:Below B w w')(hB:w.heap.size≤B):SzV w' n V l:=by
 refine⟨h.len,fun k hk=>?_⟩
 obtain⟨a',c',h1,h2⟩:=h.at_ k hk;exact⟨a',c',h1,h2.below hb hB⟩
theorem SzV.one{w:World}{n:Nat}{V:List Value}{l:List (List Rat)}(h:SzV w n V l):∀ u∈V,u.oneCell'=true:=by
 intro u hu;obtain⟨k,hk,rfl⟩:=List.mem_iff_getElem.1 hu;obtain⟨a',c',h1,-⟩:=h.at_ k (by have:=h.len;omega)
 rw[List.getElem?_eq_getElem hk] at h1;rw[Option.some.inj h1];rfl
theorem SzV.put{w:World}{n:Nat}{V:List Value}{l:List (List Rat)}(h:SzV w n V l){a:Option Addr}{c:Nat}{s:List Rat}(hs:Rd w a (Kg s)){m:Nat}(hm:m≤l.length):SzV w n (V.take m++[.slice a n c]++V.drop m) (l.take m++[s]++l.drop m):=by
 have hl:=h.len;refine⟨by simp;omega,fun k hk=>?_⟩
 rw[List.append_assoc,List.append_assoc,List.getD_eq_getElem?_getD];have q1:(V.take m).length=m:=by rw[List.length_take];omega
 have q2:(l.take m).length=m:=by rw[List.length_take];omega
 rcases Nat.lt_or_ge k m with h1|h1
 ·rw[List.getElem?_append_left (l₁:=V.take m) (by omega),List.getElem?_append_left (l₁:=l.take m) (by omega),List.getElem?_take_of_lt h1,List.getElem?_take_of_lt h1,← List.getD_eq_getElem?_getD]
  exact h.at_ k (by omega)
 ·rw[List.getElem?_append_right (l₁:=V.take m) (by omega),List.getElem?_append_right (l₁:=l.take m) (by omega),q1,q2]
  rcases Nat.eq_zero_or_pos (k-m) with h2|h2
  ·rw[h2];exact⟨a,c,rfl,hs⟩
  ·obtain⟨j,hj⟩:∃ j,k-m=j+1:=⟨k-m-1,by omega⟩
   rw[hj,List.singleton_append,List.singleton_append,List.getElem?_cons_succ,List.getElem?_cons_succ,List.getElem?_drop,List.getElem?_drop,← List.getD_eq_getElem?_getD];exact h.at_ (m+j) (by simp at hk;omega)
theorem SzV.szAt{w:World}{n:Nat}{V:List Value}{l:List (List Rat)}{a:Option Addr}(h:SzV w n V l)(r:Rd w a V):Zrh w n a l:=by
 rcases r with hv|⟨b,off,h1,h2,h3⟩
 ·left;have:=h.len
  rw[hv] at this;exact List.eq_nil_of_length_eq_zero this.symm
 ·refine .inr ⟨b,off,h1,h2,fun k hk=>?_⟩
  obtain⟨a',c',h4,h5⟩:=h.at_ k hk;exact⟨a',c',h3 k _ h4,h5⟩
structure StC (w:World) (B i:Nat) (nu:Nat→Int) (de:Nat→Nat):Prop where
 c0:w.cell? ⟨B,1+i*8,none⟩=some (.int .i8 (nu 0))
 c1:w.cell? ⟨B,1+i*8+1,none⟩=some (.int .u8 (de 0))
 c2:w.cell? ⟨B,1+i*8+2,none⟩=some (.int .i8 (nu 1))
 c3:w.cell? ⟨B,1+i*8+3,none⟩=some (.int .u8 (de 1))
 c4:w.cell? ⟨B,1+i*8+4,none⟩=some (.int .i8 (nu 2))
 c5:w.cell? ⟨B,1+i*8+5,none⟩=some (.int .u8 (de 2))
 c6:w.cell? ⟨B,1+i*8+6,none⟩=some (.int .i8 (nu 3))
 c7:w.cell? ⟨B,1+i*8+7,none⟩=some (.int .u8 (de 3))
theorem Zzo{w:World}{B pn:Nat}{nu:Nat→Nat→Int}{de:Nat→Nat→Nat}(h:w.heap[B]?=some (.cells (Ys pn nu de) 86 (0,0))){i:Nat}(hi:i<4):StC w B i (nu i) (de i):=by
 have c:∀ j,w.cell? ⟨B,j,none⟩=(Ys pn nu de)[j]?:=fun j=>cell_of_row _ _ _ _ _ _ h
 obtain rfl|rfl|rfl|rfl:i=0∨i=1∨i=2∨i=3:=by omega
 all_goals exact⟨c _,c _,c _,c _,c _,c _,c _,c _⟩
structure SoI (wr:World) (ps:List Int) (bo:Option Addr) (d:Nat) (V:List Value) (l:List (List Rat)):Prop where
 sv:SzV wr ps.length V l
 sr:Rd wr bo V
 sd:Ye ps l
 sn:(l=[]∧bo=none∧d=0)∨(∃ b o,bo=some ⟨b,o,none⟩∧0<l.length∧l.length≤d)
theorem SoI.below{w w':World}{ps:List Int}{bo:Option Addr}{d:Nat}{V:List Value}{l:List (List Rat)}(h:SoI w ps bo d V l)(hb:Below w.heap.size w w'):SoI w' ps bo d V l :=
 ⟨h.sv.below hb nr_,h.sr.below hb nr_,h.sd,h.sn⟩
def Zev (pn:Nat) (w:World) (e:Ending) (w':World):Prop :=
 ∃ a b d l,e = .returned (.tuple #[.slice a (Yf (pn%10)).length (Yf (pn%10)).length,.slice b l.length d])∧Ye (Yf (pn%10)) l∧l.length≤4∧Zrh w' (Yf (pn%10)).length b l∧Rd w' a (Qw (Yf (pn%10)))∧Below w.heap.size w w'
theorem Zpw(w:World)(pn:Nat)(nu:Nat→Nat→Int)(de:Nat→Nat→Nat)(hpn:pn<256)(hnu:∀ i k,-128≤nu i k∧nu i k≤127)(hde:∀ i k,de i k<256)(L:Qx w):
  Calls Tryz.prog 38 #[.agg (Ys pn nu de)] w (Zev pn w):=by
 unfold Zev;have hp:=Zim (pn%10) (Nat.mod_lt _ (by decide))
 have hps:=Zea (pn%10) (Nat.mod_lt _ (by decide))
 have HPr:=hd_ (fun W=>Zp4 W pn hpn)
 generalize Yf (pn%10)=ps at *
 obtain⟨hp0,hp4,hp1,hp2⟩:=hp;obtain⟨hq1,hq2⟩:=hps;have hp100:ps.length≤100:=by omega
 have hpos:=Zak hq1;have HM:Hid (∀ W a0 c0 i,Below w.heap.size w W→Calls Tryz.prog 43 #[.slice a0 ps.length c0,.agg #[.int .i8 (nu i 0),.int .u8 (de i 0),.int .i8 (nu i 1),.int .u8 (de i 1),.int .i8 (nu i 2),.int .u8 (de i 2),.int .i8 (nu i 3),.int .u8 (de i 3)]] W fun e w'=>∃ a c,e = .returned (.slice a ps.length c)∧Rd w' a (Kg (Za2 (nu i) (de i) ps.length))∧Below W.heap.size W w'):=fun W a0 c0 i hW=>by
  refine cm_ (Zvh W a0 c0 ps.length hp4 (nu i) (de i) (hnu i) (hde i) (L.below hW)) ?_;rintro e w' ⟨a,c,rfl,ho,hb⟩;exact⟨a,c,rfl,ho.rd,hb⟩
 have HSg:Hid (∀ W a0 a1 c0 c1 (la:List Rat),Below w.heap.size w W→Rd W a0 (Qw ps)→Rd W a1 (Kg la)→la.length=ps.length→Sml 480 12 la→(∀ q∈la,Sm 2 q)→Kc Tryz.prog 23 #[.slice a0 ps.length c0,.slice a1 ps.length c1] W (.tuple #[.int .i64 (LN.sz ps la),.int .i64 0])):=fun W a0 a1 c0 c1 la hW r0 r1 hl hm hs =>
  Zoh c0 c1 hp0 hp100 hp2 r0 r1 hl hs (hm.good (by decide) (Zgz (by decide)) hq1 hq2) (L.below hW)
 have HAb:Hid (∀ W a0 a1 c0 c1 (la:List Rat),Below w.heap.size w W→Rd W a0 (Qw ps)→Rd W a1 (Kg la)→la.length=ps.length→Sml 480 12 la→(∀ q∈la,Sm 2 q)→Calls Tryz.prog 102 #[.slice a0 ps.length c0,.slice a1 ps.length c1] W fun e w'=>∃ a c,e = .returned (.tuple #[.slice a ps.length c,.int .i64 0])∧Rd w' a (Kg (wmQ la ((LN.sz ps la:Int):Rat)))∧Below W.heap.size W w'):=fun W a0 a1 c0 c1 la hW r0 r1 hl hm hs =>
  Zy1 c0 c1 hp0 hp100 hp2 hq1 r0 r1 hl hs (hm.good (by decide) (Zgz (by decide)) hq1 hq2) (L.below hW)
 have HCm:Hid (∀ W a0 a1 a2 c0 c1 c2 (la lb:List Rat),Below w.heap.size w W→Rd W a0 (Qw ps)→Rd W a1 (Kg la)→Rd W a2 (Kg lb)→la.length=ps.length→lb.length=ps.length→Sml 480 12 la→Sml 480 12 lb→(∀ q∈la,Sm 2 q)→(∀ q∈lb,Sm 2 q)→Kc Tryz.prog 24 #[.slice a0 ps.length c0,.slice a1 ps.length c1,.slice a2 ps.length c2] W (.tuple #[.int .i64 (LN.sz ps (Zs la lb)),.int .i64 0])):=fun W a0 a1 a2 c0 c1 c2 la lb hW r0 r1 r2 l1 l2 m1 m2 s1 s2 =>
  Ztx c0 c1 c2 hp0 hp2 hp100 r0 r1 r2 l1 l2 (fun q hq=>(s1 q hq).le (by decide)) (fun q hq=>(s2 q hq).le (by decide)) ((show Sml _ 12 (Zs la lb) from Sml.comb (by decide) m1 m2 1 (-1)).good (by decide) (Zgz (by decide)) hq1 hq2) (L.below hW)
 have Hun:Hid (∀ la:List Rat,LN.sz ps la≠0→Sml 480 12 la→(∀ q∈la,Sm 2 q)→LN.sz ps (wmQ la ((LN.sz ps la:Int):Rat))=1∧Sml 480 12 (wmQ la ((LN.sz ps la:Int):Rat))∧∀ q∈wmQ la ((LN.sz ps la:Int):Rat),Sm 2 q):=fun la h1 h2 h3=>Zun hq1 h1 h2 h3
 have Hsc:=hd_ (fun l=>Zb0 hpos l)
 have Hpos:=hd_ hpos;clear hpos hq1 hq2 hp0 hp1 hp2 hnu hde hpn L;have B0:=hd_ ((Below.refl w.heap.size w).alloc nr_ (.cells (Ys pn nu de) 86));have C0:=hd_ (Kq w (Ys pn nu de) 86 _ rfl);have k0:(w.alloc (.cells (Ys pn nu de) 86)).cell? ⟨w.heap.size,0,none⟩=some (.int .u8 pn):=by rw[cell_of_row _ _ _ _ _ _ C0.out];rfl
 go_enter Tryz.func38,Tryz.ntmps38
 go_wp2_with fail
 generalize w.alloc (.cells (Ys pn nu de) 86)=w0 at *
 clear k0;refine cm_ (HPr.out _) ?_;rintro e_ w1 ⟨gp,rfl,hr_,hb_⟩;have B1:=hd_ (B0.out.trans (hb_.mono B0.out.size));have C1:=hd_ (Kd C0.out hb_ nr_);have Rp:=hd_ hr_;clear hb_ hr_ HPr B0 C0
 go_wp2_with fail
 go_loopw [5,6] (fun s z wr=>∃ (i:Nat) (bo:Option Addr) (d:Nat) (V:List Value) (l:List (List Rat)),i≤4∧l.length≤i∧z = .int .i64 i∧s = .slice bo l.length d∧Hid (SoI wr ps bo d V l)∧Hid (Below w1.heap.size w1 wr)) (fun _ z _=>4-(intOf z).toNat)
 case atStart=>exact⟨0,none,0,[],[],by omega,Nat.le_refl _,rfl,rfl,⟨SzV.nil _ _,Rd.nil _ _,Ye.nil ps,.inl ⟨rfl,rfl,rfl⟩⟩,Below.refl _ _⟩
 case round =>
  obtain⟨i,bo,d,V,l,hi,hli,rfl,rfl,HS,HB⟩:=hrel
  by_cases hlt:i<4
  ·have hlt':(i:Int)<4:=by omega
   have Bw:=hd_ (B1.out.trans (HB.out.mono B1.out.size));obtain⟨m0,m1,m2,m3,m4,m5,m6,m7⟩:=Zzo (Kd C1.out HB.out nr_) hlt;have HM1:=HM.out wr (some ⟨gp,0,none⟩) ps.length i Bw.out;have Rw:=hd_ (Rp.out.below HB.out nr_)
   go_wp2_with fail
   clear m0 m1 m2 m3 m4 m5 m6 m7;refine cm_ HM1 ?_;rintro e_ w3 ⟨a3,c3,rfl,hr_,hb_⟩;have la1:=Zb4 (nu i) (de i) ps.length;have sa:=Zsk (nu i) (de i) ps.length;have ma:=Zp7 (nu i) (de i) ps.length;clear HM1;generalize Za2 (nu i) (de i) ps.length=la at *
   have B3:=hd_ (Bw.out.trans (hb_.mono Bw.out.size));have D3:=hd_ (HB.out.trans (hb_.mono HB.out.size));have R3:=hd_ (Rw.out.below hb_ nr_);have S3:=hd_ (HS.out.below hb_);have Q3:=hd_ hr_;clear hb_ hr_ Bw HB Rw HS
   go_wp2_with fail
   refine cm_ (HSg.out w3 _ a3 ps.length c3 la B3.out R3.out Q3.out la1 ma sa) ?_;rintro e_ w4 ⟨rfl,hb_⟩;have B4:=hd_ (B3.out.trans (hb_.mono B3.out.size));have D4:=hd_ (D3.out.trans (hb_.mono D3.out.size));have R4:=hd_ (R3.out.below hb_ nr_);have S4:=hd_ (S3.out.below hb_);have Q4:=hd_ (Q3.out.below hb_ nr_);clear hb_ B3 D3 R3 S3 Q3;obtain⟨zz,hzz⟩:∃ zz,LN.sz ps la=zz:=⟨_,rfl⟩;have Hzz:=hd_ hzz;have hzc:=Hsc.out la;rw[hzz] at hzc ⊢;clear hzz
   go_upto_if 36 with fail
   go_cut [7] from 19 to 84 (fun s wx=>∃ a7 c7 ls,s = .slice a7 ps.length c7∧Hid ((zz==0)=false→LN.sz ps ls=1)∧ls.length=ps.length∧Sml 480 12 ls∧(∀ q∈ls,Sm 2 q)∧Hid (Rd wx a7 (Kg ls))∧Hid (Below w4.heap.size w4 wx))
   case first =>
    rcases Decidable.em (zz = -1) with hz|hz
    ·have hz0:LN.sz ps la≠0:=by have:=Hzz.out;omega
     have HA1:=HAb.out w4 _ a3 ps.length c3 la B4.out R4.out Q4.out la1 ma sa;obtain⟨lsz1,lsm,lss⟩:=Hun.out la hz0 ma sa;have ls1:(wmQ la ((LN.sz ps la:Int):Rat)).length=ps.length:=by rw[Zpo,la1]
     generalize wmQ la ((LN.sz ps la:Int):Rat)=ls at *
     have lsz:Hid ((zz==0)=false→LN.sz ps ls=1):=fun _=>lsz1
     subst hz;clear lsz1 Q4 hz0 la1 ma sa hzc Hzz
     go_wp2_with fail
     refine cm_ HA1 ?_;rintro e_ wk ⟨a7,c7,rfl,hr_,hb_⟩;have Dk:=hd_ hb_;have Qk:=hd_ hr_;clear hb_ hr_ HA1
     go_wp2_with fail
     go_meet
     exact⟨a7,c7,ls,rfl,lsz,ls1,lsm,lss,Qk,Dk⟩
    ·have hz1:¬ zz<0:=by rcases hzc with h | h | h<;>omega
     have lsz:Hid ((zz==0)=false→LN.sz ps la=1):=fun h=>by
      have h0:zz≠0:=by simpa using h
      have:=Hzz.out
      rcases hzc with h|h|h<;>omega
     clear hzc Hzz hz
     go_wp2_with fail
     go_meet
     exact⟨a3,c3,la,rfl,lsz,la1,ma,sa,Q4,Below.refl _ _⟩
   case rest =>
   obtain⟨a7,c7,ls,rfl,lsz,ls1,lsm,lss,Qk,Hw⟩:=hcut;clear hzc Hzz Q4 la1 ma sa HAb Hun HSg;have Bk:=hd_ (B4.out.trans (Hw.out.mono B4.out.size));have Dk:=hd_ (D4.out.trans (Hw.out.mono D4.out.size));have Rk:=hd_ (R4.out.below Hw.out nr_);have Sk:=hd_ (S4.out.below Hw.out);clear B4 D4 R4 S4 Hw
   go_wp2_with fail
   generalize (zz==0)=z0 at *
   obtain⟨wk,hwk⟩:∃ wk:World,wk=wc:=⟨_,rfl⟩;subst hwk;obtain⟨wk0,hwk0⟩:∃ wk0:World,wk0=wk:=⟨_,rfl⟩;subst hwk0
   go_loopw [10,11,12] (fun a t k wr=>∃ (n j:Nat) (tw:Bool),j≤l.length∧n≤l.length∧a = .int .i64 n∧t = .bool tw∧k = .int .i64 j∧Hid (Zul (fun k=>LN.sz ps (Zs (l.getD k []) ls)) j n tw z0)∧Hid (Below wk0.heap.size wk0 wr)) (fun _ _ k _=>l.length-(intOf k).toNat)
   case atStart=>exact⟨0,0,z0,Nat.zero_le _,Nat.zero_le _,rfl,rfl,rfl,Zul.zero _ _,Below.refl _ _⟩
   case round =>
    obtain⟨n,j,tw,hj,hn,rfl,rfl,rfl,HA,HD⟩:=hrel
    by_cases hjl:j<l.length
    ·have hjl':(j:Int)<l.length:=by omega
     have Bj:=hd_ (Bk.out.trans (HD.out.mono Bk.out.size));have hjm:=Kl hjl;obtain⟨b,o,hbo,hl0,hld⟩:∃ b o,bo=some ⟨b,o,none⟩∧0<l.length∧l.length≤d:=by
      rcases Sk.out.sn with⟨h,-⟩|h
      ·rw[h] at hjl;simp at hjl
      ·exact h
     have Sj:=hd_ (Sk.out.below HD.out);obtain⟨a',c',hV,hrr⟩:=Sj.out.sv.at_ j hjl;obtain⟨b',o',hbo',-,hcV⟩:=Sj.out.sr.open (by rw[Sj.out.sv.len];exact hl0)
     have kV:=hcV j _ hV;rw[hbo] at hbo';simp only[Option.some.injEq,Addr.mk.injEq,and_true] at hbo';obtain⟨rfl,rfl⟩:=hbo';subst hbo;have HC1:=HCm.out wr _ a' a7 ps.length c' c7 (l.getD j []) ls Bj.out (Rk.out.below HD.out nr_) hrr (Qk.out.below HD.out nr_) (Sj.out.sd.len _ hjm) ls1 (Sj.out.sd.sml _ hjm) lsm (Sj.out.sd.sm2 _ hjm) lss;have hcz:=Hsc.out (Zs (l.getD j []) ls);have HA2:=hd_ HA.out.next;obtain⟨cz,hcze⟩:∃ cz,LN.sz ps (Zs (l.getD j []) ls)=cz:=⟨_,rfl⟩;simp only[hcze] at HC1 hcz HA2;clear hcze HA hcV hV hrr hjm Bj Sj
     go_wp2_with fail
     clear kV;refine cm_ HC1 ?_;rintro e_ w8 ⟨rfl,hb_⟩;have D8:=hd_ (HD.out.trans (hb_.mono HD.out.size));clear hb_ HC1 HD;rcases hcz with rfl|rfl|rfl
     ·have HA3:Hid (Zul (fun k=>LN.sz ps (Zs (l.getD k []) ls)) (j+1) (j+1) tw z0):=by have h:=HA2.out;rw[if_pos (by decide),show (tw||((1:Int)==0))=tw by cases tw<;>rfl] at h;exact h
      clear HA2;cases tw with
      | true =>
       go_wp2_with fail
       go_roundw
       case rel=>exact⟨j+1,j+1,true,by omega,by omega,by go_num,rfl,by go_num,HA3,D8⟩
       case measure=>simp[intOf];omega
      | false =>
       go_wp2_with fail
       go_roundw
       case rel=>exact⟨j+1,j+1,false,by omega,by omega,by go_num,rfl,by go_num,HA3,D8⟩
       case measure=>simp[intOf];omega
     ·have HA3:Hid (Zul (fun k=>LN.sz ps (Zs (l.getD k []) ls)) (j+1) n true z0):=by have h:=HA2.out;rw[if_neg (by decide),show (tw||((0:Int)==0))=true by cases tw<;>rfl] at h;exact h
      clear HA2;cases tw with
      | true =>
       go_wp2_with fail
       go_roundw
       case rel=>exact⟨n,j+1,true,by omega,hn,rfl,rfl,by go_num,HA3,D8⟩
       case measure=>simp[intOf];omega
      | false =>
       go_wp2_with fail
       go_roundw
       case rel=>exact⟨n,j+1,true,by omega,hn,rfl,rfl,by go_num,HA3,D8⟩
       case measure=>simp[intOf];omega
     ·have HA3:Hid (Zul (fun k=>LN.sz ps (Zs (l.getD k []) ls)) (j+1) n tw z0):=by have h:=HA2.out;rw[if_neg (by decide),show (tw||((-1:Int)==0))=tw by cases tw<;>rfl] at h;exact h
      clear HA2;cases tw with
      | true =>
       go_wp2_with fail
       go_roundw
       case rel=>exact⟨n,j+1,true,by omega,hn,rfl,rfl,by go_num,HA3,D8⟩
       case measure=>simp[intOf];omega
      | false =>
       go_wp2_with fail
       go_roundw
       case rel=>exact⟨n,j+1,false,by omega,hn,rfl,rfl,by go_num,HA3,D8⟩
       case measure=>simp[intOf];omega
    ·have hjl':¬ (j:Int)<l.length:=by omega
     have hjeq:j=l.length:=by omega
     subst hjeq;have S9:=hd_ (Sk.out.below HD.out);have D9:=hd_ (Dk.out.trans (HD.out.mono Dk.out.size));have Q9:=hd_ (Qk.out.below HD.out nr_);cases tw with
     | true =>
      clear HA Sk Qk Rk Bk Dk HD
      go_wp2_with fail
      go_roundw
      case rel=>exact⟨i+1,bo,d,V,l,by omega,by omega,by go_num,rfl,S9,D9⟩
      case measure=>simp[intOf];omega
     | false =>
      have N9:=hd_ (S9.out.sd.put Hpos.out ls1 lsm lss (lsz.out (HA.out.tw rfl).1) HA.out);have V9:=hd_ (S9.out.sv.put (c:=c7) Q9.out hn);have hln9:(l.take n++[ls]++l.drop n).length=l.length+1:=by simp;omega
      have hVl:=S9.out.sv.len;have hV1:=hd_ S9.out.sv.one;clear HA Sk Qk Rk Bk Dk HD Q9;rcases S9.out.sn with⟨rfl,rfl,rfl⟩|⟨b,o,rfl,hl0,hld⟩
      ·have hn0:n=0:=by simpa using hn
       subst hn0;have hV0:V=[]:=List.eq_nil_of_length_eq_zero hVl;subst hV0;simp only[List.take_nil,List.drop_nil,List.append_nil,List.nil_append,List.length_singleton,List.length_nil,Nat.zero_add] at N9 V9 hln9;clear S9 hV1;have I:Hid (Below wr.heap.size wr wr.drew):=(Below.refl _ _).drew
       go_wp2_with fail
       refine Zar 12 (.rd 2 0 (.rd 2 1 (.rd 2 2 (.rd 2 3 (.rd 2 5 (.rd 2 8 (.rd 2 9 (.rd 2 10 (.two 4 6 (.mv 6 (.mv 7 (.mv 11 (.mv 12 .nil)))) (.mv 4 (.mv 7 (.mv 11 (.mv 12 .nil))))))))))))) (fun _=>True) (by kernel_rfl) (by kernel_rfl) trivial ?_
       show Vg _ _ _ _ _ _ _ _ wr.drew
       iterate 8 (refine Ze2 ?_;simp only[Qg,dz_,Qd,tz_];go_big_quiet_step (fail);refine wpQuiet_nil ?_)
       refine Ze1 ?_ ?_
       ·simp only[Qg,dz_,Qd,tz_]
        go_wp2_with (at_builtin;refine Kk rfl (.tmp 72) (.tmp 75) 54 rfl Zh8 _ rfl (World.ownsRow_nil _ wr.heap.size _ 1) _ 0 _ [] rfl (fun _=>⟨rfl,rfl⟩) rfl (.inl rfl) (fun u hu=>by cases hu) (by omega) (by omega) I.out.size ?_)
        intro v1 w5 hown hg;obtain⟨a1,d1,rfl⟩:=Ky hown;have D_w5:Hid (Below wr.heap.size wr w5):=I.out.grown hg I.out.size (fun k hk=>by simp[Value.ownBlock] at hk)
        try rw[List.nil_append,Nat.zero_add] at hown
        have O_w5:=hd_ hown;clear hown hg I
        go_wp2_with fail
        refine Ku ?_;simp only[Qg,dz_,Qd,tz_]
        go_wp2_with fail
        have D_w6:=hd_ (D_w5.out.alloc D_w5.out.size (.cells #[.slice a7 ps.length c7] 35));have K_w6:=hd_ (Kq w5 #[.slice a7 ps.length c7] 35 w5.heap.size rfl);have O_w6:=hd_ (World.ownsRow.alloc O_w5.out (.cells #[.slice a7 ps.length c7] 35));obtain⟨g2,hg2⟩:∃ g2,w5.heap.size=g2:=⟨_,rfl⟩;have hgw:wr.heap.size≤g2:=by rw[← hg2];exact D_w5.out.size
        rw[hg2] at K_w6 ⊢;clear hg2;generalize w5.alloc (.cells #[.slice a7 ps.length c7] 35)=w6 at *
        go_wp2_with fail
        refine Ku ?_;simp only[Qg,dz_,Qd,tz_]
        go_wp2_with (at_builtin;refine Kk rfl (.tmp 76) (.tmp 78) 54 rfl Zh8 _ rfl O_w6.out (some ⟨g2,0,none⟩) 1 1 [.slice a7 ps.length c7] rfl (by simp) rfl (Za1 K_w6.out) (by intro u hu;obtain rfl:=List.mem_singleton.1 hu;rfl) (by omega) (by omega) D_w6.out.size ?_)
        intro v2 w7 hown hg;obtain⟨a2,d2,rfl⟩:=Ky hown;have D7:Hid (Below wr.heap.size wr w7):=D_w6.out.grown hg D_w6.out.size (fun k hk=>(O_w6.out.lt k hk).1)
        have O7:=hd_ hown;clear hown hg
        go_wp2_with fail
        refine Ku ?_;simp only[Qg,dz_,Qd,tz_]
        go_wp2_with (at_builtin;refine Kk rfl (.tmp 79) (.tmp 82) 54 rfl Zh8 _ rfl O7.out _ 0 _ [] rfl (fun _=>⟨rfl,rfl⟩) rfl (.inl rfl) (fun u hu=>by cases hu) (by omega) (by omega) D7.out.size ?_)
        intro v3 w8 hown hg;obtain⟨a8,d8,rfl⟩:=Ky hown;have hown9:w8.ownsRow wr.heap.size 35 1 (.slice a8 (0+1+0) d8) (0+1+0) ([.slice a7 ps.length c7]):=by simpa using hown
        clear hown;have D8:Hid (Below wr.heap.size wr w8):=D7.out.grown hg D7.out.size (fun k hk=>(O7.out.lt k hk).1)
        have hE8:0+1+0=([ls]).length:=rfl;have hown:=hown9;rw[hE8] at hown;have hcap:([ls]).length≤d8∧∃ g8,a8=some ⟨g8,0,none⟩:=by
         obtain⟨g8,cap,hv,-,-,hc8,-,-⟩:=Qb hown (by simp)
         simp only[Value.slice.injEq] at hv;obtain⟨h1,h2,h3⟩:=hv;exact⟨by omega,g8,h1⟩
        have S8:Hid (SoI w8 ps a8 d8 ([.slice a7 ps.length c7]) ([ls])):=by
         obtain⟨hc8,g8,rfl⟩:=hcap;exact⟨V9.out.below D8.out nr_,Zcu hown,N9.out,.inr ⟨g8,0,rfl,by simp,hc8⟩⟩
        have D10:=hd_ (D9.out.trans (D8.out.mono D9.out.size));clear hown hg hcap hE8 O7 D7 D8 V9 N9;have hl9:([ls]:List (List Rat)).length=1:=rfl;generalize [ls]=l9 at *
        generalize ([.slice a7 ps.length c7]:List Value)=V10 at *
        go_wp2_with fail
        refine Ku ?_;simp only[Qg,dz_,Qd,tz_]
        go_wp2_with fail
        simp only[Vg]
        go_wp2_with fail
        go_roundw
        case rel=>exact⟨i+1,a8,d8,V10,l9,by omega,by omega,by go_num,(by first | rfl | (rw[hl9];done) | (rw[hl9]) | (congr 1;omega)),S8,D10⟩
        case measure=>simp[intOf];omega
       ·simp only[Qg,dz_,Qd,tz_]
        go_wp2_with fail
        have D_w5:=hd_ (((Below.refl wr.heap.size wr).alloc nr_ (.cells #[.slice a7 ps.length c7] 35)).drew);have K_w5:Hid ((wr.alloc (.cells #[.slice a7 ps.length c7] 35)).drew.heap[wr.heap.size]?=some (.cells #[.slice a7 ps.length c7] 35 (0,0))):=Kq wr #[.slice a7 ps.length c7] 35 wr.heap.size rfl;obtain⟨g2,hg2⟩:∃ g2,wr.heap.size=g2:=⟨_,rfl⟩;have hgw:wr.heap.size≤g2:=by rw[← hg2];exact Nat.le_refl _
        rw[hg2] at K_w5 ⊢;clear hg2;generalize (wr.alloc (.cells #[.slice a7 ps.length c7] 35)).drew=w5 at *
        go_wp2_with fail
        refine Ku ?_;simp only[Qg,dz_,Qd,tz_]
        go_wp2_with (at_builtin;refine Kk rfl (.tmp 72) (.tmp 75) 54 rfl Zh8 _ rfl (World.ownsRow_nil _ wr.heap.size _ 1) _ 0 _ [] rfl (fun _=>⟨rfl,rfl⟩) rfl (.inl rfl) (fun u hu=>by cases hu) (by omega) (by omega) D_w5.out.size ?_)
        intro v1 w6 hown hg;obtain⟨a1,d1,rfl⟩:=Ky hown;have D_w6:Hid (Below wr.heap.size wr w6):=D_w5.out.grown hg D_w5.out.size (fun k hk=>by simp[Value.ownBlock] at hk)
        try rw[List.nil_append,Nat.zero_add] at hown
        have O_w6:=hd_ hown;have K_w6:=hd_ (Kd K_w5.out ((Below.refl w5.heap.size w5).grown hg nr_ (fun k hk=>by simp[Value.ownBlock] at hk)) nr_)
        clear hown hg I
        go_wp2_with fail
        refine Ku ?_;simp only[Qg,dz_,Qd,tz_]
        go_wp2_with (at_builtin;refine Kk rfl (.tmp 76) (.tmp 78) 54 rfl Zh8 _ rfl O_w6.out (some ⟨g2,0,none⟩) 1 1 [.slice a7 ps.length c7] rfl (by simp) rfl (Za1 K_w6.out) (by intro u hu;obtain rfl:=List.mem_singleton.1 hu;rfl) (by omega) (by omega) D_w6.out.size ?_)
        intro v2 w7 hown hg;obtain⟨a2,d2,rfl⟩:=Ky hown;have D7:Hid (Below wr.heap.size wr w7):=D_w6.out.grown hg D_w6.out.size (fun k hk=>(O_w6.out.lt k hk).1)
        have O7:=hd_ hown;clear hown hg
        go_wp2_with fail
        refine Ku ?_;simp only[Qg,dz_,Qd,tz_]
        go_wp2_with (at_builtin;refine Kk rfl (.tmp 79) (.tmp 82) 54 rfl Zh8 _ rfl O7.out _ 0 _ [] rfl (fun _=>⟨rfl,rfl⟩) rfl (.inl rfl) (fun u hu=>by cases hu) (by omega) (by omega) D7.out.size ?_)
        intro v3 w8 hown hg;obtain⟨a8,d8,rfl⟩:=Ky hown;have hown9:w8.ownsRow wr.heap.size 35 1 (.slice a8 (0+1+0) d8) (0+1+0) ([.slice a7 ps.length c7]):=by simpa using hown
        clear hown;have D8:Hid (Below wr.heap.size wr w8):=D7.out.grown hg D7.out.size (fun k hk=>(O7.out.lt k hk).1)
        have hE8:0+1+0=([ls]).length:=rfl;have hown:=hown9;rw[hE8] at hown;have hcap:([ls]).length≤d8∧∃ g8,a8=some ⟨g8,0,none⟩:=by
         obtain⟨g8,cap,hv,-,-,hc8,-,-⟩:=Qb hown (by simp)
         simp only[Value.slice.injEq] at hv;obtain⟨h1,h2,h3⟩:=hv;exact⟨by omega,g8,h1⟩
        have S8:Hid (SoI w8 ps a8 d8 ([.slice a7 ps.length c7]) ([ls])):=by
         obtain⟨hc8,g8,rfl⟩:=hcap;exact⟨V9.out.below D8.out nr_,Zcu hown,N9.out,.inr ⟨g8,0,rfl,by simp,hc8⟩⟩
        have D10:=hd_ (D9.out.trans (D8.out.mono D9.out.size));clear hown hg hcap hE8 O7 D7 D8 V9 N9;have hl9:([ls]:List (List Rat)).length=1:=rfl;generalize [ls]=l9 at *
        generalize ([.slice a7 ps.length c7]:List Value)=V10 at *
        go_wp2_with fail
        refine Ku ?_;simp only[Qg,dz_,Qd,tz_]
        go_wp2_with fail
        simp only[Vg]
        go_wp2_with fail
        go_roundw
        case rel=>exact⟨i+1,a8,d8,V10,l9,by omega,by omega,by go_num,(by first | rfl | (rw[hl9];done) | (rw[hl9]) | (congr 1;omega)),S8,D10⟩
        case measure=>simp[intOf];omega
      ·have HL75:Hid ((V.take n).length=n):=by show _=_;rw[List.length_take];omega
       have HR75:Hid (Rd wr (some ⟨b,o,none⟩) (V.take n)):=Zxs S9.out.sr n;have H175:Hid (∀ u∈V.take n,u.oneCell'=true):=fun u hu=>hV1.out u (List.mem_of_mem_take hu)
       have HL82:Hid ((V.drop n).length=l.length-n):=by show _=_;rw[List.length_drop];omega
       have H182:Hid (∀ u∈V.drop n,u.oneCell'=true):=fun u hu=>hV1.out u (List.mem_of_mem_drop hu)
       have HR82:=hd_ (Zxu S9.out.sr n (d:=d) (by omega))
       by_cases hdn:d=n
       ·have hdn':n=d:=hdn.symm;subst hdn';clear HR82;clear S9 hV1;have I:Hid (Below wr.heap.size wr wr.drew):=(Below.refl _ _).drew
        go_wp2_with fail
        refine Zar 12 (.rd 2 0 (.rd 2 1 (.rd 2 2 (.rd 2 3 (.rd 2 5 (.rd 2 8 (.rd 2 9 (.rd 2 10 (.two 4 6 (.mv 6 (.mv 7 (.mv 11 (.mv 12 .nil)))) (.mv 4 (.mv 7 (.mv 11 (.mv 12 .nil))))))))))))) (fun _=>True) (by kernel_rfl) (by kernel_rfl) trivial ?_
        show Vg _ _ _ _ _ _ _ _ wr.drew
        iterate 8 (refine Ze2 ?_;simp only[Qg,dz_,Qd,tz_];go_big_quiet_step (fail);refine wpQuiet_nil ?_)
        refine Ze1 ?_ ?_
        ·simp only[Qg,dz_,Qd,tz_]
         go_wp2_with (at_builtin;refine Kk rfl (.tmp 72) (.tmp 75) 54 rfl Zh8 _ rfl (World.ownsRow_nil _ wr.heap.size _ 1) _ n _ (V.take n) rfl (fun h=>by cases h) HL75.out (HR75.out.below I.out nr_) H175.out (by omega) (by omega) I.out.size ?_)
         intro v1 w5 hown hg;obtain⟨a1,d1,rfl⟩:=Ky hown;have D_w5:Hid (Below wr.heap.size wr w5):=I.out.grown hg I.out.size (fun k hk=>by simp[Value.ownBlock] at hk)
         try rw[List.nil_append,Nat.zero_add] at hown
         have O_w5:=hd_ hown;clear hown hg I
         go_wp2_with fail
         refine Ku ?_;simp only[Qg,dz_,Qd,tz_]
         go_wp2_with fail
         have D_w6:=hd_ (D_w5.out.alloc D_w5.out.size (.cells #[.slice a7 ps.length c7] 35));have K_w6:=hd_ (Kq w5 #[.slice a7 ps.length c7] 35 w5.heap.size rfl);have O_w6:=hd_ (World.ownsRow.alloc O_w5.out (.cells #[.slice a7 ps.length c7] 35));obtain⟨g2,hg2⟩:∃ g2,w5.heap.size=g2:=⟨_,rfl⟩;have hgw:wr.heap.size≤g2:=by rw[← hg2];exact D_w5.out.size
         rw[hg2] at K_w6 ⊢;clear hg2;generalize w5.alloc (.cells #[.slice a7 ps.length c7] 35)=w6 at *
         go_wp2_with fail
         refine Ku ?_;simp only[Qg,dz_,Qd,tz_]
         go_wp2_with (at_builtin;refine Kk rfl (.tmp 76) (.tmp 78) 54 rfl Zh8 _ rfl O_w6.out (some ⟨g2,0,none⟩) 1 1 [.slice a7 ps.length c7] rfl (by simp) rfl (Za1 K_w6.out) (by intro u hu;obtain rfl:=List.mem_singleton.1 hu;rfl) (by omega) (by omega) D_w6.out.size ?_)
         intro v2 w7 hown hg;obtain⟨a2,d2,rfl⟩:=Ky hown;have D7:Hid (Below wr.heap.size wr w7):=D_w6.out.grown hg D_w6.out.size (fun k hk=>(O_w6.out.lt k hk).1)
         have O7:=hd_ hown;clear hown hg
         go_wp2_with fail
         refine Ku ?_;simp only[Qg,dz_,Qd,tz_]
         go_wp2_with (at_builtin;refine Kk rfl (.tmp 79) (.tmp 82) 54 rfl Zh8 _ rfl O7.out _ 0 _ [] rfl (fun h=>by cases h) rfl (.inl rfl) (fun u hu=>by cases hu) (by omega) (by omega) D7.out.size ?_)
         intro v3 w8 hown hg;obtain⟨a8,d8,rfl⟩:=Ky hown;have hown9:w8.ownsRow wr.heap.size 35 1 (.slice a8 (n+1+(l.length-n)) d8) (n+1+(l.length-n)) (V.take n++[.slice a7 ps.length c7]++V.drop n):=by rw[show l.length-n=0 by omega,List.drop_of_length_le (by omega)];simpa using hown
         clear hown;have D8:Hid (Below wr.heap.size wr w8):=D7.out.grown hg D7.out.size (fun k hk=>(O7.out.lt k hk).1)
         have hE8:n+1+(l.length-n)=(l.take n++[ls]++l.drop n).length:=by rw[hln9];omega
         have hown:=hown9;rw[hE8] at hown;have hcap:(l.take n++[ls]++l.drop n).length≤d8∧∃ g8,a8=some ⟨g8,0,none⟩:=by
          obtain⟨g8,cap,hv,-,-,hc8,-,-⟩:=Qb hown (by rw[hln9];omega)
          simp only[Value.slice.injEq] at hv;obtain⟨h1,h2,h3⟩:=hv;exact⟨by omega,g8,h1⟩
         have S8:Hid (SoI w8 ps a8 d8 (V.take n++[.slice a7 ps.length c7]++V.drop n) (l.take n++[ls]++l.drop n)):=by
          obtain⟨hc8,g8,rfl⟩:=hcap;exact⟨V9.out.below D8.out nr_,Zcu hown,N9.out,.inr ⟨g8,0,rfl,by rw[hln9];omega,hc8⟩⟩
         have D10:=hd_ (D9.out.trans (D8.out.mono D9.out.size));clear hown hg hcap hE8 O7 D7 D8 V9 N9;generalize l.take n++[ls]++l.drop n=l9 at *
         generalize V.take n++[.slice a7 ps.length c7]++V.drop n=V10 at *
         go_wp2_with fail
         refine Ku ?_;simp only[Qg,dz_,Qd,tz_]
         go_wp2_with fail
         simp only[Vg]
         go_wp2_with fail
         go_roundw
         case rel=>exact⟨i+1,a8,d8,V10,l9,by omega,by omega,by go_num,(by first | rfl | (rw[hln9];done) | (rw[hln9];congr 1;omega) | (congr 1;omega)),S8,D10⟩
         case measure=>simp[intOf];omega
        ·simp only[Qg,dz_,Qd,tz_]
         go_wp2_with fail
         have D_w5:=hd_ (((Below.refl wr.heap.size wr).alloc nr_ (.cells #[.slice a7 ps.length c7] 35)).drew);have K_w5:Hid ((wr.alloc (.cells #[.slice a7 ps.length c7] 35)).drew.heap[wr.heap.size]?=some (.cells #[.slice a7 ps.length c7] 35 (0,0))):=Kq wr #[.slice a7 ps.length c7] 35 wr.heap.size rfl;obtain⟨g2,hg2⟩:∃ g2,wr.heap.size=g2:=⟨_,rfl⟩;have hgw:wr.heap.size≤g2:=by rw[← hg2];exact Nat.le_refl _
         rw[hg2] at K_w5 ⊢;clear hg2;generalize (wr.alloc (.cells #[.slice a7 ps.length c7] 35)).drew=w5 at *
         go_wp2_with fail
         refine Ku ?_;simp only[Qg,dz_,Qd,tz_]
         go_wp2_with (at_builtin;refine Kk rfl (.tmp 72) (.tmp 75) 54 rfl Zh8 _ rfl (World.ownsRow_nil _ wr.heap.size _ 1) _ n _ (V.take n) rfl (fun h=>by cases h) HL75.out (HR75.out.below D_w5.out nr_) H175.out (by omega) (by omega) D_w5.out.size ?_)
         intro v1 w6 hown hg;obtain⟨a1,d1,rfl⟩:=Ky hown;have D_w6:Hid (Below wr.heap.size wr w6):=D_w5.out.grown hg D_w5.out.size (fun k hk=>by simp[Value.ownBlock] at hk)
         try rw[List.nil_append,Nat.zero_add] at hown
         have O_w6:=hd_ hown;have K_w6:=hd_ (Kd K_w5.out ((Below.refl w5.heap.size w5).grown hg nr_ (fun k hk=>by simp[Value.ownBlock] at hk)) nr_)
         clear hown hg I
         go_wp2_with fail
         refine Ku ?_;simp only[Qg,dz_,Qd,tz_]
         go_wp2_with (at_builtin;refine Kk rfl (.tmp 76) (.tmp 78) 54 rfl Zh8 _ rfl O_w6.out (some ⟨g2,0,none⟩) 1 1 [.slice a7 ps.length c7] rfl (by simp) rfl (Za1 K_w6.out) (by intro u hu;obtain rfl:=List.mem_singleton.1 hu;rfl) (by omega) (by omega) D_w6.out.size ?_)
         intro v2 w7 hown hg;obtain⟨a2,d2,rfl⟩:=Ky hown;have D7:Hid (Below wr.heap.size wr w7):=D_w6.out.grown hg D_w6.out.size (fun k hk=>(O_w6.out.lt k hk).1)
         have O7:=hd_ hown;clear hown hg
         go_wp2_with fail
         refine Ku ?_;simp only[Qg,dz_,Qd,tz_]
         go_wp2_with (at_builtin;refine Kk rfl (.tmp 79) (.tmp 82) 54 rfl Zh8 _ rfl O7.out _ 0 _ [] rfl (fun h=>by cases h) rfl (.inl rfl) (fun u hu=>by cases hu) (by omega) (by omega) D7.out.size ?_)
         intro v3 w8 hown hg;obtain⟨a8,d8,rfl⟩:=Ky hown;have hown9:w8.ownsRow wr.heap.size 35 1 (.slice a8 (n+1+(l.length-n)) d8) (n+1+(l.length-n)) (V.take n++[.slice a7 ps.length c7]++V.drop n):=by rw[show l.length-n=0 by omega,List.drop_of_length_le (by omega)];simpa using hown
         clear hown;have D8:Hid (Below wr.heap.size wr w8):=D7.out.grown hg D7.out.size (fun k hk=>(O7.out.lt k hk).1)
         have hE8:n+1+(l.length-n)=(l.take n++[ls]++l.drop n).length:=by rw[hln9];omega
         have hown:=hown9;rw[hE8] at hown;have hcap:(l.take n++[ls]++l.drop n).length≤d8∧∃ g8,a8=some ⟨g8,0,none⟩:=by
          obtain⟨g8,cap,hv,-,-,hc8,-,-⟩:=Qb hown (by rw[hln9];omega)
          simp only[Value.slice.injEq] at hv;obtain⟨h1,h2,h3⟩:=hv;exact⟨by omega,g8,h1⟩
         have S8:Hid (SoI w8 ps a8 d8 (V.take n++[.slice a7 ps.length c7]++V.drop n) (l.take n++[ls]++l.drop n)):=by
          obtain⟨hc8,g8,rfl⟩:=hcap;exact⟨V9.out.below D8.out nr_,Zcu hown,N9.out,.inr ⟨g8,0,rfl,by rw[hln9];omega,hc8⟩⟩
         have D10:=hd_ (D9.out.trans (D8.out.mono D9.out.size));clear hown hg hcap hE8 O7 D7 D8 V9 N9;generalize l.take n++[ls]++l.drop n=l9 at *
         generalize V.take n++[.slice a7 ps.length c7]++V.drop n=V10 at *
         go_wp2_with fail
         refine Ku ?_;simp only[Qg,dz_,Qd,tz_]
         go_wp2_with fail
         simp only[Vg]
         go_wp2_with fail
         go_roundw
         case rel=>exact⟨i+1,a8,d8,V10,l9,by omega,by omega,by go_num,(by first | rfl | (rw[hln9];done) | (rw[hln9];congr 1;omega) | (congr 1;omega)),S8,D10⟩
         case measure=>simp[intOf];omega
       ·rw[if_neg hdn] at HR82;clear S9 hV1;have I:Hid (Below wr.heap.size wr wr.drew):=(Below.refl _ _).drew
        go_wp2_with fail
        refine Zar 12 (.rd 2 0 (.rd 2 1 (.rd 2 2 (.rd 2 3 (.rd 2 5 (.rd 2 8 (.rd 2 9 (.rd 2 10 (.two 4 6 (.mv 6 (.mv 7 (.mv 11 (.mv 12 .nil)))) (.mv 4 (.mv 7 (.mv 11 (.mv 12 .nil))))))))))))) (fun _=>True) (by kernel_rfl) (by kernel_rfl) trivial ?_
        show Vg _ _ _ _ _ _ _ _ wr.drew
        iterate 8 (refine Ze2 ?_;simp only[Qg,dz_,Qd,tz_];go_big_quiet_step (fail);refine wpQuiet_nil ?_)
        refine Ze1 ?_ ?_
        ·simp only[Qg,dz_,Qd,tz_]
         go_wp2_with (at_builtin;refine Kk rfl (.tmp 72) (.tmp 75) 54 rfl Zh8 _ rfl (World.ownsRow_nil _ wr.heap.size _ 1) _ n _ (V.take n) rfl (fun h=>by cases h) HL75.out (HR75.out.below I.out nr_) H175.out (by omega) (by omega) I.out.size ?_)
         intro v1 w5 hown hg;obtain⟨a1,d1,rfl⟩:=Ky hown;have D_w5:Hid (Below wr.heap.size wr w5):=I.out.grown hg I.out.size (fun k hk=>by simp[Value.ownBlock] at hk)
         try rw[List.nil_append,Nat.zero_add] at hown
         have O_w5:=hd_ hown;clear hown hg I
         go_wp2_with fail
         refine Ku ?_;simp only[Qg,dz_,Qd,tz_]
         go_wp2_with fail
         have D_w6:=hd_ (D_w5.out.alloc D_w5.out.size (.cells #[.slice a7 ps.length c7] 35));have K_w6:=hd_ (Kq w5 #[.slice a7 ps.length c7] 35 w5.heap.size rfl);have O_w6:=hd_ (World.ownsRow.alloc O_w5.out (.cells #[.slice a7 ps.length c7] 35));obtain⟨g2,hg2⟩:∃ g2,w5.heap.size=g2:=⟨_,rfl⟩;have hgw:wr.heap.size≤g2:=by rw[← hg2];exact D_w5.out.size
         rw[hg2] at K_w6 ⊢;clear hg2;generalize w5.alloc (.cells #[.slice a7 ps.length c7] 35)=w6 at *
         go_wp2_with fail
         refine Ku ?_;simp only[Qg,dz_,Qd,tz_]
         go_wp2_with (at_builtin;refine Kk rfl (.tmp 76) (.tmp 78) 54 rfl Zh8 _ rfl O_w6.out (some ⟨g2,0,none⟩) 1 1 [.slice a7 ps.length c7] rfl (by simp) rfl (Za1 K_w6.out) (by intro u hu;obtain rfl:=List.mem_singleton.1 hu;rfl) (by omega) (by omega) D_w6.out.size ?_)
         intro v2 w7 hown hg;obtain⟨a2,d2,rfl⟩:=Ky hown;have D7:Hid (Below wr.heap.size wr w7):=D_w6.out.grown hg D_w6.out.size (fun k hk=>(O_w6.out.lt k hk).1)
         have O7:=hd_ hown;clear hown hg
         go_wp2_with fail
         refine Ku ?_;simp only[Qg,dz_,Qd,tz_]
         go_wp2_with (at_builtin;refine Kk rfl (.tmp 79) (.tmp 82) 54 rfl Zh8 _ rfl O7.out _ (l.length-n) _ (V.drop n) rfl (fun h=>by cases h) HL82.out (HR82.out.below D7.out nr_) H182.out (by omega) (by omega) D7.out.size ?_)
         intro v3 w8 hown hg;obtain⟨a8,d8,rfl⟩:=Ky hown;have hown9:w8.ownsRow wr.heap.size 35 1 (.slice a8 (n+1+(l.length-n)) d8) (n+1+(l.length-n)) (V.take n++[.slice a7 ps.length c7]++V.drop n):=by simpa using hown
         clear hown;have D8:Hid (Below wr.heap.size wr w8):=D7.out.grown hg D7.out.size (fun k hk=>(O7.out.lt k hk).1)
         have hE8:n+1+(l.length-n)=(l.take n++[ls]++l.drop n).length:=by rw[hln9];omega
         have hown:=hown9;rw[hE8] at hown;have hcap:(l.take n++[ls]++l.drop n).length≤d8∧∃ g8,a8=some ⟨g8,0,none⟩:=by
          obtain⟨g8,cap,hv,-,-,hc8,-,-⟩:=Qb hown (by rw[hln9];omega)
          simp only[Value.slice.injEq] at hv;obtain⟨h1,h2,h3⟩:=hv;exact⟨by omega,g8,h1⟩
         have S8:Hid (SoI w8 ps a8 d8 (V.take n++[.slice a7 ps.length c7]++V.drop n) (l.take n++[ls]++l.drop n)):=by
          obtain⟨hc8,g8,rfl⟩:=hcap;exact⟨V9.out.below D8.out nr_,Zcu hown,N9.out,.inr ⟨g8,0,rfl,by rw[hln9];omega,hc8⟩⟩
         have D10:=hd_ (D9.out.trans (D8.out.mono D9.out.size));clear hown hg hcap hE8 O7 D7 D8 V9 N9;generalize l.take n++[ls]++l.drop n=l9 at *
         generalize V.take n++[.slice a7 ps.length c7]++V.drop n=V10 at *
         go_wp2_with fail
         refine Ku ?_;simp only[Qg,dz_,Qd,tz_]
         go_wp2_with fail
         simp only[Vg]
         go_wp2_with fail
         go_roundw
         case rel=>exact⟨i+1,a8,d8,V10,l9,by omega,by omega,by go_num,(by first | rfl | (rw[hln9];done) | (rw[hln9];congr 1;omega) | (congr 1;omega)),S8,D10⟩
         case measure=>simp[intOf];omega
        ·simp only[Qg,dz_,Qd,tz_]
         go_wp2_with fail
         have D_w5:=hd_ (((Below.refl wr.heap.size wr).alloc nr_ (.cells #[.slice a7 ps.length c7] 35)).drew);have K_w5:Hid ((wr.alloc (.cells #[.slice a7 ps.length c7] 35)).drew.heap[wr.heap.size]?=some (.cells #[.slice a7 ps.length c7] 35 (0,0))):=Kq wr #[.slice a7 ps.length c7] 35 wr.heap.size rfl;obtain⟨g2,hg2⟩:∃ g2,wr.heap.size=g2:=⟨_,rfl⟩;have hgw:wr.heap.size≤g2:=by rw[← hg2];exact Nat.le_refl _
         rw[hg2] at K_w5 ⊢;clear hg2;generalize (wr.alloc (.cells #[.slice a7 ps.length c7] 35)).drew=w5 at *
         go_wp2_with fail
         refine Ku ?_;simp only[Qg,dz_,Qd,tz_]
         go_wp2_with (at_builtin;refine Kk rfl (.tmp 72) (.tmp 75) 54 rfl Zh8 _ rfl (World.ownsRow_nil _ wr.heap.size _ 1) _ n _ (V.take n) rfl (fun h=>by cases h) HL75.out (HR75.out.below D_w5.out nr_) H175.out (by omega) (by omega) D_w5.out.size ?_)
         intro v1 w6 hown hg;obtain⟨a1,d1,rfl⟩:=Ky hown;have D_w6:Hid (Below wr.heap.size wr w6):=D_w5.out.grown hg D_w5.out.size (fun k hk=>by simp[Value.ownBlock] at hk)
         try rw[List.nil_append,Nat.zero_add] at hown
         have O_w6:=hd_ hown;have K_w6:=hd_ (Kd K_w5.out ((Below.refl w5.heap.size w5).grown hg nr_ (fun k hk=>by simp[Value.ownBlock] at hk)) nr_)
         clear hown hg I
         go_wp2_with fail
         refine Ku ?_;simp only[Qg,dz_,Qd,tz_]
         go_wp2_with (at_builtin;refine Kk rfl (.tmp 76) (.tmp 78) 54 rfl Zh8 _ rfl O_w6.out (some ⟨g2,0,none⟩) 1 1 [.slice a7 ps.length c7] rfl (by simp) rfl (Za1 K_w6.out) (by intro u hu;obtain rfl:=List.mem_singleton.1 hu;rfl) (by omega) (by omega) D_w6.out.size ?_)
         intro v2 w7 hown hg;obtain⟨a2,d2,rfl⟩:=Ky hown;have D7:Hid (Below wr.heap.size wr w7):=D_w6.out.grown hg D_w6.out.size (fun k hk=>(O_w6.out.lt k hk).1)
         have O7:=hd_ hown;clear hown hg
         go_wp2_with fail
         refine Ku ?_;simp only[Qg,dz_,Qd,tz_]
         go_wp2_with (at_builtin;refine Kk rfl (.tmp 79) (.tmp 82) 54 rfl Zh8 _ rfl O7.out _ (l.length-n) _ (V.drop n) rfl (fun h=>by cases h) HL82.out (HR82.out.below D7.out nr_) H182.out (by omega) (by omega) D7.out.size ?_)
         intro v3 w8 hown hg;obtain⟨a8,d8,rfl⟩:=Ky hown;have hown9:w8.ownsRow wr.heap.size 35 1 (.slice a8 (n+1+(l.length-n)) d8) (n+1+(l.length-n)) (V.take n++[.slice a7 ps.length c7]++V.drop n):=by simpa using hown
         clear hown;have D8:Hid (Below wr.heap.size wr w8):=D7.out.grown hg D7.out.size (fun k hk=>(O7.out.lt k hk).1)
         have hE8:n+1+(l.length-n)=(l.take n++[ls]++l.drop n).length:=by rw[hln9];omega
         have hown:=hown9;rw[hE8] at hown;have hcap:(l.take n++[ls]++l.drop n).length≤d8∧∃ g8,a8=some ⟨g8,0,none⟩:=by
          obtain⟨g8,cap,hv,-,-,hc8,-,-⟩:=Qb hown (by rw[hln9];omega)
          simp only[Value.slice.injEq] at hv;obtain⟨h1,h2,h3⟩:=hv;exact⟨by omega,g8,h1⟩
         have S8:Hid (SoI w8 ps a8 d8 (V.take n++[.slice a7 ps.length c7]++V.drop n) (l.take n++[ls]++l.drop n)):=by
          obtain⟨hc8,g8,rfl⟩:=hcap;exact⟨V9.out.below D8.out nr_,Zcu hown,N9.out,.inr ⟨g8,0,rfl,by rw[hln9];omega,hc8⟩⟩
         have D10:=hd_ (D9.out.trans (D8.out.mono D9.out.size));clear hown hg hcap hE8 O7 D7 D8 V9 N9;generalize l.take n++[ls]++l.drop n=l9 at *
         generalize V.take n++[.slice a7 ps.length c7]++V.drop n=V10 at *
         go_wp2_with fail
         refine Ku ?_;simp only[Qg,dz_,Qd,tz_]
         go_wp2_with fail
         simp only[Vg]
         go_wp2_with fail
         go_roundw
         case rel=>exact⟨i+1,a8,d8,V10,l9,by omega,by omega,by go_num,(by first | rfl | (rw[hln9];done) | (rw[hln9];congr 1;omega) | (congr 1;omega)),S8,D10⟩
         case measure=>simp[intOf];omega
  ·have hi4:i=4:=by omega
   have hlt':¬ (i:Int)<4:=by omega
   have R9:=hd_ (Rp.out.below HB.out nr_);have A9:=hd_ (HS.out.sv.szAt HS.out.sr);have D9:=hd_ HS.out.sd;have B9:=hd_ (B1.out.trans (HB.out.mono B1.out.size));clear HS HB
   go_wp2_with fail
   go_ret2
   exact⟨_,bo,d,l,rfl,D9.out,by omega,A9.out,R9.out,B9.out⟩
def Zj9 (c:List Int) (k:Nat):Bool:=decide (∀ i,i<k→0<c.getD i 0)
theorem Zqs(c:List Int)(k:Nat):Zj9 c (k+1)=(Zj9 c k&&decide (0<c.getD k 0)):=by
 unfold Zj9;rw[← Bool.decide_and];refine decide_eq_decide.2 ⟨fun h=>⟨fun i hi=>h i (by omega),h k (by omega)⟩,fun h i hi=>?_⟩
 rcases Nat.lt_or_ge i k with h1|h1
 ·exact h.1 i h1
 ·obtain rfl:i=k:=by omega
  exact h.2
theorem Zuc{s:ByteArray}(hv:chk (lb s)=0)(hf:Zj9 (cnt (lb s)) (cnt (lb s)).length=true):(⟨(Zn8 (Znc (lb s)) (lb s).length).toArray⟩:ByteArray)=s:=by
 have h:=Zwf (s:=lb s) (fun x hx=>by
  obtain⟨k,hk,rfl⟩:=List.mem_iff_getElem.1 hx;rw[Kr] at hk;rw[Vf s k hk];exact Za6 s (Zaw s hv) k hk) (of_decide_eq_true hf)
 rw[h];exact bs_lb s
theorem Zz4(w:World)(al:Option Addr)(cl:Nat)(lw:List UInt8)(few:UInt8)(pn:Nat)(nu:Nat→Nat→Int)(de:Nat→Nat→Nat)(hr:Zo w al lw)(hm:lw.length≤maxLen)(hpn:pn<256)(hnu:∀ i k,-128≤nu i k∧nu i k≤127)(hde:∀ i k,de i k<256)(L:Qx w):
  Kc Tryz.prog 6 #[.agg #[.slice al lw.length cl,.int .u8 few.toNat],.agg (Ys pn nu de)] w (.bool true):=by
 unfold Kc;have hp:=Zim (pn%10) (Nat.mod_lt _ (by decide))
 have hps:=Zea (pn%10) (Nat.mod_lt _ (by decide))
 have HK:Hid (∀ W,Kc Tryz.prog 19 #[] W (.bool true)):=fun W=>Ztb W
 have HMk:Hid (∀ W,Below w.heap.size w W→Kc Tryz.prog 37 #[.agg #[.slice al lw.length cl,.int .u8 few.toNat]] W (.string (bs (mk lw few)))):=fun W hW=>Zsz al lw cl few W (hr.below hW) hm
 have HSo:Hid (∀ W,Below w.heap.size w W→Calls Tryz.prog 38 #[.agg (Ys pn nu de)] W (Zev pn W)):=fun W hW=>Zpw W pn nu de hpn hnu hde (L.below hW)
 unfold Zev at HSo;have hchk:=Qal lw few;have hmem:∀ x∈lb (bs (mk lw few)),97≤x.toNat∧x.toNat≤100:=by rw[lb_bs];exact Zw0 lw few
 have hsz:(bs (mk lw few)).size≤14:=by rw[bs_size];exact(Zlk lw few).2
 generalize bs (mk lw few)=s at *
 generalize Yf (pn%10)=ps at *
 obtain⟨hp0,hp4,hp1,hp2⟩:=hp;obtain⟨hq1,hq2⟩:=hps;have hi64:Zf3 ps:=fun x hx=>by have:=hp2 x hx;omega
 have hp100:ps.length≤100:=by omega
 have HCo:Hid (∀ W,Calls Tryz.prog 22 #[.string s] W fun e w'=>∃ v,e = .returned v∧Qa1 W (cnt (lb s)) v w'):=fun W=>Znb s W hchk
 have HFew:Hid (∀ W a0 al c0 cl (l:List (List Rat)),Below w.heap.size w W→Ye ps l→l.length≤4→Rd W a0 (Qw ps)→Zrh W ps.length al l→¬ (cnt (lb s)).length≤l.length→Kc Tryz.prog 25 #[.slice a0 ps.length c0,.string s,.slice al l.length cl] W (.tuple #[.agg #[.slice none 0 0,.slice none 0 0],.int .i64 5])):=fun W a0 al c0 cl l hW D hl r A hx =>
  Zt5 W ps l s a0 al c0 cl D hp0 hi64 hp100 (by omega) r A hchk (fun h=>hx ((Zer _ _).2 h)) (L.below hW)
 have HBu:Hid (∀ W a0 al c0 cl (l:List (List Rat)),Below w.heap.size w W→Ye ps l→l.length≤4→Rd W a0 (Qw ps)→Zrh W ps.length al l→(cnt (lb s)).length≤l.length→Calls Tryz.prog 25 #[.slice a0 ps.length c0,.string s,.slice al l.length cl] W fun e w'=>∃ a c b d,e = .returned (.tuple #[.agg #[.slice a ps.length c,.slice b s.size d],.int .i64 0])∧Zdg w' ps a b (Zf2 l (lb s))∧Below W.heap.size W w'):=fun W a0 al c0 cl l hW D hl r A hx =>
  Zwe W ps l s a0 al c0 cl D hp0 hp2 hq1 hq2 hp100 (by omega) r A hchk hsz ((Zer _ _).1 hx) (L.below hW)
 have HZ:Hid (∀ W a0 c0 (D:List (List Rat)),Below w.heap.size w W→Rd W a0 (Qw ps)→Calls Tryz.prog 39 #[.slice a0 ps.length c0] W fun e w'=>∃ a c,e = .returned (.tuple #[.slice a ps.length c,.int .i64 0])∧Rd w' a (Kg (psL ps.length D 0))∧Below W.heap.size W w'):=fun W a0 c0 D hW r=>by
  have:=Zmn W a0 c0 ps r hi64 (by omega) hp0 (L.below hW)
  unfold Zci at this;rw[List.length_replicate] at this;refine cm_ this ?_;rintro e w' ⟨a,c,rfl,ho,hb⟩;exact⟨a,c,rfl,ho.rd,hb⟩
 have HO:Hid (∀ l:List (List Rat),Ye ps l→(cnt (lb s)).length≤l.length→Zaa ps 480 12 (Zf2 l (lb s))):=fun l D hx=>Zt8 D hp0 hp2 hq1 hq2 hp100 (by rw[Kr];exact(Zaj s hchk).1) (by rw[Kr];exact hsz) ((Zer _ _).1 hx)
 have HKey:Hid (∀ l:List (List Rat),Ye ps l→l.length≤4→(cnt (lb s)).length≤l.length→Zrf ps (Zf2 l (lb s)) (Znc (lb s))):=fun l D hl hx=>Zt9 D (Zak hq1) ((Zer _ _).1 hx) (by omega)
 have HAd:Hid (∀ W a0 c0 (D:List (List Rat)) k a c a' c',Below w.heap.size w W→Zaa ps 480 12 D→k<D.length→Rd W a0 (Qw ps)→Rd W a (Kg (psL ps.length D k))→Rd W a' (Kg (D.getD k []))→Calls Tryz.prog 40 #[.slice a0 ps.length c0,.slice a ps.length c,.slice a' ps.length c'] W fun e w'=>∃ a c,e = .returned (.tuple #[.slice a ps.length c,.int .i64 0])∧Rd w' a (Kg (psL ps.length D (k+1)))∧Below W.heap.size W w'):=fun W a0 c0 D k a c a' c' hW O hk r0 r1 r2=>by
  have m:=Kl hk;refine cm_ (Zuf W ps a0 a a' c0 c c' _ _ r0 hi64 hp0 r1 r2 (O.plen k (by omega)) (O.len _ m) (O.psm (by omega)) (O.dsm _ m) (O.psm (k:=k+1) (by omega)) (L.below hW)) ?_
  rintro e w' ⟨a,c,rfl,ho,hb⟩;exact⟨a,c,rfl,ho.rd,hb⟩
 have HEq:Hid (∀ W a1 a2 c1 c2 (la:List Rat),la.length=ps.length→Rd W a1 (Kg la)→Rd W a2 (Kg la)→Kc Tryz.prog 41 #[.slice a1 ps.length c1,.slice a2 ps.length c2] W (.bool true)):=fun W a1 a2 c1 c2 la hl r1 r2=>by
  have:=Zd5 W a1 a2 c1 c2 (la.map qs) (la.map qs) r1 r2 (by rw[List.length_map];omega)
  rw[List.length_map,hl,decide_eq_true rfl] at this;exact this
 have HOf:Hid (∀ W a0 b c0 d (D:List (List Rat)),Below w.heap.size w W→Zaa ps 480 12 D→Zrf ps D (Znc (lb s))→Zdg W ps a0 b D→D.length=(lb s).length→Calls Tryz.prog 27 #[.agg #[.slice a0 ps.length c0,.slice b s.size d]] W fun e w'=>e = .returned (.tuple #[.string ⟨(Zn8 (Znc (lb s)) (lb s).length).toArray⟩,.int .i64 0])∧Below W.heap.size W w'):=fun W a0 b c0 d D hW O K A hl=>by
  have:=Zrm W ps 480 12 D a0 b c0 d (Znc (lb s)) O A K (L.below hW)
  rw[hl,Kr] at this;rw[Kr];exact this
 have HSc:Hid (∀ W a0 b c0 d (D:List (List Rat)),Below w.heap.size w W→Zaa ps 480 12 D→Zdg W ps a0 b D→D.length=s.size→Kc Tryz.prog 26 #[.agg #[.slice a0 ps.length c0,.slice b s.size d]] W (.int .i64 0)):=fun W a0 b c0 d D hW O A hl=>by
  have:=Zdm W ps 480 12 D a0 b c0 d O A (L.below hW)
  rw[hl] at this;exact this
 have Hbk:=hd_ (Zuc hchk);have Hix:=hd_ (fun k (hk:k<s.size)=>Zcw hchk hk)
 have Hcl:Hid ((cnt (lb s)).length≤26):=Zqz _ (Zaw s hchk);have Hsm:=hd_ (Zl5 (lb s));have Hgd:Hid (∀ l k (hk:k<s.size),(Zf2 l (lb s)).getD k []=l.getD (ixB s[k]) []):=fun l k hk=>by rw[Zc9 l (lb s) (by rw[Kr];exact hk),(Zcw hchk hk).2.2]
 have Hfx:Hid (∀ m k (hk:k<s.size),(cnt (lb s)).length≤m→ixB s[k]<m):=fun m k hk h=>(Zer _ _).1 h _ (by rw[← Vf s k hk];exact List.getElem_mem _)
 clear hp0 hp1 hp2 hp4 hq1 hq2 hi64 hmem hchk hr hm hpn hnu hde L;have B0:=hd_ (((Below.refl w.heap.size w).alloc nr_ (.cells #[.slice al lw.length cl,.int .u8 few.toNat] 83)).alloc (by simp) (.cells (Ys pn nu de) 86))
 have C0:=hd_ (Ks (Kq w #[.slice al lw.length cl,.int .u8 few.toNat] 83 _ rfl) (.cells (Ys pn nu de) 86));have z1:(w.alloc (.cells #[.slice al lw.length cl,.int .u8 few.toNat] 83)).heap.size=w.heap.size+1:=by show (w.heap.push _).size=_;exact Array.size_push ..
 have E0:=hd_ (Kq (w.alloc (.cells #[.slice al lw.length cl,.int .u8 few.toNat] 83)) (Ys pn nu de) 86 _ z1);clear z1;go_enter Tryz.func6,Tryz.ntmps6
 go_wp2_with fail
 generalize (w.alloc (.cells #[.slice al lw.length cl,.int .u8 few.toNat] 83)).alloc (.cells (Ys pn nu de) 86)=w0 at *
 refine cm_ (HK.out _) ?_;rintro e_ w1 ⟨rfl,hb_⟩;have B1:=hd_ (B0.out.trans (hb_.mono B0.out.size));have C1:=hd_ (Kd C0.out hb_ nr_);have E1:=hd_ (Kd E0.out hb_ nr_);clear hb_ HK B0 C0 E0;obtain⟨k0,k1,-,-⟩:=Ka C1.out
 go_wp2_with fail
 clear k0 k1;refine cm_ (HMk.out _ B1.out) ?_;rintro e_ w2 ⟨rfl,hb_⟩;have B2:=hd_ (B1.out.trans (hb_.mono B1.out.size));have E2:=hd_ (Kd E1.out hb_ nr_);clear hb_ HMk B1 C1 E1;have hrg:Hid (w2.rangeAt (w.heap.size+1) 0 (Ys pn nu de).toList):=fun j v hv=>by
  rw[Nat.zero_add,cell_of_row _ _ _ _ _ _ E2.out]
  simpa using hv
 go_wp2_with (refine wpList_load_mid rfl 86 (.tmp 3) rfl (w.heap.size+1) 0 rfl (Ys pn nu de).toList _ hrg.out Tryz.underlying86 rfl (by kernel_rfl) ?_)
 clear hrg;refine cm_ (HSo.out _ B2.out) ?_;rintro e_ w3 ⟨gp,bo,d,l,rfl,D_,hl4,A_,r_,hb_⟩;have B3:=hd_ (B2.out.trans (hb_.mono B2.out.size));have HA:=hd_ A_;have Rp:=hd_ r_;have HD:=hd_ D_;clear hb_ A_ r_ D_ HSo B2 E2
 go_wp2_with fail
 refine cm_ (HCo.out _) ?_;rintro e_ w4 ⟨v,rfl,ho_,hb_⟩;obtain⟨ac,cc,rfl⟩:=Ky ho_;have Rc:=hd_ (Zcu ho_);have B4:=hd_ (B3.out.trans (hb_.mono B3.out.size));replace HA:=hd_ (HA.out.below hb_ nr_);replace Rp:=hd_ (Rp.out.below hb_ nr_);clear hb_ ho_ HCo B3;obtain⟨np,hnp⟩:∃ np,ps.length=np:=⟨_,rfl⟩;obtain⟨cn,hcn⟩:∃ cn,(cnt (lb s)).length=cn:=⟨_,rfl⟩;have Hcn:=hd_ hcn
 by_cases hx:cn≤l.length
 case neg =>
  have HF:=hd_ (HFew.out w4 _ bo ps.length d l B4.out HD.out hl4 Rp.out HA.out (by rw[hcn];exact hx))
  rw[hnp] at HF;rw[hcn,hnp];have hx':(l.length:Int)<cn:=by omega
  clear HFew HBu HZ HO HKey HAd HEq HOf HSc Hbk Hix Hcl Hsm Hgd Hfx Rc Rp HA HD hnp hcn
  go_wp2_with fail
  refine cm_ HF.out ?_;rintro e_ w5 ⟨rfl,hb_⟩;have B5:=hd_ (B4.out.trans ((hb_.alloc hb_.size (.cells #[.slice none 0 0,.slice none 0 0] 62)).mono B4.out.size));obtain⟨k0,k1,-,-⟩:=Ka (heap_alloc_new w5 (.cells #[.slice none 0 0,.slice none 0 0] 62));clear hb_ HF B4
  go_wp2_with fail
  go_ret;exact⟨rfl,B5.out⟩
 have HO1:=hd_ (HO.out l HD.out (by rw[hcn];exact hx))
 have HK1:=hd_ (HKey.out l HD.out hl4 (by rw[hcn];exact hx))
 have HB1:=hd_ (HBu.out w4 _ bo ps.length d l B4.out HD.out hl4 Rp.out HA.out (by rw[hcn];exact hx))
 have Hfl:=hd_ (fun k (hk:k<s.size)=>Hfx.out l.length k hk (by rw[hcn];exact hx))
 have Hg1:=hd_ (fun k (hk:k<s.size)=>Hgd.out l k hk)
 have hDl:(Zf2 l (lb s)).length=s.size:=by rw[Vk,Kr]
 generalize Zf2 l (lb s)=D at *
 have HDl:=hd_ hDl;have HDl2:Hid (D.length=(lb s).length):=by show _=_;rw[hDl,Kr]
 have hx':¬ (l.length:Int)<cn:=by omega
 clear HFew HBu HO HKey Hfx Hgd HD hDl;rw[hnp] at HB1 HZ HAd HEq HOf HSc HA;rw[hcn,hnp];have Hnp:=hd_ hnp;clear hnp hcn
 go_wp2_with fail
 refine cm_ HB1.out ?_;rintro e_ w5 ⟨a,c,b,dd,rfl,S_,hb_⟩;have hal_:Below w5.heap.size w5 (w5.alloc (.cells #[.slice a np c,.slice b s.size dd] 62)):=(Below.refl _ _).alloc nr_ _;have T9:Hid ((w5.alloc (.cells #[.slice a np c,.slice b s.size dd] 62)).heap[w5.heap.size]?=some (.cells #[.slice a np c,.slice b s.size dd] 62 (0,0))):=heap_alloc_new w5 _;have B5:=hd_ ((B4.out.trans (hb_.mono B4.out.size)).trans (hal_.mono (B4.out.trans (hb_.mono B4.out.size)).size));replace HA:=hd_ ((HA.out.below hb_ nr_).below hal_ nr_);replace Rp:=hd_ ((Rp.out.below hb_ nr_).below hal_ nr_);replace Rc:=hd_ ((Rc.out.below hb_ nr_).below hal_ nr_);have HS:=hd_ (S_.below hal_ nr_);clear hb_ hal_ S_ HB1 B4;obtain⟨k0,k1,-,-⟩:=Ka T9.out
 go_wp2_with fail
 clear k0 k1;generalize w5.alloc (.cells #[.slice a np c,.slice b s.size dd] 62)=w6 at *
 refine cm_ (HZ.out w6 _ np D B5.out Rp.out) ?_;rintro e_ w7 ⟨az,cz,rfl,rz_,hb_⟩;replace HA:=hd_ (HA.out.below hb_ nr_);replace Rp:=hd_ (Rp.out.below hb_ nr_);replace Rc:=hd_ (Rc.out.below hb_ nr_);replace HS:=hd_ (HS.out.below hb_ nr_);replace T9:=hd_ (Kd T9.out hb_ nr_);have B7:=hd_ (B5.out.trans (hb_.mono B5.out.size));have Rz:=hd_ rz_;clear hb_ rz_ HZ B5
 go_wp2_with fail
 go_loopw [11,12,13] (fun sm f i wr=>∃ (k:Nat) (a':Option Addr) (c':Nat),k≤s.size∧sm = .slice a' np c'∧f = .int .i64 0∧i = .int .i64 k∧Hid (Rd wr a' (Kg (psL np D k)))∧Hid (Below w7.heap.size w7 wr)) (fun _ _ i _=>s.size-(intOf i).toNat)
 case atStart=>exact⟨0,az,cz,Nat.zero_le _,rfl,rfl,rfl,Rz,Below.refl _ _⟩
 case round =>
  clear Rz;obtain⟨k,a',c',hk,rfl,rfl,rfl,Rs,HB⟩:=hrel;have Bw:=hd_ (B7.out.trans (HB.out.mono B7.out.size))
  by_cases hlt:k<s.size
  ·obtain⟨hc1,hc2,-⟩:=Hix.out k hlt;have hjm:=Hfl.out k hlt;have hgk:=Hg1.out k hlt;generalize ixB s[k]=j at *
   have hw8:IntKind.u8.wrap ((s[k].toNat:Int)-97)=(j:Int):=by
    rw[hc1,IntKind.wrap_u8];omega
   have hs256:(s[k].toNat:Int)<256:=by omega
   have hlt':(k:Int)<s.size:=by omega
   obtain⟨bb,oo,rfl,-,hAt⟩:∃ b off,bo=some ⟨b,off,none⟩∧b<w7.heap.size∧∀ k,k<l.length→∃ a' c',w7.cell? ⟨b,off+k,none⟩=some (.slice a' np c')∧Rd w7 a' (Kg (l.getD k [])):=by
    rcases HA.out with h|h
    ·rw[h] at hjm;simp at hjm
    ·exact h
   have hbw:bb<w7.heap.size:=by
    rcases HA.out with h|⟨b9,o9,h1,h2,-⟩
    ·rw[h] at hjm;simp at hjm
    ·simp only[Option.some.injEq,Addr.mk.injEq,and_true] at h1;rw[h1.1];exact h2
   obtain⟨a2,c2,k2,r2⟩:=hAt j hjm;have k2':=(HB.out.cell (p:=⟨bb,oo+j,none⟩) hbw).trans k2;have R2:=hd_ (r2.below HB.out nr_);rw[← hgk] at R2;have HA1:=hd_ (HAd.out wr _ np D k a' c' a2 c2 Bw.out HO1.out (by rw[HDl.out];exact hlt) (Rp.out.below HB.out nr_) Rs.out R2.out)
   clear k2 r2 hAt hgk R2 Rs hbw;have hcs:∃ y:Nat,s[k].toNat=y:=⟨_,rfl⟩
   go_wp2_with fail
   clear k2';refine cm_ HA1.out ?_;rintro e_ w8 ⟨a3,c3,rfl,r3,hb_⟩;have HB8:=hd_ (HB.out.trans (hb_.mono HB.out.size));have R3:=hd_ r3;clear hb_ r3 HA1 HB Bw;obtain⟨k0,k1,-,-⟩:=Ka (Kd T9.out HB8.out nr_);obtain⟨b4,o4,hb4,hl4',hN⟩:=HS.out.rl;obtain⟨a5,c5,k5,r5⟩:=hN k (by rw[HDl.out];exact hlt)
   have k5':=(HB8.out.cell (p:=⟨b4,o4+k,none⟩) hl4').trans k5;rw[Hnp.out] at k5' r5;have R5:=hd_ (r5.below HB8.out nr_);have HE1:=hd_ (HEq.out w8 a5 a3 c5 c3 (psL np D (k+1)) (by have h:=HO1.out.plen (k+1) (by rw[HDl.out];omega);rw[← Hnp.out];exact h) R5.out R3.out)
   subst hb4;clear k5 r5 hN hl4' R5
   go_wp2_with fail
   clear k0 k1 k5';refine cm_ HE1.out ?_;rintro e_ w9 ⟨rfl,hb_⟩;have HB9:=hd_ (HB8.out.trans (hb_.mono HB8.out.size));have R9:=hd_ (R3.out.below hb_ nr_);clear hb_ HE1 HB8 R3
   go_wp2_with fail
   go_roundw
   case rel=>exact⟨k+1,a3,c3,by omega,rfl,rfl,by go_num,R9,HB9⟩
   case measure=>simp[intOf];omega
  ·have hlt':¬ (k:Int)<s.size:=by omega
   replace HS:=hd_ (HS.out.below HB.out nr_);replace T9:=hd_ (Kd T9.out HB.out nr_);replace Rc:=hd_ (Rc.out.below HB.out nr_);clear HA Rp Rs HB HAd HEq Hix Hfl Hg1 B7;have hc26:cn≤26:=by have:=Hcl.out;rw[Hcn.out] at this;exact this
   go_wp2_with fail
   go_loopw [14,15] (fun fu i wx=>∃ (k:Nat) ,k≤cn∧fu = .bool (Zj9 (cnt (lb s)) k)∧i = .int .i64 k∧wx=wr) (fun _ i _=>cn-(intOf i).toNat)
   case atStart=>exact⟨0,Nat.zero_le _,by unfold Zj9;rw[decide_eq_true (fun i hi=>absurd hi (Nat.not_lt_zero _))],rfl,rfl⟩
   case round =>
    obtain⟨i,hi,rfl,rfl,hwr⟩:=hrel;have hwr':=hwr.symm;clear hwr;subst hwr'
    by_cases hic:i<cn
    ·have hic':(i:Int)<cn:=by omega
     have hf:=Zqs (cnt (lb s)) i;obtain⟨b6,o6,hb6,hl6,hc6⟩:=Rc.out.open (by rw[Qm,Hcn.out];omega)
     have k6:=hc6 i _ (Vl (cnt (lb s)) i (by rw[Hcn.out];exact hic))
     have hg6:(cnt (lb s)).getD i 0=(cnt (lb s))[i]'(by rw[Hcn.out];exact hic):=by rw[List.getD_eq_getElem?_getD,List.getElem?_eq_getElem (by rw[Hcn.out];exact hic)];rfl
     rw[hg6] at hf;have Hf:=hd_ hf;generalize (cnt (lb s))[i]'(by rw[Hcn.out];exact hic)=y at *
     generalize Zj9 (cnt (lb s)) i=fb at *
     subst hb6;clear hf hc6 hl6 hg6;cases fb
     ·go_wp2_with fail
      go_roundw
      case rel=>exact⟨i+1,by omega,by rw[Hf.out,Bool.false_and],by go_num,by trivial⟩
      case measure=>simp[intOf];omega
     ·go_wp2_with fail
      go_roundw
      case rel=>exact⟨i+1,by omega,by rw[Hf.out,Bool.true_and],by go_num,by trivial⟩
      case measure=>simp[intOf];omega
    ·have hic':¬ (i:Int)<cn:=by omega
     have hie:i=cn:=by omega
     subst hie;have hfull:Hid (Zj9 (cnt (lb s)) i=true→(⟨(Zn8 (Znc (lb s)) (lb s).length).toArray⟩:ByteArray)=s):=fun h=>Hbk.out (by rw[Hcn.out];exact h)
     obtain⟨k0,k1,-,-⟩:=Ka T9.out;have HO9:=hd_ (HOf.out wr a b c dd D Bw.out HO1.out HK1.out HS.out HDl2.out);clear HOf Hbk Rc;generalize Zj9 (cnt (lb s)) i=fb at *
     generalize (⟨(Zn8 (Znc (lb s)) (lb s).length).toArray⟩:ByteArray)=bk at *
     go_wp2_with fail
     clear k0 k1;refine cm_ HO9.out ?_;rintro e_ w8 ⟨rfl,hb_⟩;have B8:=hd_ (Bw.out.trans (hb_.mono Bw.out.size));replace T9:=hd_ (Kd T9.out hb_ nr_);have HC9:=hd_ (HSc.out w8 a b c dd D B8.out HO1.out (HS.out.below hb_ nr_) HDl.out);clear hb_ HO9 Bw HSc HS;obtain⟨k0,k1,-,-⟩:=Ka T9.out
     go_wp2_with fail
     clear k0 k1;refine cm_ HC9.out ?_;rintro e_ w9 ⟨rfl,hb_⟩;have B9:=hd_ (B8.out.trans (hb_.mono B8.out.size));clear hb_ HC9 B8 T9;cases fb
     ·go_wp2_with fail
      go_ret;exact⟨rfl,B9.out⟩
     ·have hbk:=hfull.out rfl;subst hbk
      go_wp2_with fail
      go_ret;exact⟨by simp,B9.out⟩
end Go.Proofs.YtbielfplgbammaaGreatDoor

namespace Go.Proofs.YtbielfplgbammaaGreatDoor
open Go.ChangeShapes Go.WideShapes Go.ChangeAt Go.RowKit
theorem Ze0(os:Os)(started:os.Started)(H:Type)(enc:TypeId×Value→H):
  ReturnsInHanded {} Tryz.checked os 6 .any (fun w args=>(Rows.wordBuildsSpec.pre enc Tryz.prog Tryz.f6 [] false w args∧laidMetH Tryz.prog Zta w)∧sizedMet enc Tryz.prog Tryz.f6 (OpenSpec.ofChange Rows.wordBuildsSpec) false w args)
   (Rows.wordBuildsSpec.post enc Tryz.prog Tryz.f6 false true false false):=by
 refine returnsInHanded_of_change_and (C:=Tryz.checked) (X:=fun w _=>laidMetH Tryz.prog Zta w) (fun _ _ _ hh h=>h.of_heap hh) own started (by kernel_rfl) Tryz.func6
  (ChangeSpec.witness_shaped (enc:=enc) (C:=Tryz.checked) (os:=os) (X:=fun w _=>laidMetH Tryz.prog Zta w) false (World.doorLaid Tryz.prog 400 os) #[.agg #[.slice none 0 0,.int .u8 0],.agg #[.int .u8 0,.int .i8 0,.int .u8 0,.int .i8 0,.int .u8 0,.int .i8 0,.int .u8 0,.int .i8 0,.int .u8 0,.int .i8 0,.int .u8 0,.int .i8 0,.int .u8 0,.int .i8 0,.int .u8 0,.int .i8 0,.int .u8 0,.int .i8 0,.int .u8 0,.int .i8 0,.int .u8 0,.int .i8 0,.int .u8 0,.int .i8 0,.int .u8 0,.int .i8 0,.int .u8 0,.int .i8 0,.int .u8 0,.int .i8 0,.int .u8 0,.int .i8 0,.int .u8 0]] 8 rfl (World.shaped_of_RefB (by kernel_rfl) (by kernel_rfl)) (by kernel_rfl) (by kernel_rfl) (by kernel_rfl) (Zv5 os _)) ?_
 intro W base args ds gs before hval0 hW _ _ hL _;have hval:∀ (j:Nat) t v,Tryz.f6.params[j]?=some t→args[j]?=some v→Value.okWide Tryz.prog W .any base t v:=hval0;have hW':=hW;obtain⟨p,q,hA0,hV,rfl,hfz,hnd⟩:=hW;have hA:DataW.TrodAll enc Tryz.prog W 0 (fun _=>true) true Tryz.f6.params.toList args.toList ds p:=hA0
 rw[Tryz.params6] at hA hval;obtain⟨v0,vs0,d0,ds0,p0,q0,hargs,rfl,rfl,h0,r0⟩:=trodAll_cons hA;obtain⟨v1,vs1,d1,ds1,p1,q1,rfl,rfl,rfl,h1,r1⟩:=trodAll_cons r0;obtain⟨rfl,rfl,rfl⟩:=trodAll_nil r1;obtain rfl:args = #[v0,v1]:=by cases args;simp_all
 obtain⟨rfl,rfl⟩:=trodVars_none hV;have k0:=h0;have lt0:∀ x∈p0,x.block<W.heap.size:=by obtain⟨m,hm⟩:=k0;exact DataW.trod_lt m _ _ _ hm
 have k1:=h1;have lt1:∀ x∈p1,x.block<W.heap.size:=by obtain⟨m,hm⟩:=k1;exact DataW.trod_lt m _ _ _ hm
 obtain⟨al,cl,lw,few,rfl,hr,hl⟩:=Zlf (hval 0 83 v0 rfl rfl) h0;obtain⟨pn,nu,de,rfl,hpn,hnu,hde⟩:=Zqb (hval 1 86 v1 rfl rfl) h1;clear hA0 hval0;refine(Zz4 W al cl lw few pn nu de hr hl hpn hnu hde (Zx6 hL)).mono fun e W' ⟨he,bel⟩=>?_
 subst he;exact⟨_,rfl,_,_,_,[],_,[],hW',trodAll_mk1 (shut_bool Tryz.underlying4 _),(trodAll_cons_mk (Below.trod Zs9 (by kernel_rfl) (of_decide_eq_true (by kernel_rfl)) k0 bel lt0) (trodAll_cons_mk (Below.trod Zs9 (by kernel_rfl) (of_decide_eq_true (by kernel_rfl)) k1 bel lt1) trodAll_mk0)),rfl,bel.frame _,fun h=>by cases h⟩
theorem Zh0:Rows.WordBuildsSaid :=
 OpenClaim.holds_of_wide 6 Tryz.f6 rfl rfl rfl rfl rfl rfl rfl ⟨rfl,rfl,rfl,rfl,rfl⟩ rfl rfl rfl rfl rfl (by as_aux_lemma=>kernel_rfl) Tryz.func6 (by
   unfold joinedFacts;simp only[Bool.and_eq_true]
   repeat' (refine And.intro ?_ ?_)
   all_goals (as_aux_lemma=>kernel_rfl))
  (by as_aux_lemma=>exact of_decide_eq_true (by kernel_rfl)) (by unfold Func.isWrapper;first | (rw[if_pos (by decide +kernel)];kernel_rfl) | (rw[if_neg (by decide +kernel)];exact⟨rfl,rfl⟩))
  (fun os started H enc _=>Ze0 os started H enc)
end Go.Proofs.YtbielfplgbammaaGreatDoor
