/- Lemmas for the laws of this seat, part 5. -/
import Derived.Deep.RegionLaw
import Derived.RegionTactic
import Derived.Deep.DeepCutAuto
import Derived.Test.YtnjedhgcfeoemaaGreatDoorCards
import Derived.Test.YtnjedhgcfeoemaaGreatDoorTie
import Derived.SevenTiedAt
import Derived.Test.YtnjedhgcfeoemaaGreatDoorWa4
set_option maxRecDepth 100000
set_option maxHeartbeats 16000000
namespace Go.Proofs.YtnjedhgcfeoemaaGreatDoor
open Go.RowKit Go.Shelf
attribute [local go_sem] Oper.semAt_some
structure OfI (X w2:World) (n m:Nat) (D:List (List Rat)) (T F:Nat→Nat) (k:Nat):Prop where
 row:RowB X w2.heap.size 5 (outB T F m k)
 b7:X.heap[w2.heap.size + 1]?=some (.cells #[.slice (some ⟨w2.heap.size,0,none⟩) m m] 62 (0,0))
 b8:X.heap[w2.heap.size + 1 + 1]?=some (.cells #[.int .i64 (if k=0 then -1 else (lvB (fun j=>T (F j)) m k:Nat))] 3 (0,0))
 b9:∃ al nl cl,X.heap[w2.heap.size + 1 + 1 + 1]?=some (.cells #[.slice al nl cl] 38 (0,0))∧(0 < k→nl=n∧Rd w2 al (cellsQ (D.getD (F (m - 1 - (k - 1))) [])))
 bel:Below w2.heap.size w2 X
theorem OfI.kept {X Y w2:World} {n m:Nat} {D:List (List Rat)} {T F:Nat→Nat} {k r:Nat} (h:OfI X w2 n m D T F k) (hg:X.grownBy Y (some r)) (hr:w2.heap.size + 4≤r):OfI Y w2 n m D T F k:=by
 have keep:∀ (g:Nat) (o:Obj),X.heap[g]?=some o→g < w2.heap.size + 4→Y.heap[g]?=some o:=fun g o h1 h2=>(hg.block g (Array.getElem?_eq_some_iff.1 h1).1 (fun e=>by have:=Option.some.inj e; omega)).trans h1
 obtain ⟨al,nl,cl,h1,h2⟩:=h.b9
 refine ⟨?_,keep _ _ h.b7 (by omega),keep _ _ h.b8 (by omega),⟨al,nl,cl,keep _ _ h1 (by omega),h2⟩,h.bel.trans ⟨hg.os,hg.tape,hg.output,hg.size,fun i hi=>hg.block i (by have:=h.bel.size; omega) (fun e=>by have:=Option.some.inj e; omega)⟩⟩
 have hrow:=h.row
 unfold RowB World.rowIs at hrow ⊢
 obtain ⟨c,q1,q2,q3⟩:=hrow
 exact ⟨c,keep _ _ q1 (by omega),q2,q3⟩
theorem OfI.below {X Y w2:World} {n m:Nat} {D:List (List Rat)} {T F:Nat→Nat} {k:Nat} (h:OfI X w2 n m D T F k) (hb:Below X.heap.size X Y):OfI Y w2 n m D T F k:=by
 obtain ⟨al,nl,cl,h1,h2⟩:=h.b9
 refine ⟨?_,heap_kept h.b7 hb nr_,heap_kept h.b8 hb nr_,⟨al,nl,cl,heap_kept h1 hb nr_,h2⟩,h.bel.trans (hb.mono h.bel.size)⟩
 have hrow:=h.row
 unfold RowB World.rowIs at hrow ⊢
 obtain ⟨c,q1,q2,q3⟩:=hrow
 exact ⟨c,heap_kept q1 hb nr_,q2,q3⟩
theorem of_round {X Y Z w2:World} {n m E:Nat} {D:List (List Rat)} {T F:Nat→Nat} {k lv:Nat} (H:OfI X w2 n m D T F k) (hXY:Below X.heap.size X Y) (_hk:k < m) (hE:E=w2.heap.size + 5) (hX:E + 1 < X.heap.size)
  (h1:lv=lvB (fun j=>T (F j)) m (k + 1)) (h2:lv=gtN T m (T (F (m - 1 - k)))) (zs:Y.heap.size≤Z.heap.size) (zos:Z.os=Y.os∧Z.tape=Y.tape∧Z.output=Y.output)
  (z8:Z.heap[w2.heap.size + 1 + 1]?=some (.cells #[.int .i64 (lv:Nat)] 3 (0,0))) (z9:∃ al cl,Z.heap[w2.heap.size + 1 + 1 + 1]?=some (.cells #[.slice al n cl] 38 (0,0))∧Rd w2 al (cellsQ (D.getD (F (m - 1 - k)) [])))
  (zo:∀ i,i≠w2.heap.size + 1 + 1→i≠w2.heap.size + 1 + 1 + 1→Z.heap[i]?=Y.heap[i]?) :
  OfI (Z.setCell ⟨w2.heap.size,F (m - 1 - k),none⟩ (.int .u8 ((97 + lv:Nat):Int))) w2 n m D T F (k + 1)∧KpB w2.heap.size [E,E + 1,w2.heap.size + 1 + 1 + 1 + 1] X (Z.setCell ⟨w2.heap.size,F (m - 1 - k),none⟩ (.int .u8 ((97 + lv:Nat):Int))):=by
 have HY:=H.below hXY
 have hoth:∀ i,i≠w2.heap.size→(Z.setCell ⟨w2.heap.size,F (m - 1 - k),none⟩ (.int .u8 ((97 + lv:Nat):Int))).heap[i]?=Z.heap[i]?:=fun i hi=>Below.heap_setCell _ _ _ i hi
 obtain ⟨al,cl,q9,r9⟩:=z9
 have hbz:Below w2.heap.size Y Z:=⟨zos.1,zos.2.1,zos.2.2,zs,fun i hi=>zo i (by omega) (by omega)⟩
 have hbv:Below w2.heap.size Y (Z.setCell ⟨w2.heap.size,F (m - 1 - k),none⟩ (.int .u8 ((97 + lv:Nat):Int))):=hbz.setCell (p:=⟨w2.heap.size,F (m - 1 - k),none⟩) nr_ _
 have hrow:RowB Z w2.heap.size 5 (outB T F m k):=by
  have hr:=HY.row
  unfold RowB World.rowIs at hr ⊢
  obtain ⟨c,q1,q2,q3⟩:=hr
  exact ⟨c,(zo _ (by omega) (by omega)).trans q1,q2,q3⟩
 have h25:=gtN_le T m (T (F (m - 1 - k)))
 have hset:=hrow.set (F (m - 1 - k)) (97 + lv) (by omega)
 rw [h2,← outB_succ] at hset
 refine ⟨⟨by rw [h2]; exact hset,(hoth _ (by omega)).trans ((zo _ (by omega) (by omega)).trans HY.b7),?_,⟨al,n,cl,(hoth _ (by omega)).trans q9,fun _=>⟨rfl,by rw [Nat.add_sub_cancel]; exact r9⟩⟩,HY.bel.trans hbv⟩,?_⟩
 ·rw [if_neg (by omega),← h1]
  exact (hoth _ (by omega)).trans z8
 ·refine ⟨(hXY.mono H.bel.size).trans hbv,fun i hi=>?_⟩
  have hc:w2.heap.size + 4≤i∧i < X.heap.size:=by
   simp only [List.mem_cons,List.not_mem_nil,or_false] at hi
   omega
  exact (hoth i (by omega)).trans ((zo i (by omega) (by omega)).trans (hXY.block i hc.2))
structure Cell2W (p:Addr) (v:Value) (q:Addr) (u:Value) where
 w:World
 h1:w.cell? p=some v
 h2:w.cell? q=some u
def ofAct (a0 al ao:Option Addr) (c0 cl co n m d1 b s4 g bs os E:Nat) (q y:Int):Act :=
 { tmps := #[.agg #[.slice a0 n c0,.slice al m cl],.pointer (some ⟨b,0,none⟩),.pointer (some ⟨b + 1,0,none⟩),.pointer (some ⟨b + 1 + 1,0,none⟩),.pointer (some ⟨s4,0,none⟩),.int .i64 0,.slice ao m co,.pointer (some ⟨g + 1,0,none⟩),.pointer (some ⟨g + 1 + 1,0,none⟩),.pointer (some ⟨g + 1 + 1 + 1,0,none⟩),undef,.int .i64 y,
   .tuple #[.slice (some ⟨bs,os,none⟩) m d1,.int .i64 0],.agg #[.slice a0 n c0,.slice al m cl],.tuple #[.slice (some ⟨bs,os,none⟩) m d1,.int .i64 0],.slice (some ⟨bs,os,none⟩) m d1,.int .i64 0,.int .i64 0,.bool false,undef,.tuple #[.slice ao m co,.int .i64 0],.pointer (some ⟨b,0,none⟩),.slice a0 n c0,.slice (some ⟨bs,os,none⟩) m d1,
   .tuple #[.slice ao m co,.int .i64 0],.slice ao m co,.int .i64 0,.int .i64 0,.bool false,undef,.slice (some ⟨bs,os,none⟩) m d1,.int .i64 m,.slice (some ⟨g,0,none⟩) m m,.slice ao m co,.func (.func 179) #[] #[.pointer (some ⟨E,0,none⟩)],.int .i64 q,.int .i64 y,undef,undef,undef,undef,undef,undef,undef,undef,undef,undef,undef,undef,undef,undef,undef,undef,undef,undef,undef,undef,undef,undef,undef,undef,undef,undef,undef],defers:=[] }
theorem wordOf_ok (w:World) (ps:List Int) (N M:Nat) (D:List (List Rat)) (a0 al:Option Addr) (c0 cl:Nat) (T:Nat→Nat) (O:SclOk ps N M D) (A:SclAt w ps a0 al D) (K:KeyOk ps D T) (L:Laid w) :
  Calls Tryz.prog 38 #[.agg #[.slice a0 ps.length c0,.slice al D.length cl]] w fun e w'=>e = .returned (.tuple #[.string ⟨(wofB T D.length).toArray⟩,.int .i64 0])∧Below w.heap.size w w':=by
 have HS:Hid (∀ W,Below w.heap.size w W→Calls Tryz.prog 104 #[.agg #[.slice a0 ps.length c0,.slice al D.length cl]] W fun e w'=>∃ b d,e = .returned (.tuple #[.slice b D.length d,.int .i64 0])∧RdL w' b (D.map (List.map qs))∧Below W.heap.size W w'):=fun W hW =>
  sclSteps_ok W ps N M D a0 al c0 cl O (A.below hW nr_) (L.below hW)
 have HSo:Hid (∀ W b d,Below w.heap.size w W→RdL W b (D.map (List.map qs))→Calls Tryz.prog 105 #[.slice a0 ps.length c0,.slice b D.length d] W fun e w'=>∃ a c F,e = .returned (.tuple #[.slice a D.length c,.int .i64 0])∧Fin' (cS ps D) D.length F∧Rd w' a (ints ((List.range D.length).map fun (k:Nat)=>((F k:Nat):Int)))∧Below W.heap.size W w'):=fun W b d hW hr =>
  Sort_ok W ps a0 b c0 d D (A.rp.below hW nr_) hr O.sort (by have:=O.m14; omega) (L.below hW)
 have hlen:=O.len
 have hm1:=O.m1
 have hm14:=O.m14
 have hn4:=O.n4
 have hn0:0 < ps.length:=(pcode_pos O.p0).1
 have hpre:=cS_pre O.sort
 have Hmono:Hid (∀ F,Fin' (cS ps D) D.length F→∀ k,k + 1 < D.length→T (F k)≤T (F (k + 1))):=fun F hF k hk=>K.mono hF hk
 have Honto:Hid (∀ F,Fin' (cS ps D) D.length F→∀ u,u < D.length→∃ k,k < D.length∧F k=u):=fun F hF u hu=>hF.onto hpre hu
 have Hb:Hid (∀ i,i < D.length→T i < 26):=K.b
 have Heq:Hid (∀ u v,u < D.length→v < D.length→(D.getD u []=D.getD v []↔T u=T v)):=K.eq
 have Hcells:Hid (∀ W b,RdL W b (D.map (List.map qs))→∃ bs os,b=some ⟨bs,os,none⟩∧bs < W.heap.size∧∀ i,i < D.length→∃ a' c',W.cell? ⟨bs,os + i,none⟩=some (.slice a' ps.length c')∧Rd W a' (cellsQ (D.getD i []))):=fun W b h=>rdl_cells h hlen hm1
 have HEq:Hid (∀ W a1 a2 c1 c2 u v,u < D.length→v < D.length→Rd W a1 (cellsQ (D.getD u []))→Rd W a2 (cellsQ (D.getD v []))→Gives Tryz.prog 57 #[.slice a1 ps.length c1,.slice a2 ps.length c2] W (.bool (decide (T u=T v)))):=fun W a1 a2 c1 c2 u v hu hv h1 h2=>by
  have l1:=hlen _ (getD_memL hu)
  have l2:=hlen _ (getD_memL hv)
  have:=sizeEqual_any W a1 a2 c1 c2 ((D.getD u []).map qs) ((D.getD v []).map qs) h1 h2 (by rw [List.length_map]; omega)
  rw [List.length_map,List.length_map,l1,l2] at this
  have e:decide ((D.getD u []).map qs=(D.getD v []).map qs)=decide (T u=T v):=by
   rw [decide_eq_decide,← K.eq u v hu hv]
   exact List.map_inj_right fun a b h=>by
    have h1:=congrArg Prod.fst h
    have h2:=congrArg Prod.snd h
    exact qs_inj h
  rw [e] at this
  exact this
 clear O A K L hlen hpre
 generalize cS ps D=cs at *
 obtain ⟨m,hm⟩:∃ m,D.length=m:=⟨_,rfl⟩
 obtain ⟨n,hnn⟩:∃ n,ps.length=n:=⟨_,rfl⟩
 simp only [hm,hnn] at HS HSo Hmono Honto Hb Heq Hcells HEq hm1 hm14 hn0 hn4 ⊢
 clear hm hnn
 refine (callsIn_wide (n:=3)).1 ?_
 refine callsIn_of_wp_marks Tryz.func38 rfl trivial ?_ rfl
 simp only [Tryz.ntmps38,List.size_toArray,List.length_cons,List.length_nil,Nat.reduceAdd,Nat.reduceSub,Array.replicate_succ,Array.replicate_zero,List.push_toArray,List.append_toArray,List.nil_append,List.cons_append]
 obtain ⟨w0,hw0⟩:∃ w0,(((w.alloc (.cells #[.slice a0 n c0,.slice al m cl] 70)).alloc (.cells #[.string ⟨#[]⟩] 9)).alloc (.cells #[.int .i64 0] 28))=w0:=⟨_,rfl⟩
 obtain ⟨P1,P2,P3,b0,hs0⟩:=lis_boxes w _ _ _ _ _ _ w0 hw0
 obtain ⟨k0,k1,-,-⟩:=two_cells P1
 have H1:=hd_ P1
 have H2:=hd_ P2
 have H3:=hd_ P3
 have B0:=hd_ b0
 have Hs0:=hd_ hs0
 clear P1 P2 P3 b0 hs0
 gi_wp2_with fail
 clear hw0 k0 k1
 refine ⟨trivial,?_⟩
 refine (callsIn_wide.2 (HS.out _ B0.out)).mono ?_
 rintro e w1 ⟨b1,d1,rfl,hr1,hb⟩
 have B1:=hd_ (B0.out.trans (hb.mono B0.out.size))
 have hs1:Hid (w.heap.size + 3≤w1.heap.size):=by show _≤_; have:=hb.size; have:=Hs0.out; omega
 have H1:=hd_ (heap_kept H1.out hb nr_)
 have H2:=hd_ (heap_kept H2.out hb nr_)
 have H3:=hd_ (heap_kept H3.out hb nr_)
 obtain ⟨w1a,hw1a⟩:∃ w1a,w1.alloc (.cells #[.slice b1 m d1] 68)=w1a:=⟨_,rfl⟩
 have A1:Below w1.heap.size w1 w1a:=by rw [← hw1a]; exact (Below.refl _ _).alloc nr_ _
 have H4:Hid (w1a.heap[w1.heap.size]?=some (.cells #[.slice b1 m d1] 68 (0,0))):=by show _=_; rw [← hw1a]; exact heap_at w1 _ _ _ rfl
 have H1:=hd_ (heap_kept H1.out A1 nr_)
 have H2:=hd_ (heap_kept H2.out A1 nr_)
 have H3:=hd_ (heap_kept H3.out A1 nr_)
 have B1a:=hd_ (B1.out.trans (A1.mono B1.out.size))
 have Rl:=hd_ (hr1.below A1 nr_)
 have hs1a:Hid (w1.heap.size + 1≤w1a.heap.size):=by show _≤_; rw [← hw1a]; simp
 obtain ⟨k0,k1,-,-⟩:=two_cells H1.out
 obtain ⟨k4,-⟩:=one_cell H4.out
 have HSo1:=hd_ (HSo.out w1a b1 d1 B1a.out Rl.out)
 clear hb hr1 HS HSo B0 B1 A1 Hs0
 gi_wp2_with fail
 refine ⟨trivial,?_⟩
 refine (callsIn_wide.2 HSo1.out).mono ?_
 rintro e w2 ⟨ao,co,F,rfl,hF,hro,hb⟩
 clear hw1a k0 k1 k4
 have B2:=hd_ (B1a.out.trans (hb.mono B1a.out.size))
 have H1:=hd_ (heap_kept H1.out hb nr_)
 have H2:=hd_ (heap_kept H2.out hb nr_)
 have H3:=hd_ (heap_kept H3.out hb nr_)
 have H4:=hd_ (heap_kept H4.out hb nr_)
 have hs2:Hid (w.heap.size + 3≤w1.heap.size∧w1.heap.size + 1≤w2.heap.size):=by
  have h1:=hs1.out
  have h2:=hs1a.out
  have h3:=hb.size
  exact ⟨h1,by omega⟩
 obtain ⟨bs,os,rfl,hbs,hcl⟩:=Hcells.out w1a b1 Rl.out
 have HD:Hid (bs < w2.heap.size∧∀ i,i < m→∃ a' c',w2.cell? ⟨bs,os + i,none⟩=some (.slice a' n c')∧Rd w2 a' (cellsQ (D.getD i []))):=by
  refine ⟨Nat.lt_of_lt_of_le hbs hb.size,fun i hi=>?_⟩
  obtain ⟨a',c',k1,k2⟩:=hcl i hi
  exact ⟨a',c',(hb.cell (p:=⟨bs,os + i,none⟩) hbs).trans k1,k2.below hb nr_⟩
 have HFl:=hd_ hF.lt
 have Hmo:=hd_ (Hmono.out F hF)
 have Hon:=hd_ (Honto.out F hF)
 have Hro:=hd_ hro
 clear hb hF hro hbs hcl HSo1 Rl Hcells Hmono Honto B1a hs1 hs1a
 have hmk:=run_make_row' (P:=Tryz.prog) 62 5 (.int .u8 0) 1 Tryz.underlying62 infoB rfl .i64 .i64 m (by omega) (by omega) w2
 obtain ⟨k0,k1,-,-⟩:=two_cells H1.out
 obtain ⟨k4,-⟩:=one_cell H4.out
 gi_wp2_with fail
 refine ⟨trivial,?_⟩
 refine (callsIn_wide.2 (bakw_any _ ao co m)).mono ?_
 rintro e ws ⟨rfl,hws⟩
 simp only [World.size_alloc] at hws ⊢
 gi_wp2_with fail
 clear k0 k1 k4 hmk
 obtain ⟨E,hE⟩:∃ E,ws.heap.size=E:=⟨_,rfl⟩
 have hEs:E=w2.heap.size + 5:=by rw [← hE,hws]; simp
 have Q0:RowB ws w2.heap.size 5 (outB T F m 0):=by
  have h0:RowB (w2.alloc (.cells (madeCells #[.int .u8 0] m) 5)) w2.heap.size 5 (outB T F m 0):=by
   rw [outB_zero]
   unfold RowB
   rw [List.length_replicate]
   refine (World.rowIs_made w2 (.int .u8 0) m 5).congr fun j hj=>?_
   rw [List.getD_eq_getElem?_getD,List.getElem?_replicate,if_pos hj]; rfl
  unfold RowB World.rowIs at h0 ⊢
  obtain ⟨c,q1,q2,q3⟩:=h0
  refine ⟨c,?_,q2,q3⟩
  rw [hws]
  exact heap_old (heap_old (heap_old (heap_old q1 _) _) _) _
 have Q7:ws.heap[w2.heap.size + 1]?=some (.cells #[.slice (some ⟨w2.heap.size,0,none⟩) m m] 62 (0,0)):=by rw [hws]; exact heap_old (heap_old (heap_old (heap_at _ _ _ _ (by simp)) _) _) _
 have Q8:ws.heap[w2.heap.size + 1 + 1]?=some (.cells #[.int .i64 (-1)] 3 (0,0)):=by rw [hws]; exact heap_old (heap_old (heap_at _ _ _ _ (by simp)) _) _
 have Q9:ws.heap[w2.heap.size + 1 + 1 + 1]?=some (.cells #[.slice none 0 0] 38 (0,0)):=by rw [hws]; exact heap_old (heap_at _ _ _ _ (by simp)) _
 have hb1:ws.heap[w2.heap.size + 1 + 1 + 1 + 1]?=some (.cells #[.slice ao m co] 35 (0,0)):=by rw [hws]; exact heap_at _ _ _ _ (by simp)
 have G:Below w2.heap.size w2 ws:=by rw [hws]; exact (((((Below.refl _ w2).alloc nr_ _).alloc (by simp) _).alloc (by simp; omega) _).alloc (by simp; omega) _).alloc (by simp; omega) _
 clear hws
 refine range_back (n':=3) (by decide) ((List.range m).map fun (k:Nat)=>((F k:Nat):Int)) ao co m w2 ws G Hro.out (by rw [List.length_map,List.length_range]) (by omega) (by omega) (w2.heap.size + 1 + 1 + 1 + 1) hb1 rfl
  (fun k X=>k≤m∧OfI X w2 n m D T F k) ?hI ⟨Nat.zero_le _,Q0,Q7,Q8,⟨none,0,0,Q9,fun h=>absurd h (Nat.lt_irrefl _)⟩,G⟩
  (fun k=>ofAct a0 al ao c0 cl co n m d1 w.heap.size w1.heap.size w2.heap.size bs os (w2.heap.size + 1 + 1 + 1 + 1) ((m - 1 - k:Nat):Int) (((List.range m).map fun (k:Nat)=>((F k:Nat):Int)).getD (m - 1 - k) 0)) ?assign ?body ?done
 case hI =>
  rintro k A B r ⟨hk,H⟩ hg hr
  rw [hE] at hr
  exact ⟨hk,H.kept hg (by omega)⟩
 case assign =>
  intro k W K hk hK
  unfold ofAct at hK
  generalize ((List.range m).map fun (k:Nat)=>((F k:Nat):Int)).getD (m - 1 - k) 0=y at *
  generalize ((m - 1 - k:Nat):Int)=q at *
  gi_wp2
  exact hK
 case body =>
  rintro k X hk ⟨hkm,H⟩ hbX hsX
  rw [hE] at hsX ⊢
  have hyk:((List.range m).map fun (k:Nat)=>((F k:Nat):Int)).getD (m - 1 - k) 0=((F (m - 1 - k):Nat):Int):=by
   rw [List.getD_eq_getElem?_getD,List.getElem?_map,List.getElem?_range (by omega)]; rfl
  rw [hyk]
  unfold ofAct
  have HH:=hd_ H
  have HbX:=hd_ hbX
  clear hyk H hbX Q0 Q7 Q8 Q9 hb1 G
  have hfi:=HFl.out (m - 1 - k) (by omega)
  have hfi':((F (m - 1 - k):Nat):Int) < m:=by omega
  have hbs:=HD.out.1
  obtain ⟨a',c',kd,rd⟩:=HD.out.2 _ hfi
  have kd':=(HH.out.bel.cell (p:=⟨bs,os + F (m - 1 - k),none⟩) hbs).trans kd
  have RD:=hd_ rd
  have X4:=hd_ (heap_kept H4.out HH.out.bel nr_)
  obtain ⟨m4,-⟩:=one_cell X4.out
  obtain ⟨m8,f8⟩:=one_cell HH.out.b8
  obtain ⟨al9,nl9,cl9,hb9,hl9⟩:=HH.out.b9
  obtain ⟨m9,f9⟩:=one_cell hb9
  have HL9:=hd_ hl9
  have HB9:=hd_ hb9
  clear rd hbs hb9 hl9
  have I:Hid (Below X.heap.size X X.drew):=(Below.refl _ _).drew
  have hnon:Nonempty (BW X):=⟨⟨X,Below.refl _ _⟩⟩
  have KD:=hd_ (show w2.cell? ⟨bs,os + F (m - 1 - k),none⟩=some (.slice a' n c') from kd)
  obtain ⟨lv,hlv⟩:∃ lv,lvB (fun j=>T (F j)) m (k + 1)=lv:=⟨_,rfl⟩
  have hlv2:lv=gtN T m (T (F (m - 1 - k))):=by rw [← hlv]; exact lvB_eq (by omega) Hmo.out Hon.out HFl.out (fun j hj=>Hb.out _ (HFl.out j hj)) k hk
  have h25:lv≤25:=by rw [hlv2]; exact gtN_le _ _ _
  have Hlv1:=hd_ hlv.symm
  have Hlv2:=hd_ hlv2
  have hstep:lv=if k=0 then 0 else lvB (fun j=>T (F j)) m k + if T (F (m - 1 - k))=T (F (m - 1 - (k - 1))) then 0 else 1:=by rw [← hlv,lvB]
  clear hlv hlv2 kd
  rcases Nat.eq_zero_or_pos k with hk0 | hk0
  ·rw [if_pos hk0] at m8 hstep
   have Hk0:=hd_ hk0
   clear hk0
   have q4:=BW.cell m4
   have q8:=BW.cell m8
   have q9:=BW.cell m9
   have qd:=BW.cell kd'
   subst hstep
   gi_wp2_with fail
   refine wpIn_region_readers2 [(10,0),(1,1),(1,2),(10,3),(10,4),(1,5),(1,6),(10,7),(0,8),(0,9),(0,10)] [(8,fun w'=>∃ p:BW X,w'=p.w)] (by kernel_rfl) (by kernel_rfl) ⟨.inr ⟨⟨_,I.out⟩,rfl⟩,trivial⟩ ?_
   refine walkR2_read (s:=8) _ (List.mem_cons_self ..) rfl ?_
   simp only [dz_,tsc_,tz_]
   go_big_quiet_step (fail)
   refine wpQuiet_nil ?_
   iterate 2 (refine walkR2_any ?_; simp only [dsc_,dz_,tsc_,tz_]; go_big_quiet_step (fail); refine wpQuiet_nil ?_)
   iterate 2 (refine walkR2_read (s:=8) _ (List.mem_cons_self ..) rfl ?_; simp only [dsc_,dz_,tsc_,tz_]; go_big_quiet_step (fail); refine wpQuiet_nil ?_)
   iterate 2 (refine walkR2_any ?_; simp only [dsc_,dz_,tsc_,tz_]; go_big_quiet_step (fail); refine wpQuiet_nil ?_)
   iterate 1 (refine walkR2_read (s:=8) _ (List.mem_cons_self ..) rfl ?_; simp only [dsc_,dz_,tsc_,tz_]; go_big_quiet_step (fail); refine wpQuiet_nil ?_)
   refine walkR2_move ?_
   simp only [dsc_,dz_,tsc_,tz_]
   go_wp2_with fail
   refine ⟨⟨.inl rfl,trivial⟩,?_⟩
   iterate 2 (refine walkR2_move ?_; simp only [dsc_,dz_,tsc_,tz_]; go_wp2_with fail; refine ⟨⟨.inl rfl,trivial⟩,?_⟩)
   simp only [walkR2]
   clear q4 q8 q9 qd hnon
   gi_wp2_with fail
   have BY:Hid (Below X.heap.size X X.drew):=I
   clear m4 m8 f8 m9 f9 kd' I X4
   generalize X.drew=Y at *
   have HY:=hd_ (HH.out.below BY.out)
   have X4:=hd_ (heap_kept H4.out HY.out.bel nr_)
   obtain ⟨m4,-⟩:=one_cell X4.out
   obtain ⟨m8,f8⟩:=one_cell HY.out.b8
   rw [if_pos Hk0.out] at m8
   have m9:=(one_cell (heap_kept HB9.out BY.out nr_)).1
   have f9:=(one_cell (heap_kept HB9.out BY.out nr_)).2
   have kd':=(HY.out.bel.cell (p:=⟨bs,os + F (m - 1 - k),none⟩) HD.out.1).trans KD.out
   have hb9y:=heap_kept HB9.out BY.out nr_
   have m8d:Y.drew.cell? ⟨w2.heap.size + 1 + 1,0,none⟩=some (.int .i64 (-1:Int)):=m8
   have f8d:Y.drew.frozen? ⟨w2.heap.size + 1 + 1,0,none⟩=false:=f8
   have q8:=@CellW.h
   have q1:∀ p:Cell2W ⟨w1.heap.size,0,none⟩ (.slice (some ⟨bs,os,none⟩) m d1) ⟨bs,os + F (m - 1 - k),none⟩ (.slice a' n c'),p.w.cell? ⟨w1.heap.size,0,none⟩=some (.slice (some ⟨bs,os,none⟩) m d1):=fun p=>p.h1
   have q2:∀ p:Cell2W ⟨w1.heap.size,0,none⟩ (.slice (some ⟨bs,os,none⟩) m d1) ⟨bs,os + F (m - 1 - k),none⟩ (.slice a' n c'),p.w.cell? ⟨bs,os + F (m - 1 - k),none⟩=some (.slice a' n c'):=fun p=>p.h2
   have n8:Nonempty (CellW ⟨w2.heap.size + 1 + 1,0,none⟩ (.int .i64 (-1:Int))):=⟨⟨Y,m8⟩⟩
   have n2:Nonempty (Cell2W ⟨w1.heap.size,0,none⟩ (.slice (some ⟨bs,os,none⟩) m d1) ⟨bs,os + F (m - 1 - k),none⟩ (.slice a' n c')):=⟨⟨Y,m4,kd'⟩⟩
   obtain ⟨y8,y9,yo,yb⟩:=lis_ret (X:=Y.drew) (n₀:=w2.heap.size) (.int .i64 (0:Int)) (.slice a' n c') (show Y.drew.heap[w2.heap.size + 1 + 1]?=_ from HY.out.b8) (show Y.drew.heap[w2.heap.size + 1 + 1 + 1]?=_ from hb9y) (by omega) (by omega) (by omega)
   obtain ⟨Z,hZ⟩:∃ Z,((Y.setCell ⟨w2.heap.size + 1 + 1,0,none⟩ (.int .i64 (0:Int))).setCell ⟨w2.heap.size + 1 + 1 + 1,0,none⟩ (.slice a' n c')).drew=Z:=⟨_,rfl⟩
   have hZ':(Y.drew.setCell ⟨w2.heap.size + 1 + 1,0,none⟩ (.int .i64 (0:Int))).setCell ⟨w2.heap.size + 1 + 1 + 1,0,none⟩ (.slice a' n c')=Z:=hZ
   rw [hZ'] at y8 y9 yo yb
   have HFin:=hd_ (of_round (Z:=Z) (Y:=Y.drew) (lv:=0) HH.out (BY.out.trans (Below.refl _ Y).drew) hk rfl (by omega) Hlv1.out Hlv2.out yb.size ⟨yb.os,yb.tape,yb.output⟩ y8 ⟨a',c',y9,RD.out⟩ yo)
   have HZ0:Hid (RowB Z w2.heap.size 5 (outB T F m k)):=by
    have hr:=HY.out.row
    unfold RowB World.rowIs at hr
    obtain ⟨c,g1,g2,g3⟩:=hr
    exact ⟨c,(yo _ (by omega) (by omega)).trans g1,g2,g3⟩
   have m7:=(one_cell ((yo (w2.heap.size + 1) (by omega) (by omega)).trans HY.out.b7)).1
   have m8z:=(one_cell y8).1
   have m9s:(Y.drew.setCell ⟨w2.heap.size + 1 + 1,0,none⟩ (.int .i64 (0:Int))).cell? ⟨w2.heap.size + 1 + 1 + 1,0,none⟩=some (.slice al9 nl9 cl9):=by rw [World.cell?_setCell_other _ _ _ _ (by simp)]; exact m9
   have f9s:(Y.drew.setCell ⟨w2.heap.size + 1 + 1,0,none⟩ (.int .i64 (0:Int))).frozen? ⟨w2.heap.size + 1 + 1 + 1,0,none⟩=false:=by rw [World.frozen?_setCell]; exact f9
   have c2s:(Y.drew.setCell ⟨w2.heap.size + 1 + 1,0,none⟩ (.int .i64 (0:Int))).cell? ⟨w1.heap.size,0,none⟩=some (.slice (some ⟨bs,os,none⟩) m d1):=by rw [World.cell?_setCell_other _ _ _ _ (by simp; have:=hs2.out; omega)]; exact m4
   have c3s:(Y.drew.setCell ⟨w2.heap.size + 1 + 1,0,none⟩ (.int .i64 (0:Int))).cell? ⟨bs,os + F (m - 1 - k),none⟩=some (.slice a' n c'):=by rw [World.cell?_setCell_other _ _ _ _ (by simp; have:=HD.out.1; omega)]; exact kd'
   clear y8 y9 yo yb HY X4 hb9y
   refine wpIn_region_readers2 [(8,0),(1,1),(9,2),(1,3),(1,4),(9,5),(0,6),(0,7)] [(6,fun w'=>∃ p:CellW ⟨w2.heap.size + 1 + 1,0,none⟩ (.int .i64 (-1:Int)),w'=p.w),(7,fun w'=>∃ p:Cell2W ⟨w1.heap.size,0,none⟩ (.slice (some ⟨bs,os,none⟩) m d1) ⟨bs,os + F (m - 1 - k),none⟩ (.slice a' n c'),w'=p.w)] (by kernel_rfl) (by kernel_rfl) ⟨.inr ⟨⟨Y.drew,m8⟩,rfl⟩,.inr ⟨⟨Y.drew,m4,kd'⟩,rfl⟩,trivial⟩ ?_
   iterate 1 (refine walkR2_read (s:=6) _ (List.mem_cons_self ..) rfl ?_; simp only [dz_,tsc_,tz_]; go_big_quiet_step (fail); refine wpQuiet_nil ?_)
   iterate 1 (refine walkR2_any ?_; simp only [dsc_,dz_,tsc_,tz_]; go_big_quiet_step (fail); refine wpQuiet_nil ?_)
   iterate 1 (refine walkR2_read (s:=7) _ (List.mem_cons_of_mem _ (List.mem_cons_self ..)) rfl ?_; simp only [dsc_,dz_,tsc_,tz_]; go_big_quiet_step (fail); refine wpQuiet_nil ?_)
   iterate 2 (refine walkR2_any ?_; simp only [dsc_,dz_,tsc_,tz_]; go_big_quiet_step (fail); refine wpQuiet_nil ?_)
   iterate 1 (refine walkR2_read (s:=7) _ (List.mem_cons_of_mem _ (List.mem_cons_self ..)) rfl ?_; simp only [dsc_,dz_,tsc_,tz_]; go_big_quiet_step (fail); refine wpQuiet_nil ?_)
   clear q8 q1 q2 n8 n2
   refine walkR2_move ?_
   simp only [dsc_,dz_,tsc_,tz_]
   go_wp2_with fail
   refine ⟨⟨.inl rfl,.inr ⟨⟨_,c2s,c3s⟩,rfl⟩,trivial⟩,?_⟩
   refine walkR2_move ?_
   simp only [dsc_,dz_,tsc_,tz_]
   go_wp2_with fail
   refine ⟨⟨.inl rfl,.inl rfl,trivial⟩,?_⟩
   simp only [walkR2]
   try rw [hZ]
   clear hZ hZ'
   clear m8d f8d m8 f8 m9 f9 m9s f9s c2s c3s m4 kd'
   have mr:=HZ0.out
   have mrc:=RowB.cell (i:=F (m - 1 - k)) mr (by rw [outB_length]; exact hfi)
   have mrf:=RowB.frozen mr (F (m - 1 - k))
   clear mr
   gi_wp2_with fail
   show _∧_
   have hfin:=HFin.out
   exact ⟨⟨by omega,hfin.1⟩,hfin.2⟩
  ·rw [if_neg (by omega)] at m8 hstep
   obtain ⟨lk,hlk⟩:∃ lk,lvB (fun j=>T (F j)) m k=lk:=⟨_,rfl⟩
   rw [hlk] at m8 hstep
   have Hlk:=hd_ hlk
   have Hk0:Hid (¬ k=0):=by show ¬ k=0; omega
   obtain ⟨hn9,hr9⟩:=HL9.out hk0
   have hn9':=hn9.symm
   subst hn9'
   have HR9:=hd_ hr9
   have hu:m - 1 - (k - 1) < m:=by omega
   have hfu:=HFl.out _ hu
   have hkk:k < m:=hk
   have I:Hid (Below X.heap.size X X.drew):=(Below.refl _ _).drew
   have hneg:¬ (((lk:Nat):Int) < 0):=by omega
   have hneg2:decide (((lk:Nat):Int) < 0)=false:=decide_eq_false hneg
   have HE0:=HEq.out X.drew al9 a' cl9 c' _ _ hfu hfi ((hr9.below HH.out.bel nr_).below I.out nr_) ((RD.out.below HH.out.bel nr_).below I.out nr_)
   have q4:=BW.cell m4
   have q8:=BW.cell m8
   have q9:=BW.cell m9
   have qd:=BW.cell kd'
   have HeT:=Heq.out _ _ hfu hfi
   clear hlk hk0 hn9 hr9 hu hfu
   by_cases hT:T (F (m - 1 - (k - 1)))=T (F (m - 1 - k))
   ·rw [decide_eq_true hT] at HE0
    have HE1:=hd_ HE0
    have HeD:=hd_ (HeT.2 hT)
    rw [if_pos hT.symm] at hstep
    have Hlv:Hid (lv=lk):=hstep
    clear HE0 HeT hT hstep
    unfold Gives at HE1
    gi_wp2_with fail
    refine wpIn_region_readers2 [(10,0),(1,1),(1,2),(10,3),(10,4),(1,5),(1,6),(10,7),(0,8),(0,9),(0,10)] [(8,fun w'=>∃ p:BW X,w'=p.w)] (by kernel_rfl) (by kernel_rfl) ⟨.inr ⟨⟨_,I.out⟩,rfl⟩,trivial⟩ ?_
    refine walkR2_read (s:=8) _ (List.mem_cons_self ..) rfl ?_
    simp only [dz_,tsc_,tz_]
    go_big_quiet_step (fail)
    refine wpQuiet_nil ?_
    iterate 2 (refine walkR2_any ?_; simp only [dsc_,dz_,tsc_,tz_]; go_big_quiet_step (fail); refine wpQuiet_nil ?_)
    iterate 2 (refine walkR2_read (s:=8) _ (List.mem_cons_self ..) rfl ?_; simp only [dsc_,dz_,tsc_,tz_]; go_big_quiet_step (fail); refine wpQuiet_nil ?_)
    iterate 2 (refine walkR2_any ?_; simp only [dsc_,dz_,tsc_,tz_]; go_big_quiet_step (fail); refine wpQuiet_nil ?_)
    iterate 1 (refine walkR2_read (s:=8) _ (List.mem_cons_self ..) rfl ?_; simp only [dsc_,dz_,tsc_,tz_]; go_big_quiet_step (fail); refine wpQuiet_nil ?_)
    refine walkR2_move ?_
    simp only [dsc_,dz_,tsc_,tz_]
    go_wp2_with fail
    refine cm_ HE1.out ?_
    rintro e_ Y ⟨rfl,hb_⟩
    have BY:Hid (Below X.heap.size X Y):=I.out.trans (hb_.mono I.out.size)
    clear hb_ HE1
    go_wp2_with fail
    refine ⟨⟨.inl rfl,trivial⟩,?_⟩
    iterate 2 (refine walkR2_move ?_; simp only [dsc_,dz_,tsc_,tz_]; go_wp2_with fail; refine ⟨⟨.inl rfl,trivial⟩,?_⟩)
    simp only [walkR2]
    clear q4 q8 q9 qd hnon
    clear m4 m8 f8 m9 f9 kd' I X4
    have HY:=hd_ (HH.out.below BY.out)
    obtain ⟨m8,f8⟩:=one_cell HY.out.b8
    rw [if_neg Hk0.out,Hlk.out,← Hlv.out] at m8
    have hb9y:=heap_kept HB9.out BY.out nr_
    have HFin:=hd_ (of_round (Y:=Y) (Z:=Y) (lv:=lv) HH.out BY.out hk rfl (by omega) Hlv1.out Hlv2.out nr_ ⟨rfl,rfl,rfl⟩ (by have h:=HY.out.b8; rw [if_neg Hk0.out,Hlk.out,← Hlv.out] at h; exact h) ⟨al9,cl9,hb9y,by rw [← HeD.out]; exact HR9.out⟩ (fun _ _ _=>rfl))
    have HZ0:=hd_ HY.out.row
    have m7:=(one_cell HY.out.b7).1
    have m8z:=m8
    clear hb9y HY
    have mr:=HZ0.out
    have mrc:=RowB.cell (i:=F (m - 1 - k)) mr (by rw [outB_length]; exact hfi)
    have mrf:=RowB.frozen mr (F (m - 1 - k))
    have hw1:IntKind.u8.wrap ((lv:Nat):Int)=((lv:Nat):Int):=IntWalk.u8_in _ (by omega)
    have hw2:IntKind.u8.wrap (97 + ((lv:Nat):Int))=((97 + lv:Nat):Int):=by rw [show (97:Int) + ((lv:Nat):Int)=((97 + lv:Nat):Int) by omega]; exact IntWalk.u8_in _ (by omega)
    have h25':¬ (25:Int) < ((lv:Nat):Int):=by omega
    have h25d:decide ((25:Int) < ((lv:Nat):Int))=false:=decide_eq_false h25'
    clear mr
    gi_wp2_with fail
    show _∧_
    have hfin:=HFin.out
    exact ⟨⟨by omega,hfin.1⟩,hfin.2⟩
   ·rw [decide_eq_false hT] at HE0
    have HE1:=hd_ HE0
    rw [if_neg (fun h=>hT h.symm)] at hstep
    have Hlv:Hid (lv=lk + 1):=hstep
    clear HE0 HeT hT hstep
    unfold Gives at HE1
    gi_wp2_with fail
    refine wpIn_region_readers2 [(10,0),(1,1),(1,2),(10,3),(10,4),(1,5),(1,6),(10,7),(0,8),(0,9),(0,10)] [(8,fun w'=>∃ p:BW X,w'=p.w)] (by kernel_rfl) (by kernel_rfl) ⟨.inr ⟨⟨_,I.out⟩,rfl⟩,trivial⟩ ?_
    refine walkR2_read (s:=8) _ (List.mem_cons_self ..) rfl ?_
    simp only [dz_,tsc_,tz_]
    go_big_quiet_step (fail)
    refine wpQuiet_nil ?_
    iterate 2 (refine walkR2_any ?_; simp only [dsc_,dz_,tsc_,tz_]; go_big_quiet_step (fail); refine wpQuiet_nil ?_)
    iterate 2 (refine walkR2_read (s:=8) _ (List.mem_cons_self ..) rfl ?_; simp only [dsc_,dz_,tsc_,tz_]; go_big_quiet_step (fail); refine wpQuiet_nil ?_)
    iterate 2 (refine walkR2_any ?_; simp only [dsc_,dz_,tsc_,tz_]; go_big_quiet_step (fail); refine wpQuiet_nil ?_)
    iterate 1 (refine walkR2_read (s:=8) _ (List.mem_cons_self ..) rfl ?_; simp only [dsc_,dz_,tsc_,tz_]; go_big_quiet_step (fail); refine wpQuiet_nil ?_)
    refine walkR2_move ?_
    simp only [dsc_,dz_,tsc_,tz_]
    go_wp2_with fail
    refine cm_ HE1.out ?_
    rintro e_ Y ⟨rfl,hb_⟩
    have BY:Hid (Below X.heap.size X Y):=I.out.trans (hb_.mono I.out.size)
    clear hb_ HE1
    go_wp2_with fail
    refine ⟨⟨.inl rfl,trivial⟩,?_⟩
    iterate 2 (refine walkR2_move ?_; simp only [dsc_,dz_,tsc_,tz_]; go_wp2_with fail; refine ⟨⟨.inl rfl,trivial⟩,?_⟩)
    simp only [walkR2]
    clear q4 q8 q9 qd hnon
    clear m4 m8 f8 m9 f9 kd' I X4
    gi_wp2_with fail
    have HY:=hd_ (HH.out.below BY.out)
    have X4:=hd_ (heap_kept H4.out HY.out.bel nr_)
    obtain ⟨m4,-⟩:=one_cell X4.out
    obtain ⟨m8,f8⟩:=one_cell HY.out.b8
    rw [if_neg Hk0.out,Hlk.out] at m8
    have m9:=(one_cell (heap_kept HB9.out BY.out nr_)).1
    have f9:=(one_cell (heap_kept HB9.out BY.out nr_)).2
    have kd':=(HY.out.bel.cell (p:=⟨bs,os + F (m - 1 - k),none⟩) HD.out.1).trans KD.out
    have hb9y:=heap_kept HB9.out BY.out nr_
    have m8d:Y.drew.cell? ⟨w2.heap.size + 1 + 1,0,none⟩=some (.int .i64 ((lk:Nat):Int)):=m8
    have f8d:Y.drew.frozen? ⟨w2.heap.size + 1 + 1,0,none⟩=false:=f8
    have hadd:IntKind.i64.wrap (((lk:Nat):Int) + 1)=((lv:Nat):Int):=by rw [show ((lk:Nat):Int) + 1=((lv:Nat):Int) by have:=Hlv.out; omega]; exact iw_ _ (by omega)
    have q8:=@CellW.h
    have q1:∀ p:Cell2W ⟨w1.heap.size,0,none⟩ (.slice (some ⟨bs,os,none⟩) m d1) ⟨bs,os + F (m - 1 - k),none⟩ (.slice a' n c'),p.w.cell? ⟨w1.heap.size,0,none⟩=some (.slice (some ⟨bs,os,none⟩) m d1):=fun p=>p.h1
    have q2:∀ p:Cell2W ⟨w1.heap.size,0,none⟩ (.slice (some ⟨bs,os,none⟩) m d1) ⟨bs,os + F (m - 1 - k),none⟩ (.slice a' n c'),p.w.cell? ⟨bs,os + F (m - 1 - k),none⟩=some (.slice a' n c'):=fun p=>p.h2
    have n8:Nonempty (CellW ⟨w2.heap.size + 1 + 1,0,none⟩ (.int .i64 ((lk:Nat):Int))):=⟨⟨Y,m8⟩⟩
    have n2:Nonempty (Cell2W ⟨w1.heap.size,0,none⟩ (.slice (some ⟨bs,os,none⟩) m d1) ⟨bs,os + F (m - 1 - k),none⟩ (.slice a' n c')):=⟨⟨Y,m4,kd'⟩⟩
    obtain ⟨y8,y9,yo,yb⟩:=lis_ret (X:=Y.drew) (n₀:=w2.heap.size) (.int .i64 ((lv:Nat):Int)) (.slice a' n c') (show Y.drew.heap[w2.heap.size + 1 + 1]?=_ from HY.out.b8) (show Y.drew.heap[w2.heap.size + 1 + 1 + 1]?=_ from hb9y) (by omega) (by omega) (by omega)
    obtain ⟨Z,hZ⟩:∃ Z,((Y.setCell ⟨w2.heap.size + 1 + 1,0,none⟩ (.int .i64 ((lv:Nat):Int))).setCell ⟨w2.heap.size + 1 + 1 + 1,0,none⟩ (.slice a' n c')).drew=Z:=⟨_,rfl⟩
    have hZ':(Y.drew.setCell ⟨w2.heap.size + 1 + 1,0,none⟩ (.int .i64 ((lv:Nat):Int))).setCell ⟨w2.heap.size + 1 + 1 + 1,0,none⟩ (.slice a' n c')=Z:=hZ
    rw [hZ'] at y8 y9 yo yb
    have HFin:=hd_ (of_round (Z:=Z) (Y:=Y.drew) (lv:=lv) HH.out (BY.out.trans (Below.refl _ Y).drew) hk rfl (by omega) Hlv1.out Hlv2.out yb.size ⟨yb.os,yb.tape,yb.output⟩ y8 ⟨a',c',y9,RD.out⟩ yo)
    have HZ0:Hid (RowB Z w2.heap.size 5 (outB T F m k)):=by
     have hr:=HY.out.row
     unfold RowB World.rowIs at hr
     obtain ⟨c,g1,g2,g3⟩:=hr
     exact ⟨c,(yo _ (by omega) (by omega)).trans g1,g2,g3⟩
    have m7:=(one_cell ((yo (w2.heap.size + 1) (by omega) (by omega)).trans HY.out.b7)).1
    have m8z:=(one_cell y8).1
    have m9s:(Y.drew.setCell ⟨w2.heap.size + 1 + 1,0,none⟩ (.int .i64 ((lv:Nat):Int))).cell? ⟨w2.heap.size + 1 + 1 + 1,0,none⟩=some (.slice al9 n cl9):=by rw [World.cell?_setCell_other _ _ _ _ (by simp)]; exact m9
    have f9s:(Y.drew.setCell ⟨w2.heap.size + 1 + 1,0,none⟩ (.int .i64 ((lv:Nat):Int))).frozen? ⟨w2.heap.size + 1 + 1 + 1,0,none⟩=false:=by rw [World.frozen?_setCell]; exact f9
    have c2s:(Y.drew.setCell ⟨w2.heap.size + 1 + 1,0,none⟩ (.int .i64 ((lv:Nat):Int))).cell? ⟨w1.heap.size,0,none⟩=some (.slice (some ⟨bs,os,none⟩) m d1):=by rw [World.cell?_setCell_other _ _ _ _ (by simp; have:=hs2.out; omega)]; exact m4
    have c3s:(Y.drew.setCell ⟨w2.heap.size + 1 + 1,0,none⟩ (.int .i64 ((lv:Nat):Int))).cell? ⟨bs,os + F (m - 1 - k),none⟩=some (.slice a' n c'):=by rw [World.cell?_setCell_other _ _ _ _ (by simp; have:=HD.out.1; omega)]; exact kd'
    clear y8 y9 yo yb HY X4 hb9y
    refine wpIn_region_readers2 [(8,0),(1,1),(9,2),(1,3),(1,4),(9,5),(0,6),(0,7)] [(6,fun w'=>∃ p:CellW ⟨w2.heap.size + 1 + 1,0,none⟩ (.int .i64 ((lk:Nat):Int)),w'=p.w),(7,fun w'=>∃ p:Cell2W ⟨w1.heap.size,0,none⟩ (.slice (some ⟨bs,os,none⟩) m d1) ⟨bs,os + F (m - 1 - k),none⟩ (.slice a' n c'),w'=p.w)] (by kernel_rfl) (by kernel_rfl) ⟨.inr ⟨⟨Y.drew,m8⟩,rfl⟩,.inr ⟨⟨Y.drew,m4,kd'⟩,rfl⟩,trivial⟩ ?_
    iterate 1 (refine walkR2_read (s:=6) _ (List.mem_cons_self ..) rfl ?_; simp only [dz_,tsc_,tz_]; go_big_quiet_step (fail); refine wpQuiet_nil ?_)
    iterate 1 (refine walkR2_any ?_; simp only [dsc_,dz_,tsc_,tz_]; go_big_quiet_step (fail); refine wpQuiet_nil ?_)
    iterate 1 (refine walkR2_read (s:=7) _ (List.mem_cons_of_mem _ (List.mem_cons_self ..)) rfl ?_; simp only [dsc_,dz_,tsc_,tz_]; go_big_quiet_step (fail); refine wpQuiet_nil ?_)
    iterate 2 (refine walkR2_any ?_; simp only [dsc_,dz_,tsc_,tz_]; go_big_quiet_step (fail); refine wpQuiet_nil ?_)
    iterate 1 (refine walkR2_read (s:=7) _ (List.mem_cons_of_mem _ (List.mem_cons_self ..)) rfl ?_; simp only [dsc_,dz_,tsc_,tz_]; go_big_quiet_step (fail); refine wpQuiet_nil ?_)
    clear q8 q1 q2 n8 n2
    refine walkR2_move ?_
    simp only [dsc_,dz_,tsc_,tz_]
    go_wp2_with fail
    refine ⟨⟨.inl rfl,.inr ⟨⟨_,c2s,c3s⟩,rfl⟩,trivial⟩,?_⟩
    refine walkR2_move ?_
    simp only [dsc_,dz_,tsc_,tz_]
    go_wp2_with fail
    refine ⟨⟨.inl rfl,.inl rfl,trivial⟩,?_⟩
    simp only [walkR2]
    try rw [hZ]
    clear hZ hZ'
    clear m8d f8d m8 f8 m9 f9 m9s f9s c2s c3s m4 kd'
    have mr:=HZ0.out
    have mrc:=RowB.cell (i:=F (m - 1 - k)) mr (by rw [outB_length]; exact hfi)
    have mrf:=RowB.frozen mr (F (m - 1 - k))
    have hw1:IntKind.u8.wrap ((lv:Nat):Int)=((lv:Nat):Int):=IntWalk.u8_in _ (by omega)
    have hw2:IntKind.u8.wrap (97 + ((lv:Nat):Int))=((97 + lv:Nat):Int):=by rw [show (97:Int) + ((lv:Nat):Int)=((97 + lv:Nat):Int) by omega]; exact IntWalk.u8_in _ (by omega)
    have h25':¬ (25:Int) < ((lv:Nat):Int):=by omega
    have h25d:decide ((25:Int) < ((lv:Nat):Int))=false:=decide_eq_false h25'
    clear mr
    gi_wp2_with fail
    show _∧_
    have hfin:=HFin.out
    exact ⟨⟨by omega,hfin.1⟩,hfin.2⟩
 case done =>
  rintro X ⟨-,H⟩ hK
  rw [hE] at hK
  have hbel:=hd_ H.bel
  have HRW:=hd_ H.row
  have hBX:=hd_ (B2.out.trans (H.bel.mono B2.out.size))
  have X2:=hd_ (heap_kept H2.out H.bel nr_)
  have X3:=hd_ (heap_kept H3.out H.bel nr_)
  have HK:=hd_ hK
  obtain ⟨k7,-⟩:=one_cell H.b7
  obtain ⟨j2,f2⟩:=one_cell X2.out
  obtain ⟨j3,f3⟩:=one_cell X3.out
  have hcv:=HRW.out.text (src:=62) (dst:=9) (e:=5) 0 m m (by rw [outB_length]; omega) Tryz.underlying62 Tryz.underlying5 Tryz.underlying9
  rw [List.drop_zero,outB_all Hon.out] at hcv
  clear H hK Q0 Q7 Q8 Q9 hb1 H1 H2 H3 H4 HD
  gi_wp2_with fail
  clear hcv
  obtain ⟨y6,y7,yo,yb⟩:=lis_ret (X:=X) (n₀:=w.heap.size) (.string ⟨(wofB T m).toArray⟩) (.int .i64 0) X2.out X3.out (by omega) (by omega) (by omega)
  have hss:=hs2.out
  have hKy:=(yo E (by omega) (by omega)).trans HK.out
  obtain ⟨z6,-⟩:=one_cell y6
  obtain ⟨z7,-⟩:=one_cell y7
  have hbY0:Below w.heap.size w ((X.setCell ⟨w.heap.size + 1,0,none⟩ (.string ⟨(wofB T m).toArray⟩)).setCell ⟨w.heap.size + 1 + 1,0,none⟩ (.int .i64 0)):=hBX.out.trans yb
  generalize (X.setCell ⟨w.heap.size + 1,0,none⟩ (.string ⟨(wofB T m).toArray⟩)).setCell ⟨w.heap.size + 1 + 1,0,none⟩ (.int .i64 0)=Y at *
  have gY:=grownBy_putObj' Y E (.deferred none)
  have g6:=(World.cell?_of_block (w:=Y) (gY.block (w.heap.size + 1) (Array.getElem?_eq_some_iff.1 y6).1 (fun e=>by have:=Option.some.inj e; omega)) (a:=⟨w.heap.size + 1,0,none⟩)).trans z6
  have g7:=(World.cell?_of_block (w:=Y) (gY.block (w.heap.size + 1 + 1) (Array.getElem?_eq_some_iff.1 y7).1 (fun e=>by have:=Option.some.inj e; omega)) (a:=⟨w.heap.size + 1 + 1,0,none⟩)).trans z7
  rw [hE]
  refine ⟨by simp,.inl ⟨_,_,rfl,run_takeDeferred hKy,?_⟩⟩
  have hbY:Below w.heap.size w (Y.putObj E (.deferred none)):=hbY0.trans ⟨gY.os,gY.tape,gY.output,gY.size,fun i hi=>gY.block i (by have:=hbY0.size; omega) (fun e=>by have:=Option.some.inj e; omega)⟩
  refine ⟨.tuple #[.string ⟨(wofB T m).toArray⟩,.int .i64 0],?_,rfl,hbY⟩
  simp [results,Tryz.results38,go_sem,g6,g7]
end Go.Proofs.YtnjedhgcfeoemaaGreatDoor

namespace Go.Proofs.YtnjedhgcfeoemaaGreatDoor
open Go.RowKit
theorem Abs_dec (w:World) (ps:List Int) (a0 a1:Option Addr) (c0 c1:Nat) (la:List Rat) (A:SizeOk w ps a0 a1 la 30) (hp:pcode ps=0) (hpos:∀ p∈ps,0 < p) (g:Good ps la) (L:Laid w) :
  Calls Tryz.prog 32 #[.slice a0 ps.length c0,.slice a1 ps.length c1] w fun e w'=>∃ a c,e = .returned (.tuple #[.slice a ps.length c,.int .i64 0])∧Rd w' a (cellsQ (combineQ la la ((LN.sz ps la:Int):Rat) 0))∧Below w.heap.size w w':=by
 have hn:=A.n
 have Hc:=hd_ (Sign_dec w ps a0 a1 c0 c1 la A hp g L)
 have hr:=sz_cases hpos la
 generalize LN.sz ps la=r at *
 have hrb : -1≤r∧r≤1:=by omega
 have hfac:max r (-r) * (2 * max r 0 - 1)=r:=by rcases hr with h | h | h <;> rw [h] <;> rfl
 have hk:Sm 2 (r:Rat):=⟨by rw [Rat.num_intCast]; omega,by rw [Rat.den_intCast]; decide⟩
 have Hnum:Hid (∀ W,Below w.heap.size w W→Gives Tryz.prog 98 #[.int .i64 r] W (.agg #[.string (itx r),.string (dec 1)])):=fun W hW=>number_any W r (by omega) (by omega) (L.below hW)
 have HS:Hid (∀ W g1 g2,Below w.heap.size w W→W.heap[g1]?=some (.cells #[.slice a1 ps.length c1] 38 (0,0))→W.heap[g2]?=some (.cells #[.string (itx r),.string (dec 1)] 42 (0,0)) →
   Calls Tryz.prog 97 #[.int .i64 ps.length,.slice (some ⟨g1,0,none⟩) 1 1,.slice (some ⟨g2,0,none⟩) 1 1] W fun e w'=>∃ a c,e = .returned (.slice a ps.length c)∧Rd w' a (cellsQ (combineQ la la (r:Rat) 0))∧Below W.heap.size W w'):=fun W g1 g2 hW h1 h2=>by
  have h:=sum_one W g1 g2 a1 c1 ps.length 30 la (r:Rat) (by rw [A.len]; exact h1) (by rw [Rat.num_intCast,Rat.den_intCast]; exact h2) (A.below hW).rl A.len A.sm hk (by omega) (by decide) (L.below hW)
  rw [sumQ_onek _ _ _ A.len] at h
  unfold GivesQ at h
  rw [combineQ_length _ _ _ _ rfl,A.len] at h
  refine cm_ h ?_
  rintro e w' ⟨a,c,rfl,ho,hb⟩
  exact ⟨a,c,rfl,ho.rd,hb⟩
 clear A hp L hr hk hpos g
 generalize combineQ la la (r:Rat) 0=S at *
 generalize ps.length=n at *
 generalize itx r=s1 at *
 generalize dec 1=s2 at *
 obtain ⟨m1,hm1⟩:∃ m,max r (-r)=m:=⟨_,rfl⟩
 obtain ⟨m2,hm2⟩:∃ m,max r 0=m:=⟨_,rfl⟩
 have b1:0≤m1∧m1≤1:=by omega
 have b2:0≤m2∧m2≤1:=by omega
 rw [hm1,hm2] at hfac
 go_enter Tryz.func32,Tryz.ntmps32
 go_wp2_with fail
 refine cm_ Hc.out ?_
 rintro e w1 ⟨rfl,hb⟩
 have B1:=hd_ hb
 clear hb Hc
 go_wp2_with fail
 have K1:=hd_ (heap_at w1 #[.slice a1 n c1] 38 _ rfl)
 have B2:=hd_ (B1.out.alloc B1.out.size (.cells #[.slice a1 n c1] 38))
 generalize hw2:w1.alloc (.cells #[.slice a1 n c1] 38)=w2 at *
 clear hw2 B1
 refine cm_ (Hnum.out _ B2.out) ?_
 rintro e w3 ⟨rfl,hb⟩
 have K3:=hd_ (heap_kept K1.out hb nr_)
 have B3:=hd_ (B2.out.trans (hb.mono B2.out.size))
 clear hb K1 B2
 go_wp2_with fail
 have K4:=hd_ (heap_old K3.out (.cells #[.string s1,.string s2] 42))
 have B4:=hd_ (B3.out.alloc B3.out.size (.cells #[.string s1,.string s2] 42))
 have M4:=hd_ (heap_at w3 #[.string s1,.string s2] 42 _ rfl)
 generalize hw4:w3.alloc (.cells #[.string s1,.string s2] 42)=w4 at *
 clear hw4 B3 K3
 refine cm_ (HS.out _ _ _ B4.out K4.out M4.out) ?_
 rintro e w5 ⟨a5,c5,rfl,ho,hb⟩
 have R5:=hd_ ho
 have B5:=hd_ (B4.out.trans (hb.mono B4.out.size))
 clear hb ho HS
 go_wp2_with fail
 go_ret2
 exact ⟨a5,c5,rfl,R5.out,B5.out⟩
end Go.Proofs.YtnjedhgcfeoemaaGreatDoor

namespace Go.Proofs.YtnjedhgcfeoemaaGreatDoor
open Go.RowKit
def wkQ (s:Nat):Rat:=mkRat (s:Int) 24
theorem wkQ_mul (s:Nat):wkQ s * (24:Rat)=(((s:Nat):Int):Rat):=mkRat_mul_den (s:Int) 24 (by decide)
theorem wkQ_add (a b:Nat):wkQ (a + b)=wkQ a + wkQ b:=by
 have h1:=wkQ_mul a
 have h2:=wkQ_mul b
 have h3:=wkQ_mul (a + b)
 rw [Int.natCast_add,Rat.intCast_add] at h3
 grind
theorem wkQ_zero:wkQ 0=0:=by decide +kernel
theorem wkQ_lt {a b:Nat} (h:a < b):wkQ a < wkQ b:=by
 obtain ⟨c,rfl⟩:∃ c,b=a + (c + 1):=⟨b - a - 1,by omega⟩
 have h3:=wkQ_mul (c + 1)
 have h4:(0:Rat) < (((c + 1:Nat):Int):Rat):=by
  rw [Rat.intCast_natCast]
  exact Rat.natCast_pos.2 (Nat.succ_pos c)
 rw [wkQ_add]
 grind
theorem wkQ_sm {s:Nat} (h:s < 100):Sm 2 (wkQ s):=Sm.mk' (by decide) (by rw [Int.natAbs_natCast]; exact h) (by decide)
theorem num_neg_of {q:Rat} (h:q < 0):q.num < 0:=Int.not_le.1 fun h1=>by
 have:=Rat.num_nonneg.1 h1
 grind
theorem num_pos_of {q:Rat} (h:0 < q):0 < q.num:=by
 have:=num_neg_of (q := -q) (by grind)
 rw [Rat.neg_num] at this
 omega
def wmQ (u:List Rat) (k:Rat):List Rat:=u.map fun q=>k * q
theorem wmQ_length (u:List Rat) (k:Rat):(wmQ u k).length=u.length:=List.length_map ..
theorem combineQ_map (u:List Rat) (k:Rat):combineQ u u k 0=wmQ u k:=by
 refine List.ext_getElem (by simp [combineQ,wmQ]) fun i h1 h2=>?_
 simp only [combineQ,wmQ,List.getElem_zipWith,List.getElem_map]
 grind
theorem wmQ_sz {ps:List Int} {u:List Rat} (hp:∀ p∈ps,0 < p) (h:LN.sz ps u=1) (k:Rat):LN.sz ps (wmQ u k)=k.num.sign:=by
 unfold wmQ
 rw [LN.sz_mul hp,h,Int.mul_one]
theorem wmQ_dif (u:List Rat) (a b:Rat):difQ (wmQ u a) (wmQ u b)=wmQ u (a - b):=by
 refine List.ext_getElem (by rw [difQ_length _ _ (by simp [wmQ])]; simp [wmQ]) fun i h1 h2=>?_
 have hi:i < u.length:=by rw [wmQ_length] at h2; exact h2
 rw [difQ_get _ _ i (by rw [wmQ_length]; exact hi) (by rw [wmQ_length]; exact hi)]
 simp only [wmQ,List.getElem_map]
 grind
def wuD (u:List Rat) (t:List Nat):List (List Rat):=t.map fun x=>wmQ u (wkQ (x + 1))
def wsum (t:List Nat):Nat→Nat
 | 0=>0
 | k + 1=>wsum t k + (1 + t.getD k 0)
theorem wsum_le {t:List Nat} (h:∀ x∈t,x < 6):∀ k,wsum t k≤6 * k
 | 0=>Nat.le_refl _
 | k + 1=>by
  have h1:=wsum_le h k
  have h2:t.getD k 0 < 6:=by
   rw [List.getD_eq_getElem?_getD]
   cases e:t[k]? with
   | none=>decide
   | some x=>exact h x (List.mem_of_getElem? e)
  rw [wsum]
  omega
theorem wuD_length (u:List Rat) (t:List Nat):(wuD u t).length=t.length:=List.length_map ..
theorem wuD_get (u:List Rat) (t:List Nat) {k:Nat} (hk:k < t.length):(wuD u t).getD k []=wmQ u (wkQ (t.getD k 0 + 1)):=by
 rw [List.getD_eq_getElem?_getD,List.getD_eq_getElem?_getD,wuD,List.getElem?_map,List.getElem?_eq_getElem hk]
 rfl
theorem psL_wu {u:List Rat} {t:List Nat} {n:Nat} (hu:u.length=n):∀ k,k≤t.length→psL n (wuD u t) k=wmQ u (wkQ (wsum t k))
 | 0,_=>by
  rw [psL,wsum,wkQ_zero]
  refine List.ext_getElem (by simp [zrQ,wmQ,hu]) fun i h1 h2=>?_
  simp only [zrQ,wmQ,List.getElem_replicate,List.getElem_map]
  grind
 | k + 1,hk=>by
  rw [psL,psL_wu hu k (by omega),wuD_get u t (by omega),wsum,Nat.add_comm 1,wkQ_add (wsum t k)]
  refine List.ext_getElem (by simp [combineQ,wmQ]) fun i h1 h2=>?_
  simp only [combineQ,wmQ,List.getElem_zipWith,List.getElem_map]
  grind
theorem wuD_mem {u:List Rat} {t:List Nat} {d:List Rat} (h:d∈wuD u t):∃ x∈t,d=wmQ u (wkQ (x + 1)):=by
 obtain ⟨x,h1,h2⟩:=List.mem_map.1 h
 exact ⟨x,h1,h2.symm⟩
theorem wuD_ok {ps:List Int} {u:List Rat} {t:List Nat} (p0:pcode ps=0) (h13:∀ p∈ps,2≤p∧p≤13) (small:∀ p∈ps,p∈smallP) (nd:ps.Nodup) (n4:ps.length≤100)
  (hu:u.length=ps.length) (hs:Sml 480 12 u) (hz:LN.sz ps u=1) (ht:∀ x∈t,x < 6) (h0:0 < t.length) (h8:t.length≤8):SclOk ps 2880 288 (wuD u t):=by
 refine ⟨p0,h13,small,nd,n4,by decide,by decide,by decide,?_,?_,?_,by rw [wuD_length]; exact h0,by rw [wuD_length]; omega⟩
 ·intro d hd
  obtain ⟨x,_,rfl⟩:=wuD_mem hd
  rw [wmQ_length,hu]
 ·intro d hd
  obtain ⟨x,hx,rfl⟩:=wuD_mem hd
  have h6:=ht x hx
  have:=hs.scale (by decide) (d:=24) (wkQ (x + 1)) ((x + 1:Nat):Int) (by decide) (wkQ_mul (x + 1))
  refine (show Sml _ 288 _ from this).le ?_
  rw [Int.natAbs_natCast]
  omega
 ·intro d hd
  obtain ⟨x,hx,rfl⟩:=wuD_mem hd
  rw [wmQ_sz (smallP_pos small) hz,Int.sign_eq_one_of_pos]
  ·decide
  ·refine num_pos_of ?_
   have:=wkQ_lt (Nat.succ_pos x)
   rw [wkQ_zero] at this
   exact this
theorem wuD_keys {ps:List Int} {u:List Rat} {t:List Nat} (small:∀ p∈ps,p∈smallP) (hz:LN.sz ps u=1) (ht:∀ x∈t,x < 6):KeyOk ps (wuD u t) fun i=>t.getD i 0:=by
 have hb:∀ i,t.getD i 0 < 6:=fun k=>by
  rw [List.getD_eq_getElem?_getD]
  cases e:t[k]? with
  | none=>decide
  | some x=>exact ht x (List.mem_of_getElem? e)
 have hlt:∀ a b:Nat,LN.sz ps (difQ (wmQ u (wkQ (a + 1))) (wmQ u (wkQ (b + 1)))) < 0↔a < b:=fun a b=>by
  rw [wmQ_dif,wmQ_sz (smallP_pos small) hz,Int.sign_neg_iff]
  constructor
  ·intro h
   refine Nat.not_le.1 fun h2=>?_
   have h3:wkQ (b + 1)≤wkQ (a + 1):=by
    rcases Nat.eq_or_lt_of_le h2 with e | e
    ·rw [e]; grind
    ·have:=wkQ_lt (show b + 1 < a + 1 by omega); grind
   have:=Rat.num_nonneg.2 (show 0≤wkQ (a + 1) - wkQ (b + 1) by grind)
   omega
  ·intro h
   refine num_neg_of ?_
   have:=wkQ_lt (show a + 1 < b + 1 by omega)
   grind
 refine ⟨fun i _=>by have:=hb i; omega,fun a b ha hb'=>?_,fun a b ha hb'=>?_⟩
 ·rw [wuD_length] at ha hb'
  rw [wuD_get u t ha,wuD_get u t hb',hlt]
 ·rw [wuD_length] at ha hb'
  rw [wuD_get u t ha,wuD_get u t hb']
  constructor
  ·intro h
   have h1:=hlt (t.getD a 0) (t.getD b 0)
   have h2:=hlt (t.getD b 0) (t.getD a 0)
   have h3:=hlt (t.getD a 0) (t.getD a 0)
   rw [← h] at h1 h2
   omega
  ·intro h; rw [h]
theorem wmQ_unit {ps:List Int} {la:List Rat} (small:∀ p∈ps,p∈smallP) (h:LN.sz ps la≠0) (hs:Sml 480 12 la) (hm:∀ q∈la,Sm 2 q) :
  LN.sz ps (wmQ la ((LN.sz ps la:Int):Rat))=1∧Sml 480 12 (wmQ la ((LN.sz ps la:Int):Rat))∧∀ q∈wmQ la ((LN.sz ps la:Int):Rat),Sm 2 q:=by
 have hp:=smallP_pos small
 have hc:=sz_cases hp la
 obtain ⟨r,hr⟩:∃ r,LN.sz ps la=r:=⟨_,rfl⟩
 rw [hr] at h hc ⊢
 have hr2:r.sign * r=1∧r.natAbs=1:=by rcases hc with e | e | e <;> subst e <;> first | exact absurd rfl h | decide
 refine ⟨?_,?_,?_⟩
 ·unfold wmQ
  rw [LN.sz_mul hp,Rat.num_intCast,hr]
  exact hr2.1
 ·have:=hs.scale (by decide) (d:=1) (r:Rat) r (by decide) (by grind)
  rw [hr2.2] at this
  exact this
 ·intro q hq
  obtain ⟨y,hy,rfl⟩:=List.mem_map.1 hq
  have:=hm y hy
  rcases hc with e | e | e
  ·subst e; rw [show ((1:Int):Rat) * y=y by grind]; exact this
  ·exact absurd e h
  ·subst e
   rw [show ((-1:Int):Rat) * y = -y by grind]
   exact ⟨by rw [Rat.neg_num,Int.natAbs_neg]; exact this.1,by rw [Rat.neg_den]; exact this.2⟩
end Go.Proofs.YtnjedhgcfeoemaaGreatDoor

namespace Go.Proofs.YtnjedhgcfeoemaaGreatDoor
open Go.RowKit
theorem OwnQ.lowerD {w:World} {B B' c:Nat} {a:Option Addr} {l:List Rat} (h:OwnQ w B a c l) (hb:B'≤B):OwnQ w B' a c l:=by
 exact ⟨h.1,h.2.imp id fun ⟨g,cap,cur,h1,h2,h3⟩=>⟨g,cap,cur,h1,Nat.le_trans hb h2,h3⟩⟩
theorem combine_own (w:World) (ps:List Int) (g1 g2:Nat) (a0 a1:Option Addr) (c0 c1:Nat) (la:List Rat) (f:Rat) (A:SizeOk w ps a0 a1 la 30) (hp:pcode ps=0) (L:Laid w) (hf':Sm 2 f) (hs:∀ q∈sumQ ps.length [la] [f],Sm 30 q)
  (h1:w.heap[g1]?=some (.cells #[.slice a1 la.length c1] 38 (0,0))) (h2:w.heap[g2]?=some (.cells #[.string (itx f.num),.string (dec f.den)] 42 (0,0))) :
  Calls Tryz.prog 103 #[.slice a0 ps.length c0,.slice (some ⟨g1,0,none⟩) 1 1,.slice (some ⟨g2,0,none⟩) 1 1] w fun e w'=>∃ a c,e = .returned (.tuple #[.slice a (sumQ ps.length [la] [f]).length c,.int .i64 0])∧OwnQ w' w.heap.size a c (sumQ ps.length [la] [f])∧Below w.heap.size w w':=by
 have HA:=hd_ A
 have HL:=hd_ L
 have Hs:=hd_ hs
 have H1:=hd_ h1
 have H2:=hd_ h2
 have Hf:=hd_ hf'
 have hn:=A.n
 have e1:=A.len
 have h1':w.heap[g1]?=some (.cells #[.slice a1 (la.map qs).length c1] 38 (0,0)):=by rw [List.length_map]; exact h1
 have hk:=checkAll_any w a0 _ c0 1 ps [la.map qs] A.rp A.i64 (by omega) (rdl_one h1' A.rl) (by simp)
  (by
   intro l hl
   simp only [List.mem_cons,List.not_mem_nil,or_false] at hl
   subst hl
   exact ⟨by rw [List.length_map]; omega,ssz_ok A.sm⟩) L
 rw [lcode_one hp A.sm e1] at hk
 have Hk:=hd_ hk
 have Hn:=hd_ hn
 clear A L hs h1 h2 hf' h1' hk e1 hp hn
 go_enter Tryz.func103,Tryz.ntmps103
 go_wp2_with fail
 refine cm_ Hk.out ?_
 rintro e w1 ⟨rfl,hb⟩
 have B1:=hd_ hb
 clear hb Hk
 go_wp2_with fail
 have Hc:=hd_ (contains_right w1 (some ⟨g2,0,none⟩) 1 [f] ((rd_obj H2.out).below B1.out nr_) (by intro q hq; simp only [List.mem_cons,List.not_mem_nil,or_false] at hq; subst hq; exact Hf.out.le (by decide)) (by simp) (HL.out.below B1.out))
 refine cm_ Hc.out ?_
 rintro e w2 ⟨rfl,hb⟩
 have B2:=hd_ (B1.out.trans (hb.mono B1.out.size))
 clear hb Hc B1
 go_wp2_with fail
 have Hsu:=hd_ (sum_one w2 g1 g2 a1 c1 ps.length 30 la f (heap_kept H1.out B2.out nr_) (heap_kept H2.out B2.out nr_) (HA.out.below B2.out).rl HA.out.len HA.out.sm Hf.out Hn.out (by decide) (HL.out.below B2.out))
 refine cm_ Hsu.out ?_
 rintro e w3 ⟨a3,c3,rfl,ho,hb⟩
 have Hr:=hd_ ho.rd
 have Ho:Hid (OwnQ w3 w.heap.size a3 c3 (sumQ ps.length [la] [f])):=OwnQ.lowerD ho B2.out.size
 have B3:=hd_ (B2.out.trans (hb.mono B2.out.size))
 clear hb ho Hsu B2
 have Hre:=hd_ (result_ok w3 a3 c3 _ Hr.out Hs.out (by rw [sum_one_len HA.out.len]; have:=Hn.out; omega))
 go_wp2_with fail
 refine cm_ Hre.out ?_
 rintro e w4 ⟨rfl,hb⟩
 have B4:=hd_ (B3.out.trans (hb.mono B3.out.size))
 have Hr4:=hd_ (Ho.out.below hb nr_)
 clear hb Hre
 go_wp2_with fail
 go_ret2
 exact ⟨a3,c3,rfl,Hr4.out,B4.out⟩
theorem scale_own (w:World) (ps:List Int) (a0 a1:Option Addr) (c0 c1:Nat) (la:List Rat) (f:Rat) (A:SizeOk w ps a0 a1 la 30) (hp:pcode ps=0) (L:Laid w) (hf':Sm 2 f) (hs:∀ q∈sumQ ps.length [la] [f],Sm 30 q) :
  Calls Tryz.prog 36 #[.slice a0 ps.length c0,.slice a1 la.length c1,fr f] w fun e w'=>∃ a c,e = .returned (.tuple #[.slice a (sumQ ps.length [la] [f]).length c,.int .i64 0])∧OwnQ w' w.heap.size a c (sumQ ps.length [la] [f])∧Below w.heap.size w w':=by
 have Hc:Hid (∀ W g1 g2,Below w.heap.size w W→W.heap[g1]?=some (.cells #[.slice a1 la.length c1] 38 (0,0))→W.heap[g2]?=some (.cells #[.string (itx f.num),.string (dec f.den)] 42 (0,0)) →
   Calls Tryz.prog 103 #[.slice a0 ps.length c0,.slice (some ⟨g1,0,none⟩) 1 1,.slice (some ⟨g2,0,none⟩) 1 1] W fun e w'=>∃ a c,e = .returned (.tuple #[.slice a (sumQ ps.length [la] [f]).length c,.int .i64 0])∧OwnQ w' W.heap.size a c (sumQ ps.length [la] [f])∧Below W.heap.size W w'):=fun W g1 g2 hW h1 h2 =>
  combine_own W ps g1 g2 a0 a1 c0 c1 la f (A.below hW) hp (L.below hW) hf' hs h1 h2
 have B0:=hd_ ((Below.refl w.heap.size w).alloc nr_ (.cells #[.string (itx f.num),.string (dec f.den)] 42))
 clear A hp L hf' hs
 unfold fr fv
 go_enter Tryz.func36,Tryz.ntmps36
 have N0:=hd_ (heap_at w #[.string (itx f.num),.string (dec f.den)] 42 _ rfl)
 obtain ⟨k0,k1,-,-⟩:=two_cells N0.out
 go_wp2_with fail
 have B1:=hd_ (B0.out.alloc B0.out.size (.cells #[.slice a1 la.length c1] 38))
 have B2:=hd_ (B1.out.alloc B1.out.size (.cells #[.string (itx f.num),.string (dec f.den)] 42))
 have z1:(w.alloc (.cells #[.string (itx f.num),.string (dec f.den)] 42)).heap.size=w.heap.size + 1:=by show (w.heap.push _).size=_; exact Array.size_push ..
 have z2:((w.alloc (.cells #[.string (itx f.num),.string (dec f.den)] 42)).alloc (.cells #[.slice a1 la.length c1] 38)).heap.size=w.heap.size + 1 + 1:=by rw [← z1]; show ((w.alloc _).heap.push _).size=_; exact Array.size_push ..
 refine cm_ (Hc.out _ _ _ B2.out (heap_old (heap_at _ _ _ _ z1) _) (heap_at _ _ _ _ z2)) ?_
 rintro e w5 ⟨a5,c5,rfl,hr,hb⟩
 have Hr:Hid (OwnQ w5 w.heap.size a5 c5 (sumQ ps.length [la] [f])):=OwnQ.lowerD hr B2.out.size
 have B3:=hd_ (B2.out.trans (hb.mono B2.out.size))
 clear hr hb z1 z2 Hc
 go_wp2_with fail
 go_ret2
 exact ⟨a5,c5,rfl,Hr.out,B3.out⟩
theorem scaleW_ok {W:World} {ps:List Int} {a0 a1:Option Addr} (c0 c1:Nat) {u:List Rat} (k:Rat) (hp:pcode ps=0) (hn:ps.length≤100) (h13:∀ p∈ps,2≤p∧p≤13) (rp:Rd W a0 (ints ps)) (r1:Rd W a1 (cellsQ u)) (l1:u.length=ps.length)
  (s1:∀ q∈u,Sm 2 q) (sk:Sm 2 k) (L:Laid W) :
  Calls Tryz.prog 36 #[.slice a0 ps.length c0,.slice a1 ps.length c1,.agg #[.string (itx k.num),.string (dec k.den)]] W fun e w'=>∃ a c,e = .returned (.tuple #[.slice a ps.length c,.int .i64 0])∧OwnQ w' W.heap.size a c (wmQ u k)∧Below W.heap.size W w':=by
 have e:sumQ ps.length [u] [k]=wmQ u k:=by rw [sumQ_onek _ _ _ l1,combineQ_map]
 have h:=scale_own W ps a0 a1 c0 c1 u k ⟨rp,r1,l1,hn,fun p hp=>by have:=h13 p hp; omega,fun q hq=>(s1 q hq).le (by decide),by decide⟩ hp L sk (by
  rw [e]
  intro q hq
  obtain ⟨y,hy,rfl⟩:=List.mem_map.1 hq
  exact (sk.mul (s1 y hy)).le (by decide))
 rw [e,wmQ_length,l1] at h
 unfold fr fv at h
 exact h
theorem absW_ok {W:World} {ps:List Int} {a0 a1:Option Addr} (c0 c1:Nat) {la:List Rat} (hp:pcode ps=0) (hn:ps.length≤100) (h13:∀ p∈ps,2≤p∧p≤13) (small:∀ p∈ps,p∈smallP) (rp:Rd W a0 (ints ps)) (r1:Rd W a1 (cellsQ la)) (l1:la.length=ps.length)
  (s1:∀ q∈la,Sm 2 q) (g:Good ps la) (L:Laid W) :
  Calls Tryz.prog 32 #[.slice a0 ps.length c0,.slice a1 ps.length c1] W fun e w'=>∃ a c,e = .returned (.tuple #[.slice a ps.length c,.int .i64 0])∧Rd w' a (cellsQ (wmQ la ((LN.sz ps la:Int):Rat)))∧Below W.heap.size W w':=by
 have h:=Abs_dec W ps a0 a1 c0 c1 la ⟨rp,r1,l1,hn,fun p hp=>by have:=h13 p hp; omega,fun q hq=>(s1 q hq).le (by decide),by decide⟩ hp (smallP_pos small) g L
 rw [combineQ_map] at h
 exact h
theorem signW_ok {W:World} {ps:List Int} {a0 a1:Option Addr} (c0 c1:Nat) {la:List Rat} (hp:pcode ps=0) (hn:ps.length≤100) (h13:∀ p∈ps,2≤p∧p≤13) (rp:Rd W a0 (ints ps)) (r1:Rd W a1 (cellsQ la)) (l1:la.length=ps.length)
  (s1:∀ q∈la,Sm 2 q) (g:Good ps la) (L:Laid W) :
  Gives Tryz.prog 34 #[.slice a0 ps.length c0,.slice a1 ps.length c1] W (.tuple #[.int .i64 (LN.sz ps la),.int .i64 0]) :=
 Sign_dec W ps a0 a1 c0 c1 la ⟨rp,r1,l1,hn,fun p hp=>by have:=h13 p hp; omega,fun q hq=>(s1 q hq).le (by decide),by decide⟩ hp g L
theorem ofW_ok (W:World) (s:Nat) (h:s < 100) (L:Laid W):Gives Tryz.prog 35 #[.int .i64 s,.int .i64 24] W (.tuple #[.agg #[.string (itx (wkQ s).num),.string (dec (wkQ s).den)],.int .i64 0]):=by
 have h1:=ofi_frac W (s:Int) 24 (by omega) (by omega) (by decide) (num_small _ (by omega)) (num_small _ (by omega)) (by decide) (num_small _ (by omega)) (num_small _ (by omega)) L
 rw [redV_rat _ _ (by decide)] at h1
 exact h1
end Go.Proofs.YtnjedhgcfeoemaaGreatDoor

namespace Go.Proofs.YtnjedhgcfeoemaaGreatDoor
open Go.RowKit
def strsW (l:List (List UInt8)):List Value:=l.map fun s => .string (bs s)
theorem strs_appendW (l m:List (List UInt8)):strsW (l ++ m)=strsW l ++ strsW m:=by simp [strsW]
theorem elStrW:ElemOf Tryz.prog 155 9 (.string ⟨#[]⟩) 1 16:=⟨Tryz.underlying155,info_parts (by kernel_rfl),rfl,by decide⟩
def firstOf (word:List UInt8) (p:Nat):Nat:=if p≤word.length then (word.getD (word.length - p) 0).toNat - 97 else 0
abbrev Col:=List (List UInt8)×Bool
def leaf (n:Nat) (word:List UInt8) (p:Nat) (o:Col):Col :=
 if n % p=0 then (if o.1.length=5000 then (o.1,true) else (o.1 ++ [word],o.2)) else o
def ext (n:Nat):Nat→List Int→List UInt8→Nat→Col→Col
 | 0,_,word,p,o=>if o.2 then o else leaf n word p o
 | f + 1,rest,word,p,o=>if o.2 then o else
  (List.range rest.length).foldl (fun o c=>if c < firstOf word p then o else if rest.getD c 0=0 then o else
   ext n f (rest.set c (rest.getD c 0 - 1)) (word ++ [(97 + c).toUInt8]) (if word.length < p∨c≠firstOf word p then word.length + 1 else p) o) o
def extStep (n f:Nat) (rest:List Int) (word:List UInt8) (p:Nat) (o:Col) (c:Nat):Col :=
 if c < firstOf word p then o else if rest.getD c 0=0 then o else
  ext n f (rest.set c (rest.getD c 0 - 1)) (word ++ [(97 + c).toUInt8]) (if word.length < p∨c≠firstOf word p then word.length + 1 else p) o
def extTo (n f:Nat) (rest:List Int) (word:List UInt8) (p:Nat) (o:Col) (k:Nat):Col:=(List.range k).foldl (extStep n f rest word p) o
theorem extTo_succ (n f:Nat) (rest:List Int) (word:List UInt8) (p:Nat) (o:Col) (k:Nat) :
  extTo n f rest word p o (k + 1)=extStep n f rest word p (extTo n f rest word p o k) k:=by simp [extTo,List.range_succ]
theorem extTo_first (n f:Nat) (rest:List Int) (word:List UInt8) (p:Nat) (o:Col) (k:Nat) (h:k≤firstOf word p):extTo n f rest word p o k=o:=by
 induction k with
 | zero=>rfl
 | succ k ih=>rw [extTo_succ,ih (by omega),extStep,if_pos (by omega)]
theorem ext_succ (n f:Nat) (rest:List Int) (word:List UInt8) (p:Nat) (o:Col) (h:o.2=false):ext n (f + 1) rest word p o=extTo n f rest word p o rest.length:=by
 simp only [ext,h]; rfl
theorem ext_full (n f:Nat) (rest:List Int) (word:List UInt8) (p:Nat) (o:Col) (h:o.2=true):ext n f rest word p o=o:=by
 cases f <;> simp [ext,h]
structure Mk (w:World) (B M:Nat) (rest:List Int) (word:List UInt8) (o:Col) (rv wv ov:Value):Prop where
 hM:w.heap[M]?=some (.cells #[rv,wv,ov,.bool o.2] 230 (0,0))
 BM:B≤M
 hr:w.ownsRow B 3 1 rv rest.length (ints rest)
 hw:w.ownsRow B 5 1 wv word.length (Lib.byteCells word)
 ho:w.ownsRow B 9 1 ov o.1.length (strsW o.1)
theorem own_ne {w:World} {B e size n:Nat} {v:Value} {xs:List Value} (h:w.ownsRow B e size v n xs) {M:Nat} {cs:Array Value} {T:TypeId} {fr:Nat×Nat} (hM:w.heap[M]?=some (.cells cs T fr)) (hT:T≠e) :
  v.ownBlock=none∨v.ownBlock≠some M:=by
 rcases h.2 with ⟨rfl,_⟩ | ⟨g,cap,cur,rfl,_,hg,_⟩
 ·exact .inl rfl
 ·refine .inr (fun h=>?_)
  simp only [Value.ownBlock,Option.some.injEq] at h
  subst h
  rw [hg] at hM
  simp only [Option.some.injEq,Obj.cells.injEq] at hM
  exact hT hM.2.1.symm
structure Fit (n fuel:Nat) (rest:List Int) (word:List UInt8) (p:Nat) (o:Col):Prop where
 n60:n≤60
 len:word.length + fuel=n
 p1:1≤p
 p2:p≤61
 r26:rest.length≤26
 small:Small 61 rest
 letters:∀ x∈word,97≤x.toNat∧x.toNat < 97 + rest.length
 o5:o.1.length≤5000
def ExtOut (B M:Nat) (rest:List Int) (word:List UInt8) (o:Col) (w:World) (e:Ending) (w':World):Prop :=
 e = .returned (.tuple #[])∧(∃ rv wv ov,Mk w' B M rest word o rv wv ov)∧Below B w w'
theorem extend_full (w:World) (B M n p:Nat) (rest:List Int) (word:List UInt8) (o:Col) (rv wv ov:Value) (h:Mk w B M rest word o rv wv ov) (hf:o.2=true) :
  Calls Tryz.prog 168 #[.pointer (some ⟨M,0,none⟩),.int .i64 n,.int .i64 p] w (ExtOut B M rest word o w):=by
 have H:=hd_ h
 have c3:w.cell? ⟨M,3,none⟩=some (.bool true):=by rw [cell_of_row _ _ _ _ _ _ h.hM,← hf]; rfl
 clear h hf
 go_enter Tryz.func168,Tryz.ntmps168
 go_wp2
 refine bodyPost_ret (results_none rfl _ _ _) rfl ?_
 exact ⟨rfl,⟨_,_,_,H.out⟩,Below.refl _ _⟩
theorem Mk.cells {w:World} {B M:Nat} {rest:List Int} {word:List UInt8} {o:Col} {rv wv ov:Value} (h:Mk w B M rest word o rv wv ov) :
  w.cell? ⟨M,0,none⟩=some rv∧w.cell? ⟨M,1,none⟩=some wv∧w.cell? ⟨M,2,none⟩=some ov∧w.cell? ⟨M,3,none⟩=some (.bool o.2)∧∀ j,w.frozen? ⟨M,j,none⟩=false:=by
 refine ⟨?_,?_,?_,?_,fun j=>frozen_of_row _ _ j _ _ h.hM⟩ <;> rw [cell_of_row _ _ _ _ _ _ h.hM] <;> rfl
theorem extend_leaf_no (w:World) (B M n p:Nat) (rest:List Int) (word:List UInt8) (o:Col) (rv wv ov:Value) (h:Mk w B M rest word o rv wv ov) (hf:o.2=false)
  (hl:word.length=n) (hn:n≤60) (hp1:1≤p) (hp:n % p≠0) :
  Calls Tryz.prog 168 #[.pointer (some ⟨M,0,none⟩),.int .i64 n,.int .i64 p] w (ExtOut B M rest word o w):=by
 obtain ⟨c0,c1,c2,c3,cf⟩:=h.cells
 rw [hf] at c3
 obtain ⟨a,c,hwv⟩:=own_formW h.hw
 rw [hwv,hl] at c1
 have H:=hd_ h
 have hd:((n:Int) % (p:Int) == 0)=false:=by rw [beq_eq_false_iff_ne]; omega
 clear h hf hwv hl hp c0 c2 cf
 go_enter Tryz.func168,Tryz.ntmps168
 go_wp2
 refine bodyPost_ret (results_none rfl _ _ _) rfl ?_
 exact ⟨rfl,⟨_,_,_,H.out⟩,Below.refl _ _⟩
theorem extend_leaf_stop (w:World) (B M n p:Nat) (rest:List Int) (word:List UInt8) (o:Col) (rv wv ov:Value) (h:Mk w B M rest word o rv wv ov) (hf:o.2=false)
  (hl:word.length=n) (hn:n≤60) (hp1:1≤p) (hp:n % p=0) (ho:o.1.length=5000) :
  Calls Tryz.prog 168 #[.pointer (some ⟨M,0,none⟩),.int .i64 n,.int .i64 p] w (ExtOut B M rest word (o.1,true) w):=by
 obtain ⟨c0,c1,c2,c3,cf⟩:=h.cells
 rw [hf] at c3
 obtain ⟨a,c,hwv⟩:=own_formW h.hw
 rw [hwv,hl] at c1
 obtain ⟨a2,cc2,hov⟩:=own_formW h.ho
 rw [hov,ho] at c2
 have cf3:=cf 3
 have hd:((n:Int) % (p:Int) == 0)=true:=by rw [beq_iff_eq]; omega
 have H:=hd_ h
 clear h hf hwv hov hl hp ho c0 cf
 go_enter Tryz.func168,Tryz.ntmps168
 go_wp2
 refine bodyPost_ret (results_none rfl _ _ _) rfl ?_
 have hM2:=heap_setCell_same w M 3 _ _ (.bool true) H.out.hM
 have hb:w.grownBy (w.setCell ⟨M,3,none⟩ (.bool true)) (some M):=⟨rfl,rfl,rfl,by simp [World.setCell],fun k _ hk=>Below.heap_setCell _ _ _ _ (fun e=>hk (by simp [e]))⟩
 refine ⟨rfl,⟨rv,wv,ov,hM2,H.out.BM,H.out.hr.kept hb ?_,H.out.hw.kept hb ?_,H.out.ho.kept hb ?_⟩,(Below.refl _ _).setCell (p:=⟨M,3,none⟩) H.out.BM _⟩
 ·exact own_ne H.out.hr H.out.hM (by decide)
 ·exact own_ne H.out.hw H.out.hM (by decide)
 ·exact own_ne H.out.ho H.out.hM (by decide)
theorem step_put {ops:Array Oper} {oo:Oper} {a:Act} {w:World} {K:Act→World→Prop} {Q:Exit→Act→World→Prop} {F:Prop}
  (hg:oo.guard=none) (s x:Operand) (hop:oo.op = .call { callee := .builtin .append,args := #[s,x],argTypes := #[155,155] })
  {B M:Nat} {rest:List Int} {word:List UInt8} {o:Col} {rv wv ov:Value} (h:Mk w B M rest word o rv wv ov) (a2:Option Addr) (cc2:Nat) (hov:ov = .slice a2 o.1.length cc2)
  (hs:a.eval s = .slice a2 o.1.length cc2) (hx:a.eval x = .slice (some ⟨w.heap.size,0,none⟩) 1 1) (hl:o.1.length≤5000)
  (hK:∀ a3 c3 w',w'.cell? ⟨M,2,none⟩=some (.slice a2 o.1.length cc2)→w'.frozen? ⟨M,2,none⟩=false →
   Hid ((∃ rv wv ov,Mk (w'.setCell ⟨M,2,none⟩ (.slice a3 (o.1.length + 1) c3)) B M rest word (o.1 ++ [word],o.2) rv wv ov)∧Below B w (w'.setCell ⟨M,2,none⟩ (.slice a3 (o.1.length + 1) c3)))→K (a.put oo.dst (.slice a3 (o.1.length + 1) c3)) w') :
  if Region.wanted oo (yielded ops a.tmps)=true then Oper.wp Tryz.prog oo a (w.alloc (.cells #[.string (bs word)] 9)).drew K Q else F:=by
 subst hov
 have hlt:M < w.heap.size:=(Array.getElem?_eq_some_iff.1 h.hM).1
 have hB:=h.BM
 have ho2:(w.alloc (.cells #[.string (bs word)] 9)).drew.ownsRow B 9 1 (.slice a2 o.1.length cc2) o.1.length (strsW o.1):=h.ho.alloc _
 refine step_append_own hg s x 155 hop elStrW B _ o.1.length (strsW o.1) hs ho2 w.heap.size 1 1 [.string (bs word)] hx rfl ?_ ?_ (by omega) (by omega) (by simp; omega) ?_
 ·intro j u hj
  rw [show (w.alloc (.cells #[.string (bs word)] 9)).drew.cell? ⟨w.heap.size,j,none⟩=(w.alloc (.cells #[.string (bs word)] 9)).cell? ⟨w.heap.size,j,none⟩ from rfl]
  rw [cell_of_row _ w.heap.size j _ 9 (0,0) (heap_alloc_new w _)]
  simpa using hj
 ·intro u hu; simp at hu; subst hu; rfl
 ·intro v' w' hown hgr _
  obtain ⟨a3,c3,rfl⟩:=own_formW hown
  have hgr2:w.grownBy w' (Value.ownBlock (.slice a2 o.1.length cc2)):=⟨hgr.os,hgr.tape,hgr.output,Nat.le_trans (by simp) hgr.size,fun k hk hne=>by
   rw [hgr.block k (by simp; omega) hne]; exact Below.heap_alloc w _ k hk⟩
  have hneM:Value.ownBlock (.slice a2 o.1.length cc2)≠some M:=by
   rcases own_ne h.ho h.hM (by decide) with h1 | h1
   ·rw [h1]; simp
   ·exact h1
  have hM':w'.heap[M]?=some (.cells #[rv,wv,.slice a2 o.1.length cc2,.bool o.2] 230 (0,0)):=by
   rw [hgr2.block M hlt (fun e=>hneM e.symm)]; exact h.hM
  have hb:w'.grownBy (w'.setCell ⟨M,2,none⟩ (.slice a3 (o.1.length + 1) c3)) (some M):=⟨rfl,rfl,rfl,by simp [World.setCell],fun k _ hk=>Below.heap_setCell _ _ _ _ (fun e=>hk (by simp [e]))⟩
  have hro:w'.ownsRow B 3 1 rv rest.length (ints rest):=h.hr.kept hgr2 (by
   rcases hrb:rv.ownBlock with _ | k
   ·exact .inl rfl
   ·refine .inr (fun e=>?_)
    obtain ⟨g,cap,cur,h1,_,h2,_⟩:=h.hr.2.resolve_left (fun h0=>by rw [h0.1] at hrb; simp [Value.ownBlock] at hrb)
    rw [h1] at hrb
    simp only [Value.ownBlock,Option.some.injEq] at hrb
    subst hrb
    exact (own_ne h.ho h2 (by decide)).elim (fun h3=>by rw [h3] at e; cases e) (fun h3=>h3 e.symm))
  have hwo:w'.ownsRow B 5 1 wv word.length (Lib.byteCells word):=h.hw.kept hgr2 (by
   rcases hrb:wv.ownBlock with _ | k
   ·exact .inl rfl
   ·refine .inr (fun e=>?_)
    obtain ⟨g,cap,cur,h1,_,h2,_⟩:=h.hw.2.resolve_left (fun h0=>by rw [h0.1] at hrb; simp [Value.ownBlock] at hrb)
    rw [h1] at hrb
    simp only [Value.ownBlock,Option.some.injEq] at hrb
    subst hrb
    exact (own_ne h.ho h2 (by decide)).elim (fun h3=>by rw [h3] at e; cases e) (fun h3=>h3 e.symm))
  refine hK a3 c3 w' ?_ (frozen_of_row _ _ _ _ _ hM') ⟨⟨rv,wv,_,heap_setCell_same w' M 2 _ _ _ hM',hB,hro.kept hb (own_ne hro hM' (by decide)),hwo.kept hb (own_ne hwo hM' (by decide)),?_⟩,?_⟩
  ·rw [cell_of_row _ _ _ _ _ _ hM']; rfl
  ·have:=hown.kept hb (own_ne hown hM' (by decide))
   rw [show (o.1 ++ [word],o.2).1.length=o.1.length + 1 by simp,show strsW (o.1 ++ [word],o.2).1=strsW o.1 ++ [.string (bs word)] from strs_appendW _ _]
   exact this
  ·refine Below.setCell (⟨hgr2.os,hgr2.tape,hgr2.output,hgr2.size,fun k hk=>hgr2.block k (by omega) (fun e=>?_)⟩) (p:=⟨M,2,none⟩) hB _
   have:=(h.ho.lt k e.symm).1
   omega
theorem extend_leaf_put (w:World) (B M n p:Nat) (rest:List Int) (word:List UInt8) (o:Col) (rv wv ov:Value) (h:Mk w B M rest word o rv wv ov) (hf:o.2=false)
  (hl:word.length=n) (hn0:0 < n) (hn:n≤60) (hp1:1≤p) (hp:n % p=0) (ho:o.1.length < 5000) :
  Calls Tryz.prog 168 #[.pointer (some ⟨M,0,none⟩),.int .i64 n,.int .i64 p] w (ExtOut B M rest word (o.1 ++ [word],o.2) w):=by
 obtain ⟨c0,c1,c2,c3,cf⟩:=h.cells
 rw [hf] at c3
 obtain ⟨g,c,hwv,hg1,hg2,hg3,hg4,hg5⟩:=own_open h.hw (by omega)
 rw [hwv,hl] at c1
 obtain ⟨a2,cc2,hov⟩:=own_formW h.ho
 rw [hov] at c2
 have cf2:=cf 2
 have hd:((n:Int) % (p:Int) == 0)=true:=by rw [beq_iff_eq]; omega
 have hq:((o.1.length:Int) == 5000)=false:=by rw [beq_eq_false_iff_ne]; omega
 have hconv:∀ W:World,(∀ j,j < n→W.cell? ⟨g,j,none⟩=w.cell? ⟨g,j,none⟩)→(convert 62 9 (.slice (some ⟨g,0,none⟩) n c)).run Tryz.prog W = .ok (.string (bs word)) W:=by
  intro W hW
  refine run_bytes_str _ _ _ 5 Tryz.underlying62 Tryz.underlying5 Tryz.underlying9 _ _ _ _ _ hl ?_
  intro i hi
  rw [Nat.zero_add,hW i (by omega),hg4 i (by omega)]
  simp [Lib.byteCells,hi]
 have H:=hd_ h
 have hMlt:M < w.heap.size:=(Array.getElem?_eq_some_iff.1 h.hM).1
 have hMne:M≠w.heap.size:=by omega
 have hc0:=hconv w.drew (fun _ _=>rfl)
 have hov:=hd_ hov
 clear h hf hwv hl hp c0 cf hg4 hg5 hconv
 go_enter Tryz.func168,Tryz.ntmps168
 go_wp2_with fail
 go_region_law (refine step_put rfl (.tmp 39) (.tmp 45) rfl H.out a2 cc2 hov.out rfl rfl (by omega) ?_; intro a3 c3 w1 d2 e2 F1)
 all_goals
  go_wp2
  refine bodyPost_ret (results_none rfl _ _ _) rfl ?_
  exact ⟨rfl,F1.out⟩
end Go.Proofs.YtnjedhgcfeoemaaGreatDoor

namespace Go.Proofs.YtnjedhgcfeoemaaGreatDoor
open Go.RowKit
section
variable {w:World} {B M:Nat} {rest:List Int} {word:List UInt8} {o:Col} {rv wv ov:Value}
theorem rows_apart {e1 e2 s1 s2 n1 n2:Nat} {v1 v2:Value} {x1 x2:List Value} (h1:w.ownsRow B e1 s1 v1 n1 x1) (h2:w.ownsRow B e2 s2 v2 n2 x2) (hne:e1≠e2) :
  v1.ownBlock=none∨v1.ownBlock≠v2.ownBlock:=by
 rcases h1.2 with ⟨rfl,_⟩ | ⟨g,cap,cur,rfl,_,hg,_⟩
 ·exact .inl rfl
 ·refine .inr (fun e=>?_)
  rcases own_ne h2 hg hne with h | h
  ·rw [h] at e; cases e
  ·exact h e.symm
theorem grown_storeW (b j:Nat) (v:Value):w.grownBy (w.setCell ⟨b,j,none⟩ v) (some b) :=
 ⟨rfl,rfl,rfl,by simp [World.setCell],fun k _ hk=>Below.heap_setCell _ _ _ _ (fun e=>hk (by simp [e]))⟩
theorem Mk.setRest {g c:Nat} (h:Mk w B M rest word o (.slice (some ⟨g,0,none⟩) rest.length c) wv ov) (j:Nat) (x:Int) :
  Mk (w.setCell ⟨g,j,none⟩ (.int .i64 x)) B M (rest.set j x) word o (.slice (some ⟨g,0,none⟩) rest.length c) wv ov:=by
 have hg:=grown_storeW (w:=w) g j (.int .i64 x)
 have hMg:M≠g:=fun e=>by
  rcases own_ne h.hr h.hM (by decide) with h1 | h1
  ·simp [Value.ownBlock] at h1
  ·exact h1 (by rw [e]; rfl)
 refine ⟨?_,h.BM,?_,h.hw.kept hg ?_,h.ho.kept hg ?_⟩
 ·rw [Below.heap_setCell _ _ _ _ hMg]; exact h.hM
 ·have:=(World.ownsRow.stored h.hr j (.int .i64 x)).1
  rw [ints_set] at this
  simpa using this
 ·exact rows_apart h.hw h.hr (by decide)
 ·exact rows_apart h.ho h.hr (by decide)
theorem Mk.push {ch:UInt8} {w':World} {a:Option Addr} {c:Nat} (h:Mk w B M rest word o rv wv ov)
  (hown:w'.ownsRow B 5 1 (.slice a (word.length + 1) c) (word.length + 1) (Lib.byteCells word ++ [.int .u8 ch.toNat])) (hg:w.grownBy w' wv.ownBlock) :
  Mk (w'.setCell ⟨M,1,none⟩ (.slice a (word.length + 1) c)) B M rest (word ++ [ch]) o rv (.slice a (word.length + 1) c) ov ∧
  w'.cell? ⟨M,1,none⟩=some wv∧w'.frozen? ⟨M,1,none⟩=false∧Below B w (w'.setCell ⟨M,1,none⟩ (.slice a (word.length + 1) c)):=by
 have hlt:M < w.heap.size:=(Array.getElem?_eq_some_iff.1 h.hM).1
 have hM':w'.heap[M]?=some (.cells #[rv,wv,ov,.bool o.2] 230 (0,0)):=by
  rw [hg.block M hlt (fun e=>by
   rcases own_ne h.hw h.hM (by decide) with h1 | h1
   ·rw [h1] at e; cases e
   ·exact h1 e.symm)]
  exact h.hM
 have hb:=grown_storeW (w:=w') M 1 (.slice a (word.length + 1) c)
 have hr':=h.hr.kept hg (rows_apart h.hr h.hw (by decide))
 have ho':=h.ho.kept hg (rows_apart h.ho h.hw (by decide))
 refine ⟨⟨heap_setCell_same w' M 1 _ _ _ hM',h.BM,hr'.kept hb (own_ne hr' hM' (by decide)),?_,ho'.kept hb (own_ne ho' hM' (by decide))⟩,?_,frozen_of_row _ _ _ _ _ hM',?_⟩
 ·have:=hown.kept hb (own_ne hown hM' (by decide))
  rw [byteCells_snoc,List.length_append]
  exact this
 ·rw [cell_of_row _ _ _ _ _ _ hM']; rfl
 ·refine Below.setCell ⟨hg.os,hg.tape,hg.output,hg.size,fun k hk=>hg.block k (by have:=h.BM; omega) (fun e=>?_)⟩ (p:=⟨M,1,none⟩) h.BM _
  have:=(h.hw.lt k e.symm).1
  omega
theorem Mk.pop {ch:UInt8} {a:Option Addr} {c:Nat} (h:Mk w B M rest (word ++ [ch]) o rv (.slice a (word.length + 1) c) ov) :
  Mk (w.setCell ⟨M,1,none⟩ (.slice a word.length c)) B M rest word o rv (.slice a word.length c) ov:=by
 have hb:=grown_storeW (w:=w) M 1 (.slice a word.length c)
 refine ⟨heap_setCell_same w M 1 _ _ _ h.hM,h.BM,h.hr.kept hb (own_ne h.hr h.hM (by decide)),?_,h.ho.kept hb (own_ne h.ho h.hM (by decide))⟩
 have h2:w.ownsRow B 5 1 (.slice a word.length c) word.length (Lib.byteCells word):=by
  refine ⟨by simp [byteCells_length],?_⟩
  rcases h.hw.2 with ⟨h0,_⟩ | ⟨g,cap,cur,hv,h1,h2,h3,h4,h5,h6⟩
  ·simp at h0
  ·simp only [Value.slice.injEq] at hv
   obtain ⟨rfl,-,rfl⟩:=hv
   refine .inr ⟨g,c,cur,rfl,h1,h2,by simp at h3; omega,h4,h5,?_⟩
   rw [byteCells_snoc] at h6
   have:=congrArg (List.take word.length) h6
   rw [List.take_take,List.take_left' (byteCells_length word)] at this
   simpa using this
 exact h2.kept hb (own_ne h2 h.hM (by decide))
theorem Mk.drewN (h:Mk w B M rest word o rv wv ov) (n:Nat):Mk (w.drewN n) B M rest word o rv wv ov:=⟨h.hM,h.BM,h.hr,h.hw,h.ho⟩
theorem Mk.drew (h:Mk w B M rest word o rv wv ov):Mk w.drew B M rest word o rv wv ov:=⟨h.hM,h.BM,h.hr,h.hw,h.ho⟩
end
theorem leaf_len (n:Nat) (word:List UInt8) (p:Nat) (o:Col) (h:o.1.length≤5000):(leaf n word p o).1.length≤5000:=by
 unfold leaf
 split
 ·split
  ·exact h
  ·simp; omega
 ·exact h
theorem foldl_len (g:Col→Nat→Col) (hg:∀ o c,o.1.length≤5000→(g o c).1.length≤5000):∀ (l:List Nat) (o:Col),o.1.length≤5000→(l.foldl g o).1.length≤5000
 | [],_,h=>h
 | c :: l,o,h=>foldl_len g hg l _ (hg o c h)
theorem ext_len (n:Nat):∀ (f:Nat) (rest:List Int) (word:List UInt8) (p:Nat) (o:Col),o.1.length≤5000→(ext n f rest word p o).1.length≤5000
 | 0,rest,word,p,o,h=>by
  simp only [ext]; split
  ·exact h
  ·exact leaf_len n word p o h
 | f + 1,rest,word,p,o,h=>by
  simp only [ext]; split
  ·exact h
  ·refine foldl_len _ (fun o c h=>?_) _ _ h
   split
   ·exact h
   ·split
    ·exact h
    ·exact ext_len n f _ _ _ _ h
theorem extStep_len (n f:Nat) (rest:List Int) (word:List UInt8) (p:Nat) (o:Col) (c:Nat) (h:o.1.length≤5000):(extStep n f rest word p o c).1.length≤5000:=by
 unfold extStep
 split
 ·exact h
 ·split
  ·exact h
  ·exact ext_len n f _ _ _ _ h
def ExtSaid (f:Nat):Prop:=∀ (w:World) (B M n:Nat) (q:Int) (p:Nat) (rest:List Int) (word:List UInt8) (o:Col) (rv wv ov:Value),
 Mk w B M rest word o rv wv ov→Fit n f rest word p o→B≤w.heap.size→0 < n→q=p →
  Calls Tryz.prog 168 #[.pointer (some ⟨M,0,none⟩),.int .i64 n,.int .i64 q] w (ExtOut B M rest word (ext n f rest word p o) w)
theorem extend_zero:ExtSaid 0:=by
 intro w B M n q p rest word o rv wv ov h fit hB hn hq
 subst hq
 cases hf:o.2 with
 | true=>rw [ext_full _ _ _ _ _ _ hf]; exact extend_full w B M n p rest word o rv wv ov h hf
 | false =>
  have hl:word.length=n:=by have:=fit.len; omega
  simp only [ext,hf,Bool.false_eq_true,if_false,leaf]
  by_cases hp:n % p=0
  ·rw [if_pos hp]
   by_cases ho:o.1.length=5000
   ·rw [if_pos ho]; exact extend_leaf_stop w B M n p rest word o rv wv ov h hf hl fit.n60 fit.p1 hp ho
   ·rw [if_neg ho]
    have:=extend_leaf_put w B M n p rest word o rv wv ov h hf hl hn fit.n60 fit.p1 hp (by have:=fit.o5; omega)
    rw [hf] at this; exact this
  ·rw [if_neg hp]; exact extend_leaf_no w B M n p rest word o rv wv ov h hf hl fit.n60 fit.p1 hp
end Go.Proofs.YtnjedhgcfeoemaaGreatDoor

namespace Go.Proofs.YtnjedhgcfeoemaaGreatDoor
open Go.RowKit
theorem Mk.word0 {w:World} {B M:Nat} {rest:List Int} {word:List UInt8} {o:Col} {rv wv ov:Value} (h:Mk w B M rest word o rv wv ov) (h0:0 < word.length) :
  ∃ g c,wv = .slice (some ⟨g,0,none⟩) word.length c∧∀ j,j < word.length→w.cell? ⟨g,j,none⟩=some (.int .u8 (word.getD j 0).toNat):=by
 obtain ⟨g,c,hv,h1,h2,h3,h4,h5⟩:=own_open h.hw h0
 refine ⟨g,c,hv,fun j hj=>?_⟩
 rw [h4 j (by omega)]
 simp [Lib.byteCells,List.getD_eq_getElem?_getD,hj]
def ExtAt (B M n f:Nat) (rest:List Int) (word:List UInt8) (p:Nat) (o:Col) (w:World) (k:Nat) (wr:World):Prop :=
 (∃ rv wv ov,Mk wr B M rest word (extTo n f rest word p o k) rv wv ov)∧Below B w wr∧(extTo n f rest word p o k).1.length≤5000
theorem firstOf_le {n f:Nat} {rest:List Int} {word:List UInt8} {p:Nat} {o:Col} (fit:Fit n f rest word p o):firstOf word p≤rest.length∧firstOf word p≤25:=by
 have h26:=fit.r26
 unfold firstOf
 split
 ·rename_i hp
  have h1:=fit.p1
  have hlt:word.length - p < word.length:=by omega
  have:=fit.letters (word.getD (word.length - p) 0) (by rw [List.getD_eq_getElem?_getD,List.getElem?_eq_getElem hlt]; exact List.getElem_mem _)
  omega
 ·omega
theorem grown_alloc_trans {w w':World} {o:Obj} {row:Option Nat} (h:(w.alloc o).grownBy w' row):w.grownBy w' row :=
 ⟨h.os,h.tape,h.output,Nat.le_trans (by simp) h.size,fun k hk hne=>by rw [h.block k (by simp; omega) hne]; exact Below.heap_alloc w _ k hk⟩
theorem small_set {m:Int} {l:List Int} (h:Small m l) (k:Nat) (x:Int) (hx:0≤x∧x≤m):Small m (l.set k x):=by
 intro y hy
 rcases List.mem_or_eq_of_mem_set hy with hy | hy
 ·exact h y hy
 ·rw [hy]; exact hx
theorem Fit.down {n f:Nat} {rest:List Int} {word:List UInt8} {p:Nat} {o:Col} (fit:Fit n (f + 1) rest word p o) (k:Nat) (hk:k < rest.length) (x:Int) (hx:0≤x∧x≤61) (q:Nat) (hq:1≤q∧q≤61) (o':Col) (ho:o'.1.length≤5000) :
  Fit n f (rest.set k x) (word ++ [(97 + k).toUInt8]) q o':=by
 have h26:=fit.r26
 have hlen:=fit.len
 refine ⟨fit.n60,by simp; omega,hq.1,hq.2,by simpa using h26,small_set fit.small k x hx,?_,ho⟩
 intro y hy
 rw [List.length_set]
 rcases List.mem_append.1 hy with hy | hy
 ·exact fit.letters y hy
 ·simp only [List.mem_singleton] at hy
  subst hy
  rw [u8_toNat _ (by omega)]
  omega
theorem extend_succ (f:Nat) (IH:ExtSaid f):ExtSaid (f + 1):=by
 intro w B M n q p rest word o rv wv ov h fit hB hn hq
 subst hq
 cases hf:o.2 with
 | true=>rw [ext_full _ _ _ _ _ _ hf]; exact extend_full w B M n p rest word o rv wv ov h hf
 | false =>
 rw [ext_succ _ _ _ _ _ _ hf]
 obtain ⟨c0,c1,c2,c3,cf⟩:=h.cells
 rw [hf] at c3
 obtain ⟨hF1,hF2⟩:=firstOf_le fit
 have hL:word.length < n:=by have:=fit.len; omega
 have hn60:=fit.n60
 have hp1:=fit.p1
 have hp2:=fit.p2
 have hr26:=fit.r26
 have Hat:Hid (ExtAt B M n f rest word p o w (firstOf word p) w):=⟨⟨rv,wv,ov,by rw [extTo_first _ _ _ _ _ _ _ nr_]; exact h⟩,Below.refl _ _,by rw [extTo_first _ _ _ _ _ _ _ nr_]; exact fit.o5⟩
 have HF:=hd_ (show firstOf word p=firstOf word p from rfl)
 by_cases hp:p≤word.length
 case' pos =>
  obtain ⟨g,c,hwv,hg⟩:=h.word0 (by omega)
  have cw:=hg (word.length - p) (by omega)
  have hx:97≤(word.getD (word.length - p) 0).toNat:=(fit.letters (word.getD (word.length - p) 0) (by rw [List.getD_eq_getElem?_getD,List.getElem?_eq_getElem (by omega)]; exact List.getElem_mem _)).1
  have hxF:((word.getD (word.length - p) 0).toNat:Int) - 97=firstOf word p:=by unfold firstOf; rw [if_pos hp]; omega
  have hx2:(word.getD (word.length - p) 0).toNat < 256:=UInt8.toNat_lt _
  rw [hwv] at c1
  clear hwv hg
  generalize (word.getD (word.length - p) 0).toNat=x at *
 case' neg =>
  have hF0:firstOf word p=0:=by unfold firstOf; rw [if_neg hp]
  obtain ⟨a,c,hwv⟩:=own_formW h.hw
  rw [hwv] at c1
  clear hwv
 all_goals
  clear h c0 c2 cf hf
  have HIH:=hd_ IH
  have HFit:=hd_ fit
  have Hq:=hd_ (rfl:word.length=word.length)
  generalize hLL:word.length=L at *
  have HL:=hd_ hLL
  generalize hRR:rest.length=R at *
  have HR:=hd_ hRR
  clear hLL hRR IH fit
 case pos =>
  generalize hFF:firstOf word p=F at *
  have HFF:=hd_ hFF
  clear hFF
  go_enter Tryz.func168,Tryz.ntmps168
  go_wp2_with fail
  go_loopw [8] (fun c wr=>∃ k:Nat,F≤k∧k≤R∧c = .int .i64 k∧Hid (ExtAt B M n f rest word p o w k wr)) (fun c _=>R - (intOf c).toNat)
  case atStart=>exact ⟨F,Nat.le_refl _,hF1,rfl,Hat⟩
  case round =>
   clear Hat
   obtain ⟨k,hk1,hk2,rfl,Hat⟩:=hrel
   obtain ⟨⟨rv,wv,ov,hmk⟩,hbl,ho5⟩:=Hat.out
   have hrow:=hmk.hr
   rw [HR.out] at hrow
   obtain ⟨d0,d1,d2,d3,df⟩:=hmk.cells
   obtain ⟨aw,cw,hwv⟩:=own_formW hmk.hw
   have Hwv:=hd_ hwv
   rw [hwv,HL.out] at d1
   clear hwv
   by_cases hlt:k < R
   ·obtain ⟨gr,cr,hrv,hgr1,hgr2,hgr3,hgr4,hgr5⟩:=own_open hrow (by omega)
    rw [hrv] at d0
    have hgM:gr≠M:=fun e=>by
     rcases own_ne hrow hmk.hM (by decide) with h1 | h1
     ·rw [hrv] at h1; simp [Value.ownBlock] at h1
     ·exact h1 (by rw [hrv,e]; rfl)
    have hMg:M≠gr:=fun e=>hgM e.symm
    have dx:=hgr4 k (by omega)
    rw [ints_get _ _ (by rw [HR.out]; exact hlt)] at dx
    obtain ⟨hx1,hx2⟩:=HFit.out.small (rest[k]'(by rw [HR.out]; exact hlt)) (List.getElem_mem _)
    have Hgd:=hd_ (show rest.getD k 0=rest[k]'(by rw [HR.out]; exact hlt) from by rw [List.getD_eq_getElem?_getD,List.getElem?_eq_getElem (by rw [HR.out]; exact hlt)]; rfl)
    have Hsucc:=hd_ (extTo_succ n f rest word p o k)
    clear d2 d3 df hgr4
    generalize hxx:rest[k]'(by rw [HR.out]; exact hlt)=x at *
    have Hxx:=hd_ hxx
    clear hxx
    by_cases hx0:x=0
    ·subst hx0
     have Hat2:Hid (ExtAt B M n f rest word p o w (k + 1) wr):=by
      have e:extTo n f rest word p o (k + 1)=extTo n f rest word p o k:=by
       rw [Hsucc.out,extStep]
       by_cases hkF:k < firstOf word p
       ·rw [if_pos hkF]
       ·rw [if_neg hkF,if_pos Hgd.out]
      exact ⟨⟨rv,wv,ov,by rw [e]; exact hmk⟩,hbl,by rw [e]; exact ho5⟩
     clear hmk hrow hrv hgr5 hbl ho5 Hat HIH HFit Hsucc Hgd Hxx
     go_wp2
     go_roundw
     case rel=>exact ⟨k + 1,by omega,by omega,by go_num,Hat2⟩
     case measure=>simp [intOf]; omega
    ·have hxb:(x == 0)=false:=by simpa using hx0
     have Hrv:=hd_ hrv
     by_cases hkF:k=F
     ·subst hkF
      have hkb:((k:Int) != k)=false:=by simp
      have Hnx:=hd_ (show extTo n f rest word p o (k + 1)=ext n f (rest.set k (x - 1)) (word ++ [(97 + k).toUInt8]) (p) (extTo n f rest word p o k) from by
       rw [Hsucc.out,extStep,if_neg (by rw [HFF.out]; omega),Hgd.out,if_neg hx0]
       rw [if_neg (by rw [HFF.out,HL.out]; omega)])
      have Hfit2:=hd_ (HFit.out.down k (by rw [HR.out]; exact hlt) (x - 1) ⟨by omega,by omega⟩ (p) ⟨by omega,by omega⟩ (extTo n f rest word p o k) ho5)
      have h18:Mk (wr.setCell ⟨gr,k,none⟩ (.int .i64 (x - 1))) B M (rest.set k (x - 1)) word (extTo n f rest word p o k) rv wv ov:=by
       have h0:=hmk
       rw [hrv,← HR.out] at h0
       rw [hrv,← HR.out]
       exact h0.setRest k (x - 1)
      have H18:=hd_ h18
      have hbl18:Below B w (wr.setCell ⟨gr,k,none⟩ (.int .i64 (x - 1))):=hbl.setCell (p:=⟨gr,k,none⟩) hgr1 _
      have Hbl18:=hd_ hbl18
      have hsz18:B≤(wr.setCell ⟨gr,k,none⟩ (.int .i64 (x - 1))).heap.size:=by have:=hbl18.size; omega
      have dfz:=hgr5 k
      have Hx0:=hd_ hx0
      have Ho5:Hid ((extTo n f rest word p o (k + 1)).1.length≤5000):=by
       show _≤_
       rw [Hsucc.out]
       exact extStep_len _ _ _ _ _ _ _ ho5
      clear hmk h18 hbl18 hbl hgr5 hrow
      go_upto_region 19 with (fail)
      have e1:(wr.setCell ⟨gr,k,none⟩ (.int .i64 (x - 1))).cell? ⟨M,1,none⟩=some (.slice aw L cw):=by rw [H18.out.cells.2.1,Hwv.out,HL.out]
      have e0:=H18.out.cells.1
      rw [hrv] at e0
      generalize wr.setCell ⟨gr,k,none⟩ (.int .i64 (x - 1))=w18 at *
      clear d0 d1 dx dfz
      have hu:(97:Int) + (k:Int)=(((97 + k).toUInt8).toNat:Nat):=by rw [u8_toNat _ (by omega)]; omega
      have Hu:=hd_ hu
      clear hu
      go_wp2_with (at_builtin; refine wpList_append_new rfl (.tmp 115) (.tmp 119) 62 rfl elByte (.slice aw L cw) 1 [.int .u8 (97 + (k:Int))] rfl rfl (by have:=H18.out.hw; rw [Hwv.out,HL.out] at this; exact this) hsz18 rfl ?c1 ?c2 ?c3 ?_)
      case c1=>intro u hu; simp at hu; subst hu; rfl
      case c2=>omega
      case c3=>omega
      intro v' w19 hown19 hg19 _
      obtain ⟨a19,c19,rfl⟩:=own_formW hown19
      rw [Hu.out,← HL.out] at hown19
      rw [← HL.out]
      have hp19:=H18.out.push (ch:=(97 + k).toUInt8) hown19 (by rw [Hwv.out,HL.out]; exact grown_alloc_trans hg19)
      rw [Hwv.out,HL.out] at hp19
      rw [HL.out]
      obtain ⟨hp1',hp2',hp3',hp4'⟩:=hp19
      have Hp1:=hd_ hp1'
      have Hp4:=hd_ (Hbl18.out.trans hp4')
      clear hown19 hg19 hp1' hp4' e0 e1
      go_wp2_with fail
      refine (HIH.out _ B M n _ (p) (rest.set k (x - 1)) (word ++ [(97 + k).toUInt8]) (extTo n f rest word p o k) _ _ _ Hp1.out Hfit2.out (by have:=Hp4.out.size; omega) hn (by first | rfl | (push_cast; rfl))).mono ?_
      rintro e w20 ⟨rfl,⟨rv2,wv2,ov2,hmk20⟩,hb20⟩
      rw [← Hnx.out] at hmk20
      have Hb20:=hd_ (Hp4.out.trans hb20)
      clear hb20 hp2' hp3'
      obtain ⟨d0,d1,d2,d3,df⟩:=hmk20.cells
      obtain ⟨g2,c2,hwv2,hg21,hg22,hg23,hg24,hg25⟩:=own_open hmk20.hw (by simp)
      obtain ⟨gr2,cr2,hrv2,hr21,hr22,hr23,hr24,hr25⟩:=own_open hmk20.hr (by rw [List.length_set,HR.out]; omega)
      have hlw:(word ++ [(97 + k).toUInt8]).length=L + 1:=by rw [List.length_append,HL.out]; rfl
      have hlr:(rest.set k (x - 1)).length=R:=by rw [List.length_set,HR.out]
      have hneM:gr2≠M:=fun e=>by
       rcases own_ne hmk20.hr hmk20.hM (by decide) with h1 | h1
       ·rw [hrv2] at h1; simp [Value.ownBlock] at h1
       ·exact h1 (by rw [hrv2,e]; rfl)
      have hMne:M≠gr2:=fun e=>hneM e.symm
      rw [hwv2,hlw] at d1
      rw [hrv2,hlr] at d0
      have dx:=hr24 k (by rw [List.length_set,HR.out]; omega)
      rw [ints_get _ _ (by rw [List.length_set,HR.out]; omega),List.getElem_set_self] at dx
      have df1:=df 1
      have dfz:=hr25 k
      rw [hlw] at hg23
      have hB21:=hmk20.BM
      have hw2:=hmk20
      rw [hwv2,hlw,← HL.out,hrv2] at hw2
      have hpop:=Mk.pop hw2
      have Hrest:=hd_ ((hpop.setRest k x).drew)
      rw [List.set_set] at Hrest
      have hself:rest.set k x=rest:=by
       rw [← Hxx.out]; exact List.set_getElem_self _
      rw [hself] at Hrest
      rw [HL.out] at Hrest
      clear hmk20 hw2 hpop hwv2 hrv2 hg24 hg25 hr24 hr25 df d2 d3
      go_wp2_with fail
      go_region
      have Hat3:Hid (ExtAt B M n f rest word p o w (k + 1) ((w20.setCell ⟨M,1,none⟩ (.slice (some ⟨g2,0,none⟩) L c2)).setCell ⟨gr2,k,none⟩ (.int .i64 x)).drew) :=
       ⟨⟨_,_,_,Hrest.out⟩,(((Hb20.out.setCell (p:=⟨M,1,none⟩) hB21 _).setCell (p:=⟨gr2,k,none⟩) hr21 _).drew),Ho5.out⟩
      clear Hrest Hb20
      go_wp2
      go_roundw
      case rel=>exact ⟨k + 1,by omega,by omega,by go_num,Hat3⟩
      case measure=>simp [intOf]; omega
     ·have hkb:((k:Int) != F)=true:=by rw [bne_iff_ne]; omega
      have Hnx:=hd_ (show extTo n f rest word p o (k + 1)=ext n f (rest.set k (x - 1)) (word ++ [(97 + k).toUInt8]) (L + 1) (extTo n f rest word p o k) from by
       rw [Hsucc.out,extStep,if_neg (by rw [HFF.out]; omega),Hgd.out,if_neg hx0]
       rw [if_pos (by rw [HFF.out]; exact .inr hkF),HL.out])
      have Hfit2:=hd_ (HFit.out.down k (by rw [HR.out]; exact hlt) (x - 1) ⟨by omega,by omega⟩ (L + 1) ⟨by omega,by omega⟩ (extTo n f rest word p o k) ho5)
      have h18:Mk (wr.setCell ⟨gr,k,none⟩ (.int .i64 (x - 1))) B M (rest.set k (x - 1)) word (extTo n f rest word p o k) rv wv ov:=by
       have h0:=hmk
       rw [hrv,← HR.out] at h0
       rw [hrv,← HR.out]
       exact h0.setRest k (x - 1)
      have H18:=hd_ h18
      have hbl18:Below B w (wr.setCell ⟨gr,k,none⟩ (.int .i64 (x - 1))):=hbl.setCell (p:=⟨gr,k,none⟩) hgr1 _
      have Hbl18:=hd_ hbl18
      have hsz18:B≤(wr.setCell ⟨gr,k,none⟩ (.int .i64 (x - 1))).heap.size:=by have:=hbl18.size; omega
      have dfz:=hgr5 k
      have Hx0:=hd_ hx0
      have Ho5:Hid ((extTo n f rest word p o (k + 1)).1.length≤5000):=by
       show _≤_
       rw [Hsucc.out]
       exact extStep_len _ _ _ _ _ _ _ ho5
      clear hmk h18 hbl18 hbl hgr5 hrow
      go_upto_region 19 with (fail)
      have e1:(wr.setCell ⟨gr,k,none⟩ (.int .i64 (x - 1))).cell? ⟨M,1,none⟩=some (.slice aw L cw):=by rw [H18.out.cells.2.1,Hwv.out,HL.out]
      have e0:=H18.out.cells.1
      rw [hrv] at e0
      generalize wr.setCell ⟨gr,k,none⟩ (.int .i64 (x - 1))=w18 at *
      clear d0 d1 dx dfz
      have hu:(97:Int) + (k:Int)=(((97 + k).toUInt8).toNat:Nat):=by rw [u8_toNat _ (by omega)]; omega
      have Hu:=hd_ hu
      clear hu
      go_wp2_with (at_builtin; refine wpList_append_new rfl (.tmp 115) (.tmp 119) 62 rfl elByte (.slice aw L cw) 1 [.int .u8 (97 + (k:Int))] rfl rfl (by have:=H18.out.hw; rw [Hwv.out,HL.out] at this; exact this) hsz18 rfl ?c1 ?c2 ?c3 ?_)
      case c1=>intro u hu; simp at hu; subst hu; rfl
      case c2=>omega
      case c3=>omega
      intro v' w19 hown19 hg19 _
      obtain ⟨a19,c19,rfl⟩:=own_formW hown19
      rw [Hu.out,← HL.out] at hown19
      rw [← HL.out]
      have hp19:=H18.out.push (ch:=(97 + k).toUInt8) hown19 (by rw [Hwv.out,HL.out]; exact grown_alloc_trans hg19)
      rw [Hwv.out,HL.out] at hp19
      rw [HL.out]
      obtain ⟨hp1',hp2',hp3',hp4'⟩:=hp19
      have Hp1:=hd_ hp1'
      have Hp4:=hd_ (Hbl18.out.trans hp4')
      clear hown19 hg19 hp1' hp4' e0 e1
      go_wp2_with fail
      refine (HIH.out _ B M n _ (L + 1) (rest.set k (x - 1)) (word ++ [(97 + k).toUInt8]) (extTo n f rest word p o k) _ _ _ Hp1.out Hfit2.out (by have:=Hp4.out.size; omega) hn (by first | rfl | (push_cast; rfl))).mono ?_
      rintro e w20 ⟨rfl,⟨rv2,wv2,ov2,hmk20⟩,hb20⟩
      rw [← Hnx.out] at hmk20
      have Hb20:=hd_ (Hp4.out.trans hb20)
      clear hb20 hp2' hp3'
      obtain ⟨d0,d1,d2,d3,df⟩:=hmk20.cells
      obtain ⟨g2,c2,hwv2,hg21,hg22,hg23,hg24,hg25⟩:=own_open hmk20.hw (by simp)
      obtain ⟨gr2,cr2,hrv2,hr21,hr22,hr23,hr24,hr25⟩:=own_open hmk20.hr (by rw [List.length_set,HR.out]; omega)
      have hlw:(word ++ [(97 + k).toUInt8]).length=L + 1:=by rw [List.length_append,HL.out]; rfl
      have hlr:(rest.set k (x - 1)).length=R:=by rw [List.length_set,HR.out]
      have hneM:gr2≠M:=fun e=>by
       rcases own_ne hmk20.hr hmk20.hM (by decide) with h1 | h1
       ·rw [hrv2] at h1; simp [Value.ownBlock] at h1
       ·exact h1 (by rw [hrv2,e]; rfl)
      have hMne:M≠gr2:=fun e=>hneM e.symm
      rw [hwv2,hlw] at d1
      rw [hrv2,hlr] at d0
      have dx:=hr24 k (by rw [List.length_set,HR.out]; omega)
      rw [ints_get _ _ (by rw [List.length_set,HR.out]; omega),List.getElem_set_self] at dx
      have df1:=df 1
      have dfz:=hr25 k
      rw [hlw] at hg23
      have hB21:=hmk20.BM
      have hw2:=hmk20
      rw [hwv2,hlw,← HL.out,hrv2] at hw2
      have hpop:=Mk.pop hw2
      have Hrest:=hd_ ((hpop.setRest k x).drew)
      rw [List.set_set] at Hrest
      have hself:rest.set k x=rest:=by
       rw [← Hxx.out]; exact List.set_getElem_self _
      rw [hself] at Hrest
      rw [HL.out] at Hrest
      clear hmk20 hw2 hpop hwv2 hrv2 hg24 hg25 hr24 hr25 df d2 d3
      go_wp2_with fail
      go_region
      have Hat3:Hid (ExtAt B M n f rest word p o w (k + 1) ((w20.setCell ⟨M,1,none⟩ (.slice (some ⟨g2,0,none⟩) L c2)).setCell ⟨gr2,k,none⟩ (.int .i64 x)).drew) :=
       ⟨⟨_,_,_,Hrest.out⟩,(((Hb20.out.setCell (p:=⟨M,1,none⟩) hB21 _).setCell (p:=⟨gr2,k,none⟩) hr21 _).drew),Ho5.out⟩
      clear Hrest Hb20
      go_wp2
      go_roundw
      case rel=>exact ⟨k + 1,by omega,by omega,by go_num,Hat3⟩
      case measure=>simp [intOf]; omega
   ·obtain rfl:k=R:=by omega
    have Hat2:=hd_ Hat.out
    clear hmk d1 d2 d3 df hbl ho5 HIH HFit
    obtain ⟨ar,cr,hrv⟩:=own_formW hrow
    rw [hrv] at d0
    clear hrow hrv
    go_wp2
    refine bodyPost_end (results_none rfl _ _ _) rfl ?_
    exact ⟨rfl,Hat2.out.1,Hat2.out.2.1⟩
 case neg =>
  have HFF:=hd_ hF0
  rw [hF0] at hF1 Hat
  clear hF0
  go_enter Tryz.func168,Tryz.ntmps168
  go_wp2_with fail
  go_loopw [8] (fun c wr=>∃ k:Nat,0≤k∧k≤R∧c = .int .i64 k∧Hid (ExtAt B M n f rest word p o w k wr)) (fun c _=>R - (intOf c).toNat)
  case atStart=>exact ⟨0,Nat.le_refl _,hF1,rfl,Hat⟩
  case round =>
   clear Hat
   obtain ⟨k,hk1,hk2,rfl,Hat⟩:=hrel
   obtain ⟨⟨rv,wv,ov,hmk⟩,hbl,ho5⟩:=Hat.out
   have hrow:=hmk.hr
   rw [HR.out] at hrow
   obtain ⟨d0,d1,d2,d3,df⟩:=hmk.cells
   obtain ⟨aw,cw,hwv⟩:=own_formW hmk.hw
   have Hwv:=hd_ hwv
   rw [hwv,HL.out] at d1
   clear hwv
   by_cases hlt:k < R
   ·obtain ⟨gr,cr,hrv,hgr1,hgr2,hgr3,hgr4,hgr5⟩:=own_open hrow (by omega)
    rw [hrv] at d0
    have hgM:gr≠M:=fun e=>by
     rcases own_ne hrow hmk.hM (by decide) with h1 | h1
     ·rw [hrv] at h1; simp [Value.ownBlock] at h1
     ·exact h1 (by rw [hrv,e]; rfl)
    have hMg:M≠gr:=fun e=>hgM e.symm
    have dx:=hgr4 k (by omega)
    rw [ints_get _ _ (by rw [HR.out]; exact hlt)] at dx
    obtain ⟨hx1,hx2⟩:=HFit.out.small (rest[k]'(by rw [HR.out]; exact hlt)) (List.getElem_mem _)
    have Hgd:=hd_ (show rest.getD k 0=rest[k]'(by rw [HR.out]; exact hlt) from by rw [List.getD_eq_getElem?_getD,List.getElem?_eq_getElem (by rw [HR.out]; exact hlt)]; rfl)
    have Hsucc:=hd_ (extTo_succ n f rest word p o k)
    clear d2 d3 df hgr4
    generalize hxx:rest[k]'(by rw [HR.out]; exact hlt)=x at *
    have Hxx:=hd_ hxx
    clear hxx
    by_cases hx0:x=0
    ·subst hx0
     have Hat2:Hid (ExtAt B M n f rest word p o w (k + 1) wr):=by
      have e:extTo n f rest word p o (k + 1)=extTo n f rest word p o k:=by
       rw [Hsucc.out,extStep]
       by_cases hkF:k < firstOf word p
       ·rw [if_pos hkF]
       ·rw [if_neg hkF,if_pos Hgd.out]
      exact ⟨⟨rv,wv,ov,by rw [e]; exact hmk⟩,hbl,by rw [e]; exact ho5⟩
     clear hmk hrow hrv hgr5 hbl ho5 Hat HIH HFit Hsucc Hgd Hxx
     go_wp2
     go_roundw
     case rel=>exact ⟨k + 1,by omega,by omega,by go_num,Hat2⟩
     case measure=>simp [intOf]; omega
    ·have hxb:(x == 0)=false:=by simpa using hx0
     have Hrv:=hd_ hrv
     have Hnx:=hd_ (show extTo n f rest word p o (k + 1)=ext n f (rest.set k (x - 1)) (word ++ [(97 + k).toUInt8]) (L + 1) (extTo n f rest word p o k) from by
      rw [Hsucc.out,extStep,if_neg (by rw [HFF.out]; omega),Hgd.out,if_neg hx0]
      rw [if_pos (by rw [HL.out]; exact .inl (by omega)),HL.out])
     have Hfit2:=hd_ (HFit.out.down k (by rw [HR.out]; exact hlt) (x - 1) ⟨by omega,by omega⟩ (L + 1) ⟨by omega,by omega⟩ (extTo n f rest word p o k) ho5)
     have h18:Mk (wr.setCell ⟨gr,k,none⟩ (.int .i64 (x - 1))) B M (rest.set k (x - 1)) word (extTo n f rest word p o k) rv wv ov:=by
      have h0:=hmk
      rw [hrv,← HR.out] at h0
      rw [hrv,← HR.out]
      exact h0.setRest k (x - 1)
     have H18:=hd_ h18
     have hbl18:Below B w (wr.setCell ⟨gr,k,none⟩ (.int .i64 (x - 1))):=hbl.setCell (p:=⟨gr,k,none⟩) hgr1 _
     have Hbl18:=hd_ hbl18
     have hsz18:B≤(wr.setCell ⟨gr,k,none⟩ (.int .i64 (x - 1))).heap.size:=by have:=hbl18.size; omega
     have dfz:=hgr5 k
     have Hx0:=hd_ hx0
     have Ho5:Hid ((extTo n f rest word p o (k + 1)).1.length≤5000):=by
      show _≤_
      rw [Hsucc.out]
      exact extStep_len _ _ _ _ _ _ _ ho5
     clear hmk h18 hbl18 hbl hgr5 hrow
     go_upto_region 19 with (fail)
     have e1:(wr.setCell ⟨gr,k,none⟩ (.int .i64 (x - 1))).cell? ⟨M,1,none⟩=some (.slice aw L cw):=by rw [H18.out.cells.2.1,Hwv.out,HL.out]
     have e0:=H18.out.cells.1
     rw [hrv] at e0
     generalize wr.setCell ⟨gr,k,none⟩ (.int .i64 (x - 1))=w18 at *
     clear d0 d1 dx dfz
     have hu:(97:Int) + (k:Int)=(((97 + k).toUInt8).toNat:Nat):=by rw [u8_toNat _ (by omega)]; omega
     have Hu:=hd_ hu
     clear hu
     go_wp2_with (at_builtin; refine wpList_append_new rfl (.tmp 115) (.tmp 119) 62 rfl elByte (.slice aw L cw) 1 [.int .u8 (97 + (k:Int))] rfl rfl (by have:=H18.out.hw; rw [Hwv.out,HL.out] at this; exact this) hsz18 rfl ?c1 ?c2 ?c3 ?_)
     case c1=>intro u hu; simp at hu; subst hu; rfl
     case c2=>omega
     case c3=>omega
     intro v' w19 hown19 hg19 _
     obtain ⟨a19,c19,rfl⟩:=own_formW hown19
     rw [Hu.out,← HL.out] at hown19
     rw [← HL.out]
     have hp19:=H18.out.push (ch:=(97 + k).toUInt8) hown19 (by rw [Hwv.out,HL.out]; exact grown_alloc_trans hg19)
     rw [Hwv.out,HL.out] at hp19
     rw [HL.out]
     obtain ⟨hp1',hp2',hp3',hp4'⟩:=hp19
     have Hp1:=hd_ hp1'
     have Hp4:=hd_ (Hbl18.out.trans hp4')
     clear hown19 hg19 hp1' hp4' e0 e1
     go_wp2_with fail
     refine (HIH.out _ B M n _ (L + 1) (rest.set k (x - 1)) (word ++ [(97 + k).toUInt8]) (extTo n f rest word p o k) _ _ _ Hp1.out Hfit2.out (by have:=Hp4.out.size; omega) hn (by first | rfl | (push_cast; rfl))).mono ?_
     rintro e w20 ⟨rfl,⟨rv2,wv2,ov2,hmk20⟩,hb20⟩
     rw [← Hnx.out] at hmk20
     have Hb20:=hd_ (Hp4.out.trans hb20)
     clear hb20 hp2' hp3'
     obtain ⟨d0,d1,d2,d3,df⟩:=hmk20.cells
     obtain ⟨g2,c2,hwv2,hg21,hg22,hg23,hg24,hg25⟩:=own_open hmk20.hw (by simp)
     obtain ⟨gr2,cr2,hrv2,hr21,hr22,hr23,hr24,hr25⟩:=own_open hmk20.hr (by rw [List.length_set,HR.out]; omega)
     have hlw:(word ++ [(97 + k).toUInt8]).length=L + 1:=by rw [List.length_append,HL.out]; rfl
     have hlr:(rest.set k (x - 1)).length=R:=by rw [List.length_set,HR.out]
     have hneM:gr2≠M:=fun e=>by
      rcases own_ne hmk20.hr hmk20.hM (by decide) with h1 | h1
      ·rw [hrv2] at h1; simp [Value.ownBlock] at h1
      ·exact h1 (by rw [hrv2,e]; rfl)
     have hMne:M≠gr2:=fun e=>hneM e.symm
     rw [hwv2,hlw] at d1
     rw [hrv2,hlr] at d0
     have dx:=hr24 k (by rw [List.length_set,HR.out]; omega)
     rw [ints_get _ _ (by rw [List.length_set,HR.out]; omega),List.getElem_set_self] at dx
     have df1:=df 1
     have dfz:=hr25 k
     rw [hlw] at hg23
     have hB21:=hmk20.BM
     have hw2:=hmk20
     rw [hwv2,hlw,← HL.out,hrv2] at hw2
     have hpop:=Mk.pop hw2
     have Hrest:=hd_ ((hpop.setRest k x).drew)
     rw [List.set_set] at Hrest
     have hself:rest.set k x=rest:=by
      rw [← Hxx.out]; exact List.set_getElem_self _
     rw [hself] at Hrest
     rw [HL.out] at Hrest
     clear hmk20 hw2 hpop hwv2 hrv2 hg24 hg25 hr24 hr25 df d2 d3
     go_wp2_with fail
     go_region
     have Hat3:Hid (ExtAt B M n f rest word p o w (k + 1) ((w20.setCell ⟨M,1,none⟩ (.slice (some ⟨g2,0,none⟩) L c2)).setCell ⟨gr2,k,none⟩ (.int .i64 x)).drew) :=
      ⟨⟨_,_,_,Hrest.out⟩,(((Hb20.out.setCell (p:=⟨M,1,none⟩) hB21 _).setCell (p:=⟨gr2,k,none⟩) hr21 _).drew),Ho5.out⟩
     clear Hrest Hb20
     go_wp2
     go_roundw
     case rel=>exact ⟨k + 1,by omega,by omega,by go_num,Hat3⟩
     case measure=>simp [intOf]; omega
   ·obtain rfl:k=R:=by omega
    have Hat2:=hd_ Hat.out
    clear hmk d1 d2 d3 df hbl ho5 HIH HFit
    obtain ⟨ar,cr,hrv⟩:=own_formW hrow
    rw [hrv] at d0
    clear hrow hrv
    go_wp2
    refine bodyPost_end (results_none rfl _ _ _) rfl ?_
    exact ⟨rfl,Hat2.out.1,Hat2.out.2.1⟩
theorem extend_any:∀ f,ExtSaid f
 | 0=>extend_zero
 | f + 1=>extend_succ f (extend_any f)
end Go.Proofs.YtnjedhgcfeoemaaGreatDoor

namespace Go.Proofs.YtnjedhgcfeoemaaGreatDoor
open Go.RowKit
def ReadsInts (w:World) (a:Option Addr) (l:List Int):Prop :=
 l=[]∨∃ b off,a=some ⟨b,off,none⟩∧b < w.heap.size∧∀ i,i < l.length→w.cell? ⟨b,off + i,none⟩=some (.int .i64 (l.getD i 0))
def capTo (l:List Int) (k:Nat):Int:=(l.take k).foldl (fun n x=>min (n + min x 61) 61) 0
theorem capTo_succ (l:List Int) (k:Nat) (h:k < l.length):capTo l (k + 1)=min (capTo l k + min (l.getD k 0) 61) 61:=by
 have e:l.getD k 0=l[k]:=by rw [List.getD_eq_getElem?_getD,List.getElem?_eq_getElem h]; rfl
 unfold capTo
 rw [List.take_succ_eq_append_getElem h,List.foldl_append,e]; rfl
theorem getD_nonneg {l:List Int} (h:∀ x∈l,0≤x) (k:Nat):0≤l.getD k 0:=by
 rw [List.getD_eq_getElem?_getD]
 cases hk:l[k]? with
 | none=>simp
 | some x=>exact h x (List.mem_of_getElem? hk)
def capSum (l:List Int):Int:=capTo l l.length
theorem capTo_range (l:List Int) (h:∀ x∈l,0≤x) (k:Nat):0≤capTo l k∧capTo l k≤61:=by
 induction k with
 | zero=>simp [capTo]
 | succ k ih =>
  by_cases hk:k < l.length
  ·rw [capTo_succ l k hk]
   have:=getD_nonneg h k
   omega
  ·have:capTo l (k + 1)=capTo l k:=by simp [capTo,List.take_of_length_le (show l.length≤k by omega),List.take_of_length_le (show l.length≤k + 1 by omega)]
   rw [this]; exact ih
def neckOf (l:List Int):Col:=ext (capSum l).toNat (capSum l).toNat l [] 1 ([],false)
theorem capTo_mono (l:List Int) (h:∀ x∈l,0≤x) (k:Nat):capTo l k≤capTo l (k + 1):=by
 have hr:=capTo_range l h k
 by_cases hk:k < l.length
 ·rw [capTo_succ l k hk]
  have:=getD_nonneg h k
  omega
 ·have:capTo l (k + 1)=capTo l k:=by simp [capTo,List.take_of_length_le (show l.length≤k by omega),List.take_of_length_le (show l.length≤k + 1 by omega)]
  omega
theorem capTo_le (l:List Int) (h:∀ x∈l,0≤x) {i j:Nat} (hij:i≤j):capTo l i≤capTo l j:=by
 induction hij with
 | refl=>exact Int.le_refl _
 | step _ ih=>exact Int.le_trans ih (capTo_mono l h _)
theorem small_of_sum (l:List Int) (h:∀ x∈l,0≤x) (hs:capSum l≤60):Small 61 l:=by
 intro x hx
 obtain ⟨i,hi,rfl⟩:=List.getElem_of_mem hx
 refine ⟨h _ hx,?_⟩
 have h1:=capTo_le l h (show i + 1≤l.length by omega)
 have h2:=capTo_range l h i
 rw [capTo_succ l i hi] at h1
 have e:l.getD i 0=l[i]:=by rw [List.getD_eq_getElem?_getD,List.getElem?_eq_getElem hi]; rfl
 unfold capSum at hs
 omega
def NeckOut (l:List Int) (w:World) (e:Ending) (w':World):Prop :=
 (((neckOf l).2=true∧e = .returned (.tuple #[.slice none 0 0,.int .i64 4])) ∨
 ((neckOf l).2=false∧∃ v,e = .returned (.tuple #[v,.int .i64 0])∧w'.ownsRow w.heap.size 9 1 v (neckOf l).1.length (strsW (neckOf l).1)))∧Below w.heap.size w w'
theorem neck_good (w:World) (a:Option Addr) (c:Nat) (l:List Int) (hr:ReadsInts w a l) (hl:l.length≤26) (hpos:∀ x∈l,0≤x) (hz1:1≤capSum l) (hz2:capSum l≤60) :
  Calls Tryz.prog 95 #[.slice a l.length c] w (NeckOut l w):=by
 have Hsm:=hd_ (small_of_sum l hpos hz2)
 have Hz:=hd_ (show 1≤capSum l∧capSum l≤60 from ⟨hz1,hz2⟩)
 have Hl:=hd_ hl
 clear hz1 hz2
 have hcr:=capTo_range l hpos
 have Hcr:=hd_ hcr
 have Hpos:=hd_ (fun k=>getD_nonneg hpos k)
 have Hr:=hd_ hr
 clear hr hpos hcr
 generalize hn:l.length=n at *
 have Hn:=hd_ hn
 clear hn
 go_enter Tryz.func95,Tryz.ntmps95
 go_wp2_with fail
 go_loop [15] (fun i=>∃ k:Nat,k≤n∧i = .int .i64 k) (fun i=>n - (intOf i).toNat)
 case atStart=>exact ⟨0,Nat.zero_le _,rfl⟩
 case round =>
  obtain ⟨k,hk,rfl⟩:=hrel
  by_cases hlt:k < n
  ·rcases Hr.out with hr | ⟨b,off,rfl,hb,hc⟩
   ·have:=Hn.out; rw [hr] at this; simp at this; omega
   have cx:=hc k (by rw [Hn.out]; exact hlt)
   have hx:=Hpos.out k
   clear hc
   generalize l.getD k 0=x at *
   go_wp2
   go_round
   case rel=>exact ⟨k + 1,by omega,by go_num⟩
   case measure=>simp [intOf]; omega
  ·obtain rfl:k=n:=by omega
   clear hlt hk
   go_wp2_with fail
   go_loop [4,24] (fun s i=>∃ j:Nat,j≤k∧i = .int .i64 j∧s = .int .i64 (capTo l j)) (fun _ i=>k - (intOf i).toNat)
   case atStart=>exact ⟨0,Nat.zero_le _,rfl,rfl⟩
   case round =>
    obtain ⟨j,hj,rfl,rfl⟩:=hrel
    by_cases hlt:j < k
    ·rcases Hr.out with hr | ⟨b,off,rfl,hb,hc⟩
     ·have:=Hn.out; rw [hr] at this; simp at this; omega
     have cx:=hc j (by rw [Hn.out]; exact hlt)
     have hx:=Hpos.out j
     obtain ⟨hs1,hs2⟩:=Hcr.out j
     have Hs:=hd_ (capTo_succ l j (by rw [Hn.out]; exact hlt))
     clear hc
     generalize l.getD j 0=x at *
     generalize capTo l j=s at *
     go_wp2
     go_round
     case rel=>exact ⟨j + 1,by omega,by go_num,by rw [Hs.out]⟩
     case measure=>simp [intOf]; omega
    ·obtain rfl:j=k:=by omega
     clear hlt hj
     obtain ⟨N,hN⟩:∃ N:Nat,capSum l=N:=⟨(capSum l).toNat,by have:=Hz.out.1; omega⟩
     have hz:capTo l j=N:=by rw [← hN,capSum,Hn.out]
     have hN1:1≤N:=by have:=Hz.out.1; omega
     have hN2:N≤60:=by have:=Hz.out.2; omega
     have HN:=hd_ hN
     rw [hz]
     clear hz hN
     rcases Hr.out with hr | ⟨b,off,rfl,hb,hc⟩
     ·have h1:=HN.out; rw [hr] at h1; simp [capSum,capTo] at h1; omega
     have Hc:=hd_ hc
     clear hc
     go_wp2_with fail
     refine (Tryz.slices_Clone_int b off j c l _ (by rw [Hn.out]; exact Nat.le_refl _) (by omega) Hc.out).mono ?_
     rintro e w1 ⟨v,rfl,hown,hne,hb1⟩
     rw [List.take_of_length_le (by rw [Hn.out]; exact Nat.le_refl _)] at hown
     have hown1:w1.ownsRow w.heap.size 3 1 v l.length (ints l):=by rw [Hn.out]; exact hown
     obtain ⟨av,cv,rfl⟩:=own_formW hown
     have Hown:=hd_ hown1
     have Hb1:=hd_ hb1
     clear hown hown1 hne hb1
     go_wp2_with fail
     have Hmk:Hid (Mk (w1.alloc (.cells #[.slice av j cv,.slice none 0 0,.slice none 0 0,.bool false] 230)) w.heap.size w1.heap.size l [] ([],false) (.slice av j cv) (.slice none 0 0) (.slice none 0 0)) :=
      ⟨heap_alloc_new _ _,Hb1.out.size,Hown.out.alloc _,World.ownsRow_nil ..,World.ownsRow_nil ..⟩
     have Hfit:Hid (Fit N N l [] 1 ([],false)):=⟨hN2,by simp,by omega,by omega,by rw [Hn.out]; exact hl,Hsm.out,by intro x hx; simp at hx,by simp⟩
     have Hbl:=hd_ (Hb1.out.alloc Hb1.out.size (.cells #[.slice av j cv,.slice none 0 0,.slice none 0 0,.bool false] 230))
     refine (extend_any N _ w.heap.size w1.heap.size N 1 1 l [] ([],false) _ _ _ Hmk.out Hfit.out (by have:=Hbl.out.size; omega) (by omega) rfl).mono ?_
     rintro e w2 ⟨rfl,⟨rv,wv,ov,hmk⟩,hb2⟩
     have HO:=hd_ (show neckOf l=ext N N l [] 1 ([],false) from by unfold neckOf; rw [HN.out,Int.toNat_natCast])
     rw [← HO.out] at hmk
     have Hb2:=hd_ (Hbl.out.trans hb2)
     clear hb2 Hmk Hfit Hbl
     obtain ⟨d0,d1,d2,d3,df⟩:=hmk.cells
     have Hown2:=hd_ hmk.ho
     obtain ⟨ao,co,hov⟩:=own_formW hmk.ho
     rw [hov] at d2
     cases hfull:(neckOf l).2 with
     | true =>
      rw [hfull] at d3
      have Hfull:=hd_ hfull
      clear hmk hov df d0 d1 hfull
      go_wp2
      go_ret2
      exact ⟨.inl ⟨Hfull.out,rfl⟩,Hb2.out⟩
     | false =>
      rw [hfull] at d3
      have Hfull:=hd_ hfull
      rw [hov] at Hown2
      clear hmk hov df d0 d1 hfull
      go_wp2
      go_ret2
      exact ⟨.inr ⟨Hfull.out,_,rfl,Hown2.out⟩,Hb2.out⟩
end Go.Proofs.YtnjedhgcfeoemaaGreatDoor

namespace Go.Proofs.YtnjedhgcfeoemaaGreatDoor
open Go.RowKit
def w1S:ByteArray:=bs [97,97,98,97,97,97,98]
def w2S:ByteArray:=bs [97,97,98,98,97,97,98]
def w3S:ByteArray:=bs [97,98,97,98,97,98]
theorem chk_w1:chk (lb w1S)=0:=by decide +kernel
theorem chk_w2:chk (lb w2S)=0:=by decide +kernel
theorem chk_w3:chk (lb w3S)=0:=by decide +kernel
theorem least_w1:leastOf w1S=3:=by decide +kernel
theorem rot_w1:rot w1S 3=⟨#[97,97,97,98,97,97,98]⟩:=by decide +kernel
theorem chris52:bs (chrisTo 7 2 7)=⟨#[97,97,97,98,97,97,98]⟩:=by decide +kernel
theorem neck22:neckOf [2,2]=([[97,97,98,98],[97,98,97,98]],false):=by decide +kernel
theorem sum22:capSum [2,2]=4:=by decide +kernel
instance (s:ByteArray) (n i j c:Nat):Decidable (bad s n i j c):=by unfold bad; infer_instance
theorem bal_w2 {n i j c:Nat} (h:Found w2S 26 n i j c):n=2∧i=0∧j=2∧c=0:=by
 have hb:bad w2S 2 0 2 0:=by decide +kernel
 have hsz:w2S.size=7:=rfl
 have hn:n≤2:=by
  rcases Nat.lt_or_ge 2 n with h1 | h1
  ·exact absurd hb (h.hn 2 (by omega) h1 0 (by omega) 2 (by omega) (by omega) 0 (by omega))
  ·exact h1
 have h1:∀ i,i < 7→∀ j,j < 7→∀ c,c < 26→¬ bad w2S 1 i j c:=by decide +kernel
 have hn2:n=2:=by
  have:=h.n1
  rcases Nat.lt_or_ge n 2 with h2 | h2
  ·obtain rfl:n=1:=by omega
   exact absurd h.isBad (h1 i (by have:=h.ij; have:=h.j2; omega) j (by have:=h.j2; omega) c h.c2)
  ·omega
 subst hn2
 have hi:i=0:=by
  rcases Nat.eq_zero_or_pos i with h2 | h2
  ·exact h2
  ·exact absurd hb (h.hi 0 h2 2 (by omega) (by omega) 0 (by omega))
 subst hi
 have h3:∀ c,c < 26→¬ bad w2S 2 0 1 c:=by decide +kernel
 have hj:j=2:=by
  have:=h.ij
  rcases Nat.lt_or_ge 2 j with h2 | h2
  ·exact absurd hb (h.hj 2 (by omega) h2 0 (by omega))
  ·rcases Nat.lt_or_ge j 2 with h4 | h4
   ·obtain rfl:j=1:=by omega
    exact absurd h.isBad (h3 c h.c2)
   ·omega
 subst hj
 refine ⟨rfl,rfl,rfl,?_⟩
 rcases Nat.eq_zero_or_pos c with h2 | h2
 ·exact h2
 ·exact absurd hb (h.hc 0 h2)
theorem bal_w2_out {w w':World} {e:Ending} (h:BalOut w2S w e w'):e = .returned (.tuple #[.bool false,.agg #[.int .i64 2,.int .i64 0,.int .i64 2,.string ⟨#[97]⟩],.int .i64 0])∧Below w.heap.size w w':=by
 refine ⟨?_,h.2⟩
 rcases h.1 with ⟨n,i,j,c,hf,rfl⟩ | ⟨hok,rfl⟩
 ·obtain ⟨rfl,rfl,rfl,rfl⟩:=bal_w2 hf
  rfl
 ·exact absurd (show bad w2S 2 0 2 0 by decide +kernel) (hok 2 (by omega) (by decide) 0 (by decide) 2 (by omega) (by decide) 0 (by omega))
theorem known_any (w:World):Gives Tryz.prog 30 #[] w (.bool true):=by
 unfold Gives
 go_enter Tryz.func30,Tryz.ntmps30
 go_wp2_with fail
 refine (least_good w1S _ chk_w1).mono ?_
 rw [least_w1,rot_w1]
 rintro e w1 ⟨rfl,hb1⟩
 go_wp2_with fail
 refine (chris_good 5 2 _ (by decide) (by decide)).mono ?_
 rw [chris52]
 rintro e w2 ⟨rfl,hb2⟩
 have Hb2:=hd_ (hb1.trans (hb2.mono hb1.size))
 clear hb1 hb2
 go_wp2_with fail
 refine (balanced_good w2S _ chk_w2).mono ?_
 intro e w3 h3
 obtain ⟨rfl,hb3⟩:=bal_w2_out h3
 have Hb3:=hd_ (Hb2.out.trans (hb3.mono Hb2.out.size))
 clear h3 hb3 Hb2
 go_wp2_with fail
 refine (neck_good _ (some ⟨w3.heap.size + 1,0,none⟩) 2 [2,2] (.inr ⟨_,0,rfl,by simp,?hcells⟩) (by decide) (by decide) (by rw [sum22]; decide) (by rw [sum22]; decide)).mono ?_
 case hcells =>
  intro i hi
  have hh:=heap_alloc_new (w3.alloc (.cells #[.int .i64 2,.int .i64 0,.int .i64 2,.string ⟨#[97]⟩] 152)) (.cells #[.int .i64 2,.int .i64 2] 3)
  rw [show (w3.alloc (.cells #[.int .i64 2,.int .i64 0,.int .i64 2,.string ⟨#[97]⟩] 152)).heap.size=w3.heap.size + 1 by simp] at hh
  rw [cell_of_row _ _ _ _ _ _ hh]
  match i,hi with
  | 0,_=>rfl
  | 1,_=>rfl
 intro e w4 h4
 obtain ⟨h4,hb4⟩:=h4
 rw [neck22] at h4
 obtain ⟨v,rfl,hown⟩:∃ v,e = .returned (.tuple #[v,.int .i64 0])∧w4.ownsRow _ 9 1 v 2 (strsW [[97,97,98,98],[97,98,97,98]]):=by
  rcases h4 with ⟨h,_⟩ | ⟨_,h⟩
  ·cases h
  ·exact h
 obtain ⟨g,cap,rfl,hg1,hg2,hg3,hg4,hg5⟩:=own_open hown (by decide)
 have x0:w4.cell? ⟨g,0,none⟩=some (.string ⟨#[97,97,98,98]⟩):=hg4 0 (by decide)
 have x1:w4.cell? ⟨g,1,none⟩=some (.string ⟨#[97,98,97,98]⟩):=hg4 1 (by decide)
 have hW:=hb4.block w3.heap.size (by simp; omega)
 have hWB:w4.heap[w3.heap.size]?=some (.cells #[.int .i64 2,.int .i64 0,.int .i64 2,.string ⟨#[97]⟩] 152 (0,0)):=by
  rw [hW,heap_alloc2_old]
 have Hb4:Hid (Below w.heap.size w w4):=Hb3.out.trans ((((Below.refl _ _).alloc nr_ _).alloc (by simp) _).trans (hb4.mono (by simp; omega)) |>.mono Hb3.out.size)
 have HWB:=hd_ hWB
 have hgW:w3.heap.size < w4.heap.size:=(Array.getElem?_eq_some_iff.1 hWB).1
 have Hx0:=hd_ x0
 have Hx1:=hd_ x1
 clear hown hg4 hg5 hW hWB hb4 h4 Hb3 x0 x1
 go_wp2_with fail
 refine (prim_upto w3S _ chk_w3 2 (by decide) (by decide) ?_ _ (.inl ⟨by decide,⟨by decide +kernel,by decide +kernel⟩,rfl⟩)).mono ?_
 ·intro m h1 h2
  obtain rfl:m=1:=by omega
  exact fun h=>absurd h.2 (by decide +kernel)
 rintro e w5 ⟨rfl,hb5⟩
 have x0:w5.cell? ⟨g,0,none⟩=some (.string ⟨#[97,97,98,98]⟩):=by rw [hb5.cell (p:=⟨g,0,none⟩) hg2]; exact Hx0.out
 have x1:w5.cell? ⟨g,1,none⟩=some (.string ⟨#[97,98,97,98]⟩):=by rw [hb5.cell (p:=⟨g,1,none⟩) hg2]; exact Hx1.out
 have hWB5:w5.heap[w3.heap.size]?=some (.cells #[.int .i64 2,.int .i64 0,.int .i64 2,.string ⟨#[97]⟩] 152 (0,0)):=by rw [hb5.block _ hgW]; exact HWB.out
 have y0:w5.cell? ⟨w3.heap.size,0,none⟩=some (.int .i64 2):=by rw [cell_of_row _ _ _ _ _ _ hWB5]; rfl
 have y1:w5.cell? ⟨w3.heap.size,1,none⟩=some (.int .i64 0):=by rw [cell_of_row _ _ _ _ _ _ hWB5]; rfl
 have y2:w5.cell? ⟨w3.heap.size,2,none⟩=some (.int .i64 2):=by rw [cell_of_row _ _ _ _ _ _ hWB5]; rfl
 have y3:w5.cell? ⟨w3.heap.size,3,none⟩=some (.string ⟨#[97]⟩):=by rw [cell_of_row _ _ _ _ _ _ hWB5]; rfl
 have Hb5:=hd_ (Hb4.out.trans (hb5.mono Hb4.out.size))
 clear Hx0 Hx1 HWB hWB5 hb5 Hb4
 have ex:w3S.extract 0 2=⟨#[97,98]⟩:=by decide +kernel
 have es:(w3S.size:Int) / (2:Nat)=3:=by decide +kernel
 rw [ex,es]
 clear ex es
 go_wp2
 go_ret
 exact ⟨rfl,Hb5.out⟩
end Go.Proofs.YtnjedhgcfeoemaaGreatDoor

namespace Go.Proofs.YtnjedhgcfeoemaaGreatDoor
open Go.RowKit Go.Shelf
theorem OwnL.keptE {w w':World} {B r d n:Nat} {b:Option Addr} {L:List (Option Addr×Nat)} {ls:List (List Rat)} (h:OwnL w B b d n L ls) (hg:w.grownBy w' (some r)) (hr:r < B):OwnL w' B b d n L ls :=
 ⟨h.len,h.row.kept hg (.inr fun e=>by have:=(h.row.lt _ e).1; omega),fun i h1 h2=>by
  have:=h.each i h1 h2
  exact World.ownsRow.kept (show w.ownsRow B 42 2 _ _ _ from this) hg (.inr fun e=>by have:=(World.ownsRow.lt (show w.ownsRow B 42 2 _ _ _ from this) _ e).1; omega),h.lens⟩
theorem grownBy_set1 (w:World) (b:Nat) (v:Value):w.grownBy (w.setCell ⟨b,1,none⟩ v) (some b) :=
 ⟨rfl,rfl,rfl,by simp [World.setCell],fun k _ hk=>Below.heap_setCell _ _ _ _ (fun e=>hk (by simp [e]))⟩
structure Box2 (w:World) (E:Nat) (a b:Value):Prop where
 c0:w.cell? ⟨E,0,none⟩=some a
 c1:w.cell? ⟨E,1,none⟩=some b
 f1:w.frozen? ⟨E,1,none⟩=false
theorem Box2.of {w:World} {E:Nat} {a b:Value} {t:TypeId} (h:w.heap[E]?=some (.cells #[a,b] t (0,0))):Box2 w E a b:=by
 obtain ⟨k0,k1,-,f1⟩:=two_cells h
 exact ⟨k0,k1,f1⟩
theorem Box2.kept {w w':World} {E:Nat} {a b:Value} (h:Box2 w E a b) (e:w'.heap[E]?=w.heap[E]?):Box2 w' E a b :=
 ⟨(World.cell?_of_block (w:=w) e (a:=⟨E,0,none⟩)).trans h.c0,(World.cell?_of_block (w:=w) e (a:=⟨E,1,none⟩)).trans h.c1,by have:=h.f1; unfold World.frozen? at this ⊢; rw [e]; exact this⟩
theorem Box2.set {w:World} {E:Nat} {a b:Value} (h:Box2 w E a b) (v:Value):Box2 (w.setCell ⟨E,1,none⟩ v) E a v :=
 ⟨by rw [World.cell?_setCell_other _ _ _ _ (by simp)]; exact h.c0,World.cell?_setCell_same _ _ _ h.c1,by rw [World.frozen?_setCell]; exact h.f1⟩
def stB (l:List UInt8):List Nat:=l.map fun x=>x.toNat % 6
def wantB (T:Nat→Nat) (m k:Nat):ByteArray:=⟨((List.range k).map fun i=>UInt8.ofNat (97 + gtN T m (T i))).toArray⟩
theorem wantB_succ (T:Nat→Nat) (m k:Nat):wantB T m k ++ ltr (gtN T m (T k))=wantB T m (k + 1):=by
 unfold wantB ltr
 rw [List.range_succ,List.map_append]
 apply ByteArray.ext
 simp [bs,ByteArray.data_append]
def grB (T:Nat→Nat) (x j v:Nat):Bool:=decide (x < v) && (List.range j).any fun i=>T i == v
theorem grB_succ (T:Nat→Nat) (x j v:Nat):grB T x (j + 1) v=if v=T j∧x < T j then true else grB T x j v:=by
 unfold grB
 rw [List.range_succ,List.any_append]
 simp only [List.any_cons,List.any_nil,Bool.or_false]
 by_cases h:v=T j
 ·subst h
  by_cases h2:x < T j
  ·rw [if_pos ⟨rfl,h2⟩]; simp [h2]
  ·rw [if_neg (fun h=>h2 h.2)]; simp [h2]
 ·have e:(T j == v)=false:=by rw [beq_eq_false_iff_ne]; exact fun h2=>h h2.symm
  rw [if_neg (fun h2=>h h2.1),e,Bool.or_false]
theorem grB_all {T:Nat→Nat} {m x:Nat} (h:∀ i,T i < 6):(List.range 6).countP (grB T x m)=gtN T m x:=by
 unfold gtN
 rw [show (26:Nat)=6 + 20 from rfl,List.range_add,List.countP_append]
 have:((List.range 20).map (6 + ·)).countP (fun v=>decide (x < v) && (List.range m).any fun j=>T j == v)=0:=by
  rw [List.countP_eq_zero]
  intro v hv
  obtain ⟨y,_,rfl⟩:=List.mem_map.1 hv
  simp only [Bool.and_eq_true,decide_eq_true_eq,List.any_eq_true,beq_iff_eq,not_and,not_exists]
  intro _ j _ hj
  have:=h j
  omega
 rw [this]
 rfl
theorem lawWof_main (w:World) (pn:Nat) (nu:Nat→Int) (de:Nat→Nat) (al:Option Addr) (cl:Nat) (l:List UInt8) (hpn:pn < 256) (hnu:∀ k,-128≤nu k∧nu k≤127) (hde:∀ k,de k < 256) (hr:ReadsBytes w al l) (h0:0 < l.length) (h8:l.length≤8) (L:Laid w) :
  Gives Tryz.prog 5 #[.agg (partsV nu de),.int .u8 pn,.slice al l.length cl] w (.bool true):=by
 unfold Gives
 have hp:=primesL_ok (pn % 10) (Nat.mod_lt _ (by decide))
 have hps:=primesL_small (pn % 10) (Nat.mod_lt _ (by decide))
 have HPr:=hd_ (fun W=>primes_any W pn hpn)
 generalize primesL (pn % 10)=ps at *
 obtain ⟨hp0,hp4,hp1,hp2⟩:=hp
 obtain ⟨hq1,hq2⟩:=hps
 have hp100:ps.length≤100:=by omega
 have HK:Hid (∀ W,Gives Tryz.prog 30 #[] W (.bool true)):=fun W=>known_any W
 have HM:Hid (∀ W a0 c0,Below w.heap.size w W→Calls Tryz.prog 33 #[.slice a0 ps.length c0,.agg #[.int .i8 (nu 0),.int .u8 (de 0),.int .i8 (nu 1),.int .u8 (de 1),.int .i8 (nu 2),.int .u8 (de 2),.int .i8 (nu 3),.int .u8 (de 3)]] W fun e w'=>∃ a c,e = .returned (.slice a ps.length c)∧Rd w' a (cellsQ (partsQ nu de ps.length))∧Below W.heap.size W w'):=fun W a0 c0 hW=>by
  refine cm_ (make_any W a0 c0 ps.length hp4 nu de hnu hde (L.below hW)) ?_
  rintro e w' ⟨a,c,rfl,ho,hb⟩
  exact ⟨a,c,rfl,ho.rd,hb⟩
 have la1:=partsQ_length nu de ps.length
 have sa:=partsQ_sm nu de ps.length
 have ma:=partsQ_sml nu de ps.length
 generalize partsQ nu de ps.length=la at *
 have ga:Good ps la:=ma.good (ps:=ps) (by decide) (pow_kb (by decide)) hq1 hq2
 have HAb:Hid (∀ W a0 a1 c0 c1,Below w.heap.size w W→Rd W a0 (ints ps)→Rd W a1 (cellsQ la)→Calls Tryz.prog 32 #[.slice a0 ps.length c0,.slice a1 ps.length c1] W fun e w'=>∃ a c,e = .returned (.tuple #[.slice a ps.length c,.int .i64 0])∧Rd w' a (cellsQ (wmQ la ((LN.sz ps la:Int):Rat)))∧Below W.heap.size W w'):=fun W a0 a1 c0 c1 hW r0 r1=>absW_ok c0 c1 hp0 hp100 hp2 hq1 r0 r1 la1 sa ga (L.below hW)
 have hsu:LN.sz ps (wmQ la ((LN.sz ps la:Int):Rat))=(if LN.sz ps la=0 then 0 else 1):=by
  by_cases h:LN.sz ps la=0
  ·rw [if_pos h]
   unfold wmQ
   rw [LN.sz_mul (smallP_pos hq1),h]; rfl
  ·rw [if_neg h]; exact (wmQ_unit hq1 h ma sa).1
 by_cases hz:LN.sz ps la=0
 ·have hum:Sml 480 12 (wmQ la ((LN.sz ps la:Int):Rat)):=by
   rw [hz]
   have:=ma.scale (by decide) (d:=1) ((0:Int):Rat) 0 (by decide) (by grind)
   exact (show Sml _ 12 _ from this).le (by decide)
  have hus:∀ q∈wmQ la ((LN.sz ps la:Int):Rat),Sm 2 q:=by
   rw [hz]
   intro q hq
   obtain ⟨y,_,rfl⟩:=List.mem_map.1 hq
   rw [show ((0:Int):Rat) * y=0 by grind]
   exact Sm.zero.le (by decide)
  rw [if_pos hz] at hsu
  have hul:(wmQ la ((LN.sz ps la:Int):Rat)).length=ps.length:=by rw [wmQ_length,la1]
  generalize wmQ la ((LN.sz ps la:Int):Rat)=u at *
  have gu:Good ps u:=hum.good (ps:=ps) (by decide) (pow_kb (by decide)) hq1 hq2
  have HSg:Hid (∀ W a0 a1 c0 c1,Below w.heap.size w W→Rd W a0 (ints ps)→Rd W a1 (cellsQ u)→Gives Tryz.prog 34 #[.slice a0 ps.length c0,.slice a1 ps.length c1] W (.tuple #[.int .i64 0,.int .i64 0])):=fun W a0 a1 c0 c1 hW r0 r1=>by
   have:=signW_ok c0 c1 hp0 hp100 hp2 r0 r1 hul hus gu (L.below hW)
   rw [hsu] at this
   exact this
  clear gu hum hus hul hsu hz ga ma sa la1 hq1 hq2 hp0 hp1 hp2 hp4 hnu hde hpn L
  generalize l.length=m at *
  have hz':((m:Int) == 0)=false:=by rw [beq_eq_false_iff_ne]; omega
  have h8':decide ((8:Int) < m)=false:=decide_eq_false (by omega)
  unfold partsV
  have B0:=hd_ ((Below.refl w.heap.size w).alloc nr_ (.cells #[.int .i8 (nu 0),.int .u8 (de 0),.int .i8 (nu 1),.int .u8 (de 1),.int .i8 (nu 2),.int .u8 (de 2),.int .i8 (nu 3),.int .u8 (de 3)] 61))
  have C0:=hd_ (heap_at w #[.int .i8 (nu 0),.int .u8 (de 0),.int .i8 (nu 1),.int .u8 (de 1),.int .i8 (nu 2),.int .u8 (de 2),.int .i8 (nu 3),.int .u8 (de 3)] 61 _ rfl)
  go_enter Tryz.func5,Tryz.ntmps5
  go_wp2_with fail
  generalize w.alloc (.cells #[.int .i8 (nu 0),.int .u8 (de 0),.int .i8 (nu 1),.int .u8 (de 1),.int .i8 (nu 2),.int .u8 (de 2),.int .i8 (nu 3),.int .u8 (de 3)] 61)=w0 at *
  refine cm_ (HK.out _) ?_
  rintro e_ w1 ⟨rfl,hb_⟩
  have B1:=hd_ (B0.out.trans (hb_.mono B0.out.size))
  have C1:=hd_ (heap_kept C0.out hb_ nr_)
  clear hb_ B0 C0
  go_wp2_with fail
  refine cm_ (HPr.out _) ?_
  rintro e_ w2 ⟨gp,rfl,hr_,hb_⟩
  have B2:=hd_ (B1.out.trans (hb_.mono B1.out.size))
  have C2:=hd_ (heap_kept C1.out hb_ nr_)
  have Rp:=hd_ hr_
  have m0:w2.cell? ⟨w.heap.size,0,none⟩=some (.int .i8 (nu 0)):=by rw [cell_of_row _ _ _ _ _ _ C2.out]; rfl
  have m1:w2.cell? ⟨w.heap.size,1,none⟩=some (.int .u8 (de 0)):=by rw [cell_of_row _ _ _ _ _ _ C2.out]; rfl
  have m2:w2.cell? ⟨w.heap.size,2,none⟩=some (.int .i8 (nu 1)):=by rw [cell_of_row _ _ _ _ _ _ C2.out]; rfl
  have m3:w2.cell? ⟨w.heap.size,3,none⟩=some (.int .u8 (de 1)):=by rw [cell_of_row _ _ _ _ _ _ C2.out]; rfl
  have m4:w2.cell? ⟨w.heap.size,4,none⟩=some (.int .i8 (nu 2)):=by rw [cell_of_row _ _ _ _ _ _ C2.out]; rfl
  have m5:w2.cell? ⟨w.heap.size,5,none⟩=some (.int .u8 (de 2)):=by rw [cell_of_row _ _ _ _ _ _ C2.out]; rfl
  have m6:w2.cell? ⟨w.heap.size,6,none⟩=some (.int .i8 (nu 3)):=by rw [cell_of_row _ _ _ _ _ _ C2.out]; rfl
  have m7:w2.cell? ⟨w.heap.size,7,none⟩=some (.int .u8 (de 3)):=by rw [cell_of_row _ _ _ _ _ _ C2.out]; rfl
  clear hb_ hr_ B1 C1 HPr
  go_wp2_with fail
  clear m0 m1 m2 m3 m4 m5 m6 m7 C2
  refine cm_ (HM.out _ _ _ B2.out) ?_
  rintro e_ w3 ⟨ax,cx,rfl,hr_,hb_⟩
  have B3:=hd_ (B2.out.trans (hb_.mono B2.out.size))
  replace Rp:=hd_ (Rp.out.below hb_ nr_)
  have Rx:=hd_ hr_
  clear hb_ hr_ B2 HM
  go_wp2_with fail
  refine cm_ (HAb.out _ _ _ _ _ B3.out Rp.out Rx.out) ?_
  rintro e_ w4 ⟨au,cu,rfl,hr_,hb_⟩
  have B4:=hd_ (B3.out.trans (hb_.mono B3.out.size))
  replace Rp:=hd_ (Rp.out.below hb_ nr_)
  have Ru:=hd_ hr_
  clear hb_ hr_ B3 HAb Rx
  go_wp2_with fail
  refine cm_ (HSg.out _ _ _ _ _ B4.out Rp.out Ru.out) ?_
  rintro e_ w5 ⟨rfl,hb_⟩
  have B5:=hd_ (B4.out.trans (hb_.mono B4.out.size))
  replace Rp:=hd_ (Rp.out.below hb_ nr_)
  replace Ru:=hd_ (Ru.out.below hb_ nr_)
  clear hb_ B4 HSg HK
  go_wp2_with fail
  go_ret
  exact ⟨rfl,B5.out⟩
 ·rw [if_neg hz] at hsu
  obtain ⟨-,hum,hus⟩:=wmQ_unit hq1 hz ma sa
  have hul:(wmQ la ((LN.sz ps la:Int):Rat)).length=ps.length:=by rw [wmQ_length,la1]
  generalize wmQ la ((LN.sz ps la:Int):Rat)=u at *
  have gu:Good ps u:=hum.good (ps:=ps) (by decide) (pow_kb (by decide)) hq1 hq2
  have HSg:Hid (∀ W a0 a1 c0 c1,Below w.heap.size w W→Rd W a0 (ints ps)→Rd W a1 (cellsQ u)→Gives Tryz.prog 34 #[.slice a0 ps.length c0,.slice a1 ps.length c1] W (.tuple #[.int .i64 1,.int .i64 0])):=fun W a0 a1 c0 c1 hW r0 r1=>by
   have:=signW_ok c0 c1 hp0 hp100 hp2 r0 r1 hul hus gu (L.below hW)
   rw [hsu] at this
   exact this
  have HOf:Hid (∀ W (s:Nat),Below w.heap.size w W→s < 100→Gives Tryz.prog 35 #[.int .i64 s,.int .i64 24] W (.tuple #[.agg #[.string (itx (wkQ s).num),.string (dec (wkQ s).den)],.int .i64 0])):=fun W s hW hs=>ofW_ok W s hs (L.below hW)
  have HSc:Hid (∀ W a0 a1 c0 c1 (s:Nat),Below w.heap.size w W→s < 100→Rd W a0 (ints ps)→Rd W a1 (cellsQ u)→Calls Tryz.prog 36 #[.slice a0 ps.length c0,.slice a1 ps.length c1,.agg #[.string (itx (wkQ s).num),.string (dec (wkQ s).den)]] W fun e w'=>∃ a c,e = .returned (.tuple #[.slice a ps.length c,.int .i64 0])∧OwnQ w' W.heap.size a c (wmQ u (wkQ s))∧Below W.heap.size W w'):=fun W a0 a1 c0 c1 s hW hs r0 r1 =>
   scaleW_ok c0 c1 (wkQ s) hp0 hp100 hp2 r0 r1 hul hus (wkQ_sm hs) (L.below hW)
  obtain ⟨t,ht⟩:∃ t,stB l=t:=⟨_,rfl⟩
  have htl:t.length=l.length:=by rw [← ht]; exact List.length_map ..
  have ht6:∀ x∈t,x < 6:=by
   intro x hx
   rw [← ht] at hx
   obtain ⟨y,_,rfl⟩:=List.mem_map.1 hx
   exact Nat.mod_lt _ (by decide)
  have O:=wuD_ok hp0 hp2 hq1 hq2 hp100 hul hum hsu ht6 (by omega) (by omega)
  have K:=wuD_keys (t:=t) hq1 hsu ht6
  obtain ⟨T,hT⟩:∃ T:Nat→Nat,∀ i,t.getD i 0=T i:=⟨_,fun _=>rfl⟩
  have eT:(fun i=>t.getD i 0)=T:=funext hT
  have HW:Hid (∀ W a0 b c0 d,Below w.heap.size w W→SclAt W ps a0 b (wuD u t)→Calls Tryz.prog 38 #[.agg #[.slice a0 ps.length c0,.slice b t.length d]] W fun e w'=>e = .returned (.tuple #[.string ⟨(wofB T t.length).toArray⟩,.int .i64 0])∧Below W.heap.size W w'):=fun W a0 b c0 d hW A=>by
   have:=wordOf_ok W ps 2880 288 (wuD u t) a0 b c0 d _ O A K (L.below hW)
   rw [wuD_length,eT] at this
   exact this
  have Hn:=hd_ (fun k (hk:k≤t.length)=>psL_wu (t:=t) hul k hk)
  have Hs:=hd_ (fun k=>wsum_le ht6 k)
  have HT6:Hid (∀ i,T i < 6):=fun k=>by
   rw [← hT,List.getD_eq_getElem?_getD]
   cases e:t[k]? with
   | none=>decide
   | some x=>exact ht6 x (List.mem_of_getElem? e)
  have Hul:=hd_ hul
  have Hws:Hid (∀ k,wsum t (k + 1)=wsum t k + (1 + T k)):=fun k=>by rw [wsum,hT]
  obtain ⟨bl,ol,rfl,hbl,hcl⟩:=hr.resolve_left (fun e=>by rw [e] at h0; simp at h0)
  have HCl:Hid (∀ i,i < l.length→∃ x:Nat,w.cell? ⟨bl,ol + i,none⟩=some (.int .u8 (x:Nat))∧x < 256∧x % 6=T i):=fun i h=>⟨l[i].toNat,hcl i h,UInt8.toNat_lt _,by
   rw [← hT,← ht,List.getD_eq_getElem?_getD,stB,List.getElem?_map,List.getElem?_eq_getElem h]
   rfl⟩
  clear hcl hr O K gu hum hus hul hsu hz ga ma sa la1 hq1 hq2 hp0 hp1 hp2 hp4 hnu hde hpn ht6 ht eT hT
  rw [htl] at HW Hn
  have Htm:=hd_ htl
  clear htl
  generalize l.length=m at *
  have hz':((m:Int) == 0)=false:=by rw [beq_eq_false_iff_ne]; omega
  have h8':decide ((8:Int) < m)=false:=decide_eq_false (by omega)
  unfold partsV
  have B0:=hd_ ((Below.refl w.heap.size w).alloc nr_ (.cells #[.int .i8 (nu 0),.int .u8 (de 0),.int .i8 (nu 1),.int .u8 (de 1),.int .i8 (nu 2),.int .u8 (de 2),.int .i8 (nu 3),.int .u8 (de 3)] 61))
  have C0:=hd_ (heap_at w #[.int .i8 (nu 0),.int .u8 (de 0),.int .i8 (nu 1),.int .u8 (de 1),.int .i8 (nu 2),.int .u8 (de 2),.int .i8 (nu 3),.int .u8 (de 3)] 61 _ rfl)
  go_enter Tryz.func5,Tryz.ntmps5
  go_wp2_with fail
  generalize w.alloc (.cells #[.int .i8 (nu 0),.int .u8 (de 0),.int .i8 (nu 1),.int .u8 (de 1),.int .i8 (nu 2),.int .u8 (de 2),.int .i8 (nu 3),.int .u8 (de 3)] 61)=w0 at *
  refine cm_ (HK.out _) ?_
  rintro e_ w1 ⟨rfl,hb_⟩
  have B1:=hd_ (B0.out.trans (hb_.mono B0.out.size))
  have C1:=hd_ (heap_kept C0.out hb_ nr_)
  clear hb_ B0 C0
  go_wp2_with fail
  refine cm_ (HPr.out _) ?_
  rintro e_ w2 ⟨gp,rfl,hr_,hb_⟩
  have B2:=hd_ (B1.out.trans (hb_.mono B1.out.size))
  have C2:=hd_ (heap_kept C1.out hb_ nr_)
  have Rp:=hd_ hr_
  have m0:w2.cell? ⟨w.heap.size,0,none⟩=some (.int .i8 (nu 0)):=by rw [cell_of_row _ _ _ _ _ _ C2.out]; rfl
  have m1:w2.cell? ⟨w.heap.size,1,none⟩=some (.int .u8 (de 0)):=by rw [cell_of_row _ _ _ _ _ _ C2.out]; rfl
  have m2:w2.cell? ⟨w.heap.size,2,none⟩=some (.int .i8 (nu 1)):=by rw [cell_of_row _ _ _ _ _ _ C2.out]; rfl
  have m3:w2.cell? ⟨w.heap.size,3,none⟩=some (.int .u8 (de 1)):=by rw [cell_of_row _ _ _ _ _ _ C2.out]; rfl
  have m4:w2.cell? ⟨w.heap.size,4,none⟩=some (.int .i8 (nu 2)):=by rw [cell_of_row _ _ _ _ _ _ C2.out]; rfl
  have m5:w2.cell? ⟨w.heap.size,5,none⟩=some (.int .u8 (de 2)):=by rw [cell_of_row _ _ _ _ _ _ C2.out]; rfl
  have m6:w2.cell? ⟨w.heap.size,6,none⟩=some (.int .i8 (nu 3)):=by rw [cell_of_row _ _ _ _ _ _ C2.out]; rfl
  have m7:w2.cell? ⟨w.heap.size,7,none⟩=some (.int .u8 (de 3)):=by rw [cell_of_row _ _ _ _ _ _ C2.out]; rfl
  clear hb_ hr_ B1 C1 HPr
  go_wp2_with fail
  clear m0 m1 m2 m3 m4 m5 m6 m7 C2
  refine cm_ (HM.out _ _ _ B2.out) ?_
  rintro e_ w3 ⟨ax,cx,rfl,hr_,hb_⟩
  have B3:=hd_ (B2.out.trans (hb_.mono B2.out.size))
  replace Rp:=hd_ (Rp.out.below hb_ nr_)
  have Rx:=hd_ hr_
  clear hb_ hr_ B2 HM
  go_wp2_with fail
  refine cm_ (HAb.out _ _ _ _ _ B3.out Rp.out Rx.out) ?_
  rintro e_ w4 ⟨au,cu,rfl,hr_,hb_⟩
  have B4:=hd_ (B3.out.trans (hb_.mono B3.out.size))
  replace Rp:=hd_ (Rp.out.below hb_ nr_)
  have Ru:=hd_ hr_
  clear hb_ hr_ B3 HAb Rx
  go_wp2_with fail
  refine cm_ (HSg.out _ _ _ _ _ B4.out Rp.out Ru.out) ?_
  rintro e_ w5 ⟨rfl,hb_⟩
  have B5:=hd_ (B4.out.trans (hb_.mono B4.out.size))
  replace Rp:=hd_ (Rp.out.below hb_ nr_)
  replace Ru:=hd_ (Ru.out.below hb_ nr_)
  clear hb_ B4 HSg HK
  go_wp2_with fail
  have hn100:ps.length≤100:=hp100
  generalize hE:w5.heap.size=E at *
  have X0:Hid (Box2 (w5.alloc (.cells #[.slice (some ⟨gp,0,none⟩) ps.length ps.length,.slice none 0 0] 70)) E (.slice (some ⟨gp,0,none⟩) ps.length ps.length) (.slice none 0 0)):=Box2.of (heap_at _ _ _ _ hE)
  have D0:Hid (Below E w5 (w5.alloc (.cells #[.slice (some ⟨gp,0,none⟩) ps.length ps.length,.slice none 0 0] 70))):=(Below.refl _ _).alloc (by omega) _
  have hsz0:E < (w5.alloc (.cells #[.slice (some ⟨gp,0,none⟩) ps.length ps.length,.slice none 0 0] 70)).heap.size:=by simp; omega
  generalize w5.alloc (.cells #[.slice (some ⟨gp,0,none⟩) ps.length ps.length,.slice none 0 0] 70)=w6 at *
  go_loopw [13,14,15] (fun s z i wr=>∃ (k:Nat) (bo:Option Addr) (d:Nat) (LL:List (Option Addr×Nat)),k≤m∧s = .int .i64 (wsum t k:Nat)∧z = .string (wantB T m k)∧i = .int .i64 k∧Hid (LL.length=k)∧Hid (Box2 wr E (.slice (some ⟨gp,0,none⟩) ps.length ps.length) (.slice bo LL.length d)) ∧
   Hid (OwnL wr (E + 1) bo d ps.length LL ((List.range k).map fun i=>wmQ u (wkQ (wsum t (i + 1)))))∧Hid (Below E w5 wr)∧E < wr.heap.size) (fun _ _ i _=>m - (intOf i).toNat)
  case atStart=>exact ⟨0,none,0,[],Nat.zero_le _,rfl,rfl,rfl,rfl,X0,⟨by simp,World.ownsRow_nil ..,fun i h=>absurd h (Nat.not_lt_zero _),fun x hx=>by simp at hx⟩,D0,hsz0⟩
  case round =>
   clear X0 D0 hsz0
   obtain ⟨k,bo,d,LL,hk,rfl,rfl,rfl,HL,HX,HO,HB,hsz⟩:=hrel
   have Bw:=hd_ (B5.out.trans (HB.out.mono (by rw [← hE]; exact B5.out.size)))
   by_cases hlt:k < m
   ·have hlt':(k:Int) < m:=by omega
    obtain ⟨x,kx,hx256,hx6⟩:=HCl.out k hlt
    have kx':=(Bw.out.cell (p:=⟨bl,ol + k,none⟩) hbl).trans kx
    have htm:Int.tmod (x:Int) 6=(T k:Nat):=by rw [← hx6,Int.tmod_eq_emod_of_nonneg (by omega)]; omega
    have hs0:=Hs.out k
    have hsk:=Hws.out k
    have h6:=HT6.out k
    have hs1:=Hs.out (k + 1)
    obtain ⟨sk,hske⟩:∃ sk,wsum t k=sk:=⟨_,rfl⟩
    obtain ⟨sk1,hsk1e⟩:∃ sk1,wsum t (k + 1)=sk1:=⟨_,rfl⟩
    obtain ⟨tk,htke⟩:∃ tk,T k=tk:=⟨_,rfl⟩
    rw [hske] at hs0 hsk ⊢
    rw [hsk1e] at hsk hs1
    rw [htke] at hsk h6 htm hx6
    have HOf1:=HOf.out
    have hsk100:sk1 < 100:=by omega
    have HSc1:=hd_ (fun W a0 a1 c0 c1 h1=>HSc.out W a0 a1 c0 c1 sk1 h1 hsk100)
    go_wp2_with fail
    rw [show (sk:Int) + (1 + (tk:Int))=((sk1:Nat):Int) by omega]
    refine cm_ (HOf1 wr sk1 Bw.out (by omega)) ?_
    rintro e_ w7 ⟨rfl,hb_⟩
    have Q7:=hd_ hb_
    clear hb_ HOf1
    generalize hq:wkQ sk1=q at *
    go_wp2_with fail
    have hP8:((w7.alloc (.cells #[.string (itx q.num),.string (dec q.den)] 42)).heap[w7.heap.size]?=some (.cells #[.string (itx q.num),.string (dec q.den)] 42 (0,0))):=heap_at _ _ _ _ rfl
    have Q8:Hid (Below wr.heap.size wr (w7.alloc (.cells #[.string (itx q.num),.string (dec q.den)] 42))):=Q7.out.alloc Q7.out.size _
    have hBs:=HB.out.size
    refine cm_ (HSc1.out _ _ _ _ _ (Bw.out.trans (Q8.out.mono Bw.out.size)) (Rp.out.below (HB.out.trans (Q8.out.mono (Nat.le_of_lt hsz))) (by omega)) (Ru.out.below (HB.out.trans (Q8.out.mono (Nat.le_of_lt hsz))) (by omega))) ?_
    rintro e_ w9 ⟨an,cn,rfl,ho_,hb_⟩
    have B9:Hid (Below wr.heap.size wr w9):=Q8.out.trans (hb_.mono Q8.out.size)
    have O9:=hd_ (HO.out.below B9.out)
    have X9:=hd_ (HX.out.kept (B9.out.block E hsz))
    have HQ:Hid (OwnQ w9 (E + 1) an cn (wmQ u q)):=OwnQ.lowerD ho_ (by have:=Q8.out.size; omega)
    have Hqu:Hid ((wmQ u q).length=ps.length):=(wmQ_length u q).trans Hul.out
    have hsz9:E + 1≤w9.heap.size:=by have:=B9.out.size; omega
    have kk:=X9.out.c1
    have hLL:LL.length≤8:=by have:=HL.out; omega
    clear ho_ hb_ HSc1 Q8 Q7 hP8 HO HX
    go_wp2_with (at_builtin; refine wpList_append_new rfl (.tmp 103) (.tmp 105) 68 rfl elSz _ 1 [.slice an ps.length cn] rfl rfl O9.out.row hsz9 rfl ?c1 (by omega) (by omega) ?_)
    case c1=>first | rfl | (intro u hu; obtain rfl:=List.mem_singleton.1 hu; rfl)
    intro v' w10 hown hg hnl
    obtain ⟨b',d',rfl,OW⟩:=OwnL.put O9.out HQ.out Hqu.out hown hg
    have B10:Hid (Below (E + 1) w9 w10):=((Below.refl _ w9).alloc hsz9 _).grown hg (by simp; omega) (fun k hk=>(O9.out.row.lt k hk).1)
    have X10:=hd_ (X9.out.kept (B10.out.block E (by omega)))
    have hs10:=B10.out.size
    have Hl8:Hid ((LL ++ [(an,cn)]).length=k + 1):=by show (LL ++ [(an,cn)]).length=_; rw [List.length_append,HL.out]; rfl
    have OW10:Hid (OwnL w10 (E + 1) b' d' ps.length (LL ++ [(an,cn)]) ((List.range (k + 1)).map fun i=>wmQ u (wkQ (wsum t (i + 1))))):=by
     rw [List.range_succ,List.map_append,List.map_singleton,hsk1e,hq]
     exact OW
    have e8:LL.length + 1=(LL ++ [(an,cn)]).length:=by simp
    have hsB:=B9.out.size
    clear hown hg OW hnl O9 X9 HQ
    generalize (LL ++ [(an,cn)])=LM at *
    rw [e8]
    have X11:=hd_ (X10.out.set (.slice b' LM.length d'))
    have O11:=hd_ (OW10.out.keptE (grownBy_set1 w10 E (.slice b' LM.length d')) (Nat.lt_succ_self E))
    have B11:Hid (Below E w5 (w10.setCell ⟨E,1,none⟩ (.slice b' LM.length d'))):=((HB.out.trans (B9.out.mono (Nat.le_of_lt hsz))).trans (B10.out.mono (Nat.le_succ E))).setCell (p:=⟨E,1,none⟩) nr_ _
    have hs11:E < (w10.setCell ⟨E,1,none⟩ (.slice b' LM.length d')).heap.size:=by rw [World.size_setCell]; omega
    have hmk:=run_make_row' (P:=Tryz.prog) 74 4 (.bool false) 1 Tryz.underlying74 infoBo rfl .i64 .i64 6 (by omega) (by omega) (w10.setCell ⟨E,1,none⟩ (.slice b' LM.length d'))
    rw [show (((6:Nat)):Int)=6 from rfl] at hmk
    have k1:=X10.out.c1
    have f1:=X10.out.f1
    clear e8
    go_wp2_with fail
    clear hmk k1 f1 kk kx' kx
    clear B10 B9 X10 OW10 HB
    have hG11:(w10.setCell ⟨E,1,none⟩ (.slice b' LM.length d')).heap.size=w10.heap.size:=by rw [World.size_setCell]
    generalize w10.setCell ⟨E,1,none⟩ (.slice b' LM.length d')=w11 at *
    generalize w10.heap.size=G at *
    have Hrow0:Hid ((w11.alloc (.cells (madeCells #[.bool false] 6) 4)).rowIs G 4 6 fun v => .bool (grB T tk 0 v)) :=
by
     have h:=(World.rowIs_made w11 (.bool false) 6 4).congr (g:=fun v => .bool (grB T tk 0 v)) fun v _=>by simp [grB]
     rw [hG11] at h
     exact h
    have W0:Hid (Below G w11 (w11.alloc (.cells (madeCells #[.bool false] 6) 4))):=(Below.refl _ _).alloc (by omega) _
    have Bw11:=hd_ (B5.out.trans (B11.out.mono (by rw [← hE]; exact B5.out.size)))
    have hwG:w.heap.size≤G:=by have:=Bw11.out.size; omega
    generalize w11.alloc (.cells (madeCells #[.bool false] 6) 4)=w12 at *
    go_loopw [21] (fun z wr=>∃ j:Nat,j≤m∧z = .int .i64 j∧Hid (wr.rowIs G 4 6 fun v => .bool (grB T tk j v))∧Hid (Below G w11 wr)) (fun z _=>m - (intOf z).toNat)
    case atStart=>exact ⟨0,Nat.zero_le _,rfl,Hrow0,W0⟩
    case round =>
     clear Hrow0 W0
     obtain ⟨j,hj,rfl,HR,HW1⟩:=hrel
     by_cases hjm:j < m
     ·have hjm':(j:Int) < m:=by omega
      obtain ⟨y,ky,hy256,hy6⟩:=HCl.out j hjm
      obtain ⟨x2,kx2,hx2,hx26⟩:=HCl.out k hlt
      have Bwr:=Bw11.out.trans (HW1.out.mono hwG)
      have ky':=(Bwr.cell (p:=⟨bl,ol + j,none⟩) hbl).trans ky
      have kx2':=(Bwr.cell (p:=⟨bl,ol + k,none⟩) hbl).trans kx2
      have hty:Int.tmod (y:Int) 6=(T j:Nat):=by rw [← hy6,Int.tmod_eq_emod_of_nonneg (by omega)]; omega
      have htx:Int.tmod (x2:Int) 6=(tk:Nat):=by rw [← htke,← hx26,Int.tmod_eq_emod_of_nonneg (by omega)]; omega
      have hj6:=HT6.out j
      have hsucc:=hd_ (fun v=>grB_succ T tk j v)
      obtain ⟨tj,htj⟩:∃ tj,T j=tj:=⟨_,rfl⟩
      rw [htj] at hty hj6 hsucc
      have kyy:=hd_ ky
      clear Bwr ky kx2 hy6 hx26
      have hj6':(tj:Int) < 6:=by omega
      have HRd:Hid (∀ nq,(wr.drewN nq).rowIs G 4 6 fun v => .bool (grB T tk j v)):=fun nq=>by
       have hr:=HR.out
       unfold World.rowIs at hr ⊢
       obtain ⟨c,g1,g2,g3⟩:=hr
       exact ⟨c,((below_dn (Below.refl wr.heap.size wr) nq).block _ (Array.getElem?_eq_some_iff.1 g1).1).trans g1,g2,g3⟩
      have HWd:Hid (∀ nq,Below G w11 (wr.drewN nq)):=fun nq=>below_dn HW1.out nq
      clear HR HW1
      by_cases hgt:tk < tj
      ·have hgt':(tk:Int) < tj:=by omega
       go_wp2_with fail
       go_quiet (fail)
       have HR:=hd_ (HRd.out nq)
       have HW1:=hd_ (HWd.out nq)
       clear HRd HWd ky' kx2'
       generalize wr.drewN nq=wq at *
       have ky':=((Bw11.out.trans (HW1.out.mono hwG)).cell (p:=⟨bl,ol + j,none⟩) hbl).trans kyy.out
       have kr:=HR.out.cell hj6
       have fr':=HR.out.frozen tj
       have HR2:Hid ((wq.setCell ⟨G,tj,none⟩ (.bool true)).rowIs G 4 6 fun v => .bool (grB T tk (j + 1) v)) :=
        (HR.out.set tj (.bool true)).congr fun v _=>by
         rw [hsucc.out]
         by_cases h:v=tj
         ·rw [if_pos h,if_pos ⟨h,hgt⟩]
         ·rw [if_neg h,if_neg (fun h2=>h h2.1)]
       have HW2:Hid (Below G w11 (wq.setCell ⟨G,tj,none⟩ (.bool true))):=HW1.out.setCell (p:=⟨G,tj,none⟩) nr_ _
       clear HR HW1
       go_wp2_with fail
       go_roundw
       case rel=>exact ⟨j + 1,by omega,by go_num,HR2,HW2⟩
       case measure=>simp [intOf]; omega
      ·have hgt':¬ (tk:Int) < tj:=by omega
       go_wp2_with fail
       go_quiet (fail)
       have HR:Hid ((wr.drewN nq).rowIs G 4 6 fun v => .bool (grB T tk (j + 1) v)):=(HRd.out nq).congr fun v _=>by
        rw [hsucc.out,if_neg (fun h2=>hgt h2.2)]
       have HW1:=hd_ (HWd.out nq)
       clear HRd HWd ky' kx2'
       generalize wr.drewN nq=wq at *
       go_wp2_with fail
       go_roundw
       case rel=>exact ⟨j + 1,by omega,by go_num,HR,HW1⟩
       case measure=>simp [intOf]; omega
     ·have hjm':¬ (j:Int) < m:=by omega
      have hjm2:j=m:=by omega
      have HRm:Hid (wr.rowIs G 4 6 fun v => .bool (grB T tk m v)):=by rw [hjm2] at HR; exact HR
      clear HR hjm
      go_wp2_with fail
      go_loopw [22,23] (fun c z wz=>∃ v:Nat,v≤6∧c = .int .i64 ((List.range v).countP (grB T tk m):Nat)∧z = .int .i64 v∧Hid (wz.rowIs G 4 6 fun v => .bool (grB T tk m v))∧Hid (Below G w11 wz)) (fun _ z _=>6 - (intOf z).toNat)
      case atStart=>exact ⟨0,by decide,rfl,rfl,HRm,HW1⟩
      case round =>
       clear HRm HW1
       obtain ⟨v,hv,rfl,rfl,HRm,HW1⟩:=hrel
       by_cases hv6:v < 6
       ·have hv6':(v:Int) < 6:=by omega
        have kr:=HRm.out.cell hv6
        have hcp:(List.range (v + 1)).countP (grB T tk m)=(List.range v).countP (grB T tk m) + if grB T tk m v=true then 1 else 0:=by
         rw [List.range_succ,List.countP_append,List.countP_singleton]
        have hcl:=List.countP_le_length (p:=grB T tk m) (l:=List.range v)
        rw [List.length_range] at hcl
        generalize (List.range v).countP (grB T tk m)=cc at *
        cases hb:grB T tk m v with
        | true =>
         rw [hb] at kr hcp
         rw [if_pos rfl] at hcp
         go_wp2_with fail
         go_roundw
         case rel=>exact ⟨v + 1,by omega,by rw [hcp,Int.natCast_add]; rfl,by go_num,HRm,HW1⟩
         case measure=>simp [intOf]; omega
        | false =>
         rw [hb] at kr hcp
         rw [if_neg (by decide),Nat.add_zero] at hcp
         go_wp2_with fail
         go_roundw
         case rel=>exact ⟨v + 1,by omega,by rw [hcp]; rfl,by go_num,HRm,HW1⟩
         case measure=>simp [intOf]; omega
       ·have hv6':¬ (v:Int) < 6:=by omega
        obtain rfl:v=6:=by omega
        have hcc:=grB_all (T:=T) (m:=m) (x:=tk) HT6.out
        rw [hcc]
        have hg25:=gtN_le T m tk
        have Hlet:=hd_ (fun W=>letter_any (gtN T m tk:Nat) W (by omega) (by omega))
        rw [Int.toNat_natCast] at Hlet
        have hwant:=wantB_succ T m k
        rw [htke] at hwant
        have hwsz:¬ 9223372036854775807 < (wantB T m k).size + (ltr (gtN T m tk)).size:=by
         have e1:(wantB T m k).size=k:=by simp [wantB,ByteArray.size]
         have e2:(ltr (gtN T m tk)).size=1:=by simp [ltr,bs,ByteArray.size]
         omega
        go_wp2_with fail
        refine cm_ (Hlet.out _) ?_
        rintro e_ w13 ⟨rfl,hb_⟩
        have B13:Hid (Below G w11 w13):=HW1.out.trans (hb_.mono (by have:=HW1.out.size; omega))
        have O13:=hd_ (O11.out.below (B13.out.mono (Nat.le_of_eq hG11)))
        have X13:=hd_ (X11.out.kept (B13.out.block E (by omega)))
        have Bf:Hid (Below E w5 w13):=B11.out.trans (B13.out.mono (by omega))
        have hsf:E < w13.heap.size:=by have:=B13.out.size; omega
        clear hb_ HW1 HRm O11 X11 B11
        go_wp2_with fail
        go_roundw
        case rel=>exact ⟨k + 1,b',d',LM,by omega,by rw [hsk1e]; congr 1; omega,by rw [← hwant],by go_num,Hl8,X13,O13,Bf,hsf⟩
        case measure=>simp [intOf]; omega
   ·have hlt':¬ (k:Int) < m:=by omega
    have hkm:k=m:=by omega
    have A:Hid (SclAt wr ps (some ⟨gp,0,none⟩) bo (wuD u t)):=by
     refine ⟨Rp.out.below HB.out (by omega),?_⟩
     obtain ⟨bs,os,h1,h2,h3⟩:=rdl_cells HO.out.rdl HO.out.lens (by simp; omega)
     refine ⟨bs,os,h1,h2,fun i hi=>?_⟩
     rw [wuD_length,Htm.out] at hi
     obtain ⟨a',c',h4,h5⟩:=h3 i (by simp; omega)
     refine ⟨a',c',h4,?_⟩
     rw [Hn.out (i + 1) (by omega)]
     rw [List.getD_eq_getElem?_getD,List.getElem?_map,List.getElem?_range (by omega)] at h5
     exact h5
    have HW1:=hd_ (HW.out wr _ bo ps.length d Bw.out A.out)
    have hfin:wantB T m m=⟨(wofB T m).toArray⟩:=rfl
    have k0:=HX.out.c0
    have k1:=HX.out.c1
    rw [HL.out,hkm] at k1
    rw [hkm,hfin]
    generalize (⟨(wofB T m).toArray⟩:ByteArray)=S at *
    have hSS:(S.toList == S.toList)=true:=by simp
    clear A HX HO HL hfin
    go_wp2_with fail
    refine cm_ HW1.out ?_
    rintro e_ w7 ⟨rfl,hb_⟩
    have B7:=hd_ (Bw.out.trans (hb_.mono Bw.out.size))
    clear hb_ HW1
    go_wp2_with fail
    go_ret
    exact ⟨rfl,B7.out⟩
theorem lawWof_none (w:World) (xs:Array Value) (y:Value) (al:Option Addr) (cl n:Nat) (h:n=0∨8 < n) :
  Gives Tryz.prog 5 #[.agg xs,y,.slice al n cl] w (.bool true):=by
 unfold Gives
 have HK:Hid (∀ W,Gives Tryz.prog 30 #[] W (.bool true)):=fun W=>known_any W
 have B0:=hd_ ((Below.refl w.heap.size w).alloc nr_ (.cells xs 61))
 by_cases h0:n=0
 ·subst h0
  clear h
  go_enter Tryz.func5,Tryz.ntmps5
  go_wp2_with fail
  refine cm_ (HK.out _) ?_
  rintro e_ w1 ⟨rfl,hb_⟩
  have B1:=hd_ (B0.out.trans (hb_.mono B0.out.size))
  clear hb_ B0
  go_wp2_with fail
  refine cm_ (HK.out _) ?_
  rintro e_ w2 ⟨rfl,hb_⟩
  have B2:=hd_ (B1.out.trans (hb_.mono B1.out.size))
  clear hb_ B1
  go_wp2_with fail
  go_ret
  exact ⟨rfl,B2.out⟩
 ·have h8:(8:Int) < n:=by omega
  have hz':((n:Int) == 0)=false:=by rw [beq_eq_false_iff_ne]; omega
  clear h h0
  go_enter Tryz.func5,Tryz.ntmps5
  go_wp2_with fail
  refine cm_ (HK.out _) ?_
  rintro e_ w1 ⟨rfl,hb_⟩
  have B1:=hd_ (B0.out.trans (hb_.mono B0.out.size))
  clear hb_ B0
  go_wp2_with fail
  refine cm_ (HK.out _) ?_
  rintro e_ w2 ⟨rfl,hb_⟩
  have B2:=hd_ (B1.out.trans (hb_.mono B1.out.size))
  clear hb_ B1
  go_wp2_with fail
  go_ret
  exact ⟨rfl,B2.out⟩
theorem lawWof (w:World) (pn:Nat) (nu:Nat→Int) (de:Nat→Nat) (al:Option Addr) (cl:Nat) (l:List UInt8) (hpn:pn < 256) (hnu:∀ k,-128≤nu k∧nu k≤127) (hde:∀ k,de k < 256) (hr:ReadsBytes w al l) (L:Laid w) :
  Gives Tryz.prog 5 #[.agg (partsV nu de),.int .u8 pn,.slice al l.length cl] w (.bool true):=by
 by_cases h:l.length=0∨8 < l.length
 ·exact lawWof_none w _ _ al cl _ h
 ·exact lawWof_main w pn nu de al cl l hpn hnu hde hr (by omega) (by omega) L
end Go.Proofs.YtnjedhgcfeoemaaGreatDoor

namespace Go.Proofs.YtnjedhgcfeoemaaGreatDoor
open Go.ChangeShapes Go.WideShapes Go.ChangeAt Go.RowKit
theorem wordOf_lifted (os:Os) (started:os.Started) (H:Type) (enc:TypeId×Value→H) :
  ReturnsInHanded {} Tryz.checked os 5 .any (fun w args=>(Rows.wordOfSpec.pre enc Tryz.prog Tryz.f5 [] false w args∧laidMetH Tryz.prog laidL w)∧sizedMet enc Tryz.prog Tryz.f5 (OpenSpec.ofChange Rows.wordOfSpec) false w args)
   (Rows.wordOfSpec.post enc Tryz.prog Tryz.f5 false true false false):=by
 refine returnsInHanded_of_change_and (C:=Tryz.checked) (X:=fun w _=>laidMetH Tryz.prog laidL w) (fun _ _ _ hh h=>h.of_heap hh) own started (by kernel_rfl) Tryz.func5
  (ChangeSpec.witness_shaped (enc:=enc) (C:=Tryz.checked) (os:=os) (X:=fun w _=>laidMetH Tryz.prog laidL w) false (World.doorLaid Tryz.prog 400 os) #[.agg #[.int .i8 0,.int .u8 0,.int .i8 0,.int .u8 0,.int .i8 0,.int .u8 0,.int .i8 0,.int .u8 0],.int .u8 0,.slice none 0 0] 8 rfl (World.shaped_of_RefB (by kernel_rfl) (by kernel_rfl)) (by kernel_rfl) (by kernel_rfl) (by kernel_rfl) (door_met os _)) ?_
 intro W base args ds gs before hval0 hW _ _ hL _
 have hval:∀ (j:Nat) t v,Tryz.f5.params[j]?=some t→args[j]?=some v→Value.okWide Tryz.prog W .any base t v:=hval0
 have hW':=hW
 obtain ⟨p,q,hA0,hV,rfl,hfz,hnd⟩:=hW
 have hA:DataW.TrodAll enc Tryz.prog W 0 (fun _=>true) true Tryz.f5.params.toList args.toList ds p:=hA0
 rw [Tryz.params5] at hA hval
 obtain ⟨v0,vs0,d0,ds0,p0,q0,hargs,rfl,rfl,h0,r0⟩:=trodAll_cons hA
 obtain ⟨v1,vs1,d1,ds1,p1,q1,rfl,rfl,rfl,h1,r1⟩:=trodAll_cons r0
 obtain ⟨v2,vs2,d2,ds2,p2,q2,rfl,rfl,rfl,h2,r2⟩:=trodAll_cons r1
 obtain ⟨rfl,rfl,rfl⟩:=trodAll_nil r2
 obtain rfl:args = #[v0,v1,v2]:=by cases args; simp_all
 obtain ⟨rfl,rfl⟩:=trodVars_none hV
 have k0:=h0
 have lt0:∀ x∈p0,x.block < W.heap.size:=by obtain ⟨m,hm⟩:=k0; exact DataW.trod_lt m _ _ _ hm
 have k1:=h1
 have lt1:∀ x∈p1,x.block < W.heap.size:=by obtain ⟨m,hm⟩:=k1; exact DataW.trod_lt m _ _ _ hm
 have k2:=h2
 have lt2:∀ x∈p2,x.block < W.heap.size:=by obtain ⟨m,hm⟩:=k2; exact DataW.trod_lt m _ _ _ hm
 obtain ⟨nA,dA,rfl,hnA,hdA⟩:=open_partsV (hval 0 61 v0 rfl rfl) h0
 obtain ⟨nn,rfl,rfl,rfl,wn⟩:=open_int Tryz.underlying5 (hval 1 5 v1 rfl rfl) h1
 have wn':=bounds_u8 wn
 obtain ⟨pn,rfl⟩:=Int.eq_ofNat_of_zero_le wn'.1
 obtain ⟨aS,nS,cS,rfl⟩:=okWide_slice Tryz.underlying62 (hval 2 62 v2 rfl rfl)
 obtain ⟨fuel2,hf2⟩:=h2
 obtain ⟨a2,c2,l2,hv2,hr2,-⟩:=open_bytesW (v := .slice aS nS cS) hf2
 obtain ⟨rfl,rfl,rfl⟩:aS=a2∧nS=l2.length∧cS=c2:=by simpa only [Value.slice.injEq] using hv2
 clear hA0 hval0
 refine (lawWof W pn nA dA aS cS l2 (by omega) hnA hdA hr2 (laid_of hL)).mono fun e W' ⟨he,bel⟩=>?_
 subst he
 exact ⟨_,rfl,_,_,_,[],_,[],hW',trodAll_mk1 (shut_bool Tryz.underlying4 _),(trodAll_cons_mk (Below.trod laidOut (by kernel_rfl) (of_decide_eq_true (by kernel_rfl)) k0 bel lt0) (trodAll_cons_mk (Below.trod laidOut (by kernel_rfl) (of_decide_eq_true (by kernel_rfl)) k1 bel lt1) (trodAll_cons_mk (Below.trod laidOut (by kernel_rfl) (of_decide_eq_true (by kernel_rfl)) k2 bel lt2) trodAll_mk0))),rfl,bel.frame _,fun h=>by cases h⟩
end Go.Proofs.YtnjedhgcfeoemaaGreatDoor

namespace Go.Proofs.YtnjedhgcfeoemaaGreatDoor
open Go.ChangeShapes Go.WideShapes Go.ChangeAt Go.RowKit
theorem wordOf_row:Rows.WordOfSaid :=
 OpenClaim.holds_of_wide 5 Tryz.f5 rfl rfl rfl rfl rfl rfl rfl ⟨rfl,rfl,rfl,rfl,rfl⟩ rfl rfl rfl rfl rfl (by as_aux_lemma=>kernel_rfl) Tryz.func5 (by
   unfold joinedFacts
   simp only [Bool.and_eq_true]
   repeat' (refine And.intro ?_ ?_)
   all_goals (as_aux_lemma=>kernel_rfl))
  (by as_aux_lemma=>exact of_decide_eq_true (by kernel_rfl)) (by unfold Func.isWrapper; first | (rw [if_pos (by decide +kernel)]; kernel_rfl) | (rw [if_neg (by decide +kernel)]; exact ⟨rfl,rfl⟩))
  (fun os started H enc _=>wordOf_lifted os started H enc)
end Go.Proofs.YtnjedhgcfeoemaaGreatDoor
