/- Lemmas for the laws of this seat, part 6. -/
import Derived.Test.YtnjedhgcfeoemaaGreatDoorCards
import Derived.Test.YtnjedhgcfeoemaaGreatDoorTie
import Derived.SevenTiedAt
import Derived.Test.YtnjedhgcfeoemaaGreatDoorWi5
set_option maxRecDepth 100000
set_option maxHeartbeats 16000000
namespace Go.Proofs.YtnjedhgcfeoemaaGreatDoor
open Go.RowKit
theorem lgN_bits{p n:Nat}(hp:p∈oddP)(hn:n≤1056):2^lgN p n≤p^(2^n)∧p^(2^n)<2^(lgN p n+1):=by
 have h:=lgN_at (.inr hp) hn
 exact⟨h.le,h.lt⟩
theorem num_pw{p k:Nat}(hp:p≤97)(hk:k≤4000):Num (p^k):=by
 show (dec (p^k)).size≤1000000
 obtain⟨D,hD⟩:∃ D:Nat,D=8001:=⟨_,rfl⟩
 refine Nat.le_trans ((size_lt (p^k) D (by omega)).2 ?_) (by omega)
 have h1:p^k≤(10^2)^k:=Nat.pow_le_pow_left (by omega) k
 rw[← Nat.pow_mul] at h1
 exact Nat.lt_of_le_of_lt h1 (Nat.pow_lt_pow_right (by decide) (by omega))
theorem low14_two(w:World)(n:Nat)(hn:n≤90)(L:Laid w):Gives Tryz.prog 49 #[.int .i64 2,.int .i64 n] w (.string (dec (lgN 2 n))):=by
 have h:=power2_dec w 2 n (by decide) (num_pw (by decide) (by omega)) (by omega) L
 rw[dec_two] at h
 rw[lgN_two]
 unfold Gives
 have H:=hd_ h
 clear h L hn
 generalize dec (2^n)=s at *
 go_enter Tryz.func49,Tryz.ntmps49
 go_wp2_with fail
 refine cm_ H.out ?_
 rintro e w1 ⟨rfl,hb⟩
 have B1:=hd_ hb
 clear hb H
 go_wp2_with fail
 go_ret
 exact⟨rfl,B1.out⟩
theorem low14_low(w:World)(p n:Nat)(hp:p∈oddP)(hn:n≤9)(L:Laid w):Gives Tryz.prog 49 #[.int .i64 p,.int .i64 n] w (.string (dec (lgN p n))):=by
 have h97:=oddP_odd hp
 obtain⟨b1,b2⟩:=lgN_bits hp (show n≤1056 by omega)
 have hlt:=lgN_le (.inr hp) (show n≤1056 by omega)
 have h2n:2^n≤512:=by
  have:2^n≤2^9:=Nat.pow_le_pow_right (by decide) hn
  simpa using this
 have hsh:(1:Int)*2^n=((2^n:Nat):Int):=by rw[Int.one_mul,Int.natCast_pow];rfl
 obtain⟨K,hK⟩:∃ K,2^n=K:=⟨_,rfl⟩
 obtain⟨T,hT⟩:∃ T,lgN (p:Int) n=T:=⟨_,rfl⟩
 rw[hK] at h2n b1 b2 hlt hsh
 rw[hT] at b1 b2 hlt ⊢
 unfold Gives
 have H1:=hd_ (fun W (hW:Below w.heap.size w W)=>of2_any W (p:Int) (by omega) (by omega) (L.below hW))
 have H2:=hd_ (fun W (hW:Below w.heap.size w W)=>power2_dec W p K (by omega) (num_pw (by omega) (by omega)) (by omega) (L.below hW))
 have H3:=hd_ (fun W (hW:Below w.heap.size w W)=>bits2_any W (p^K) T (num_pw (by omega) (by omega)) b1 b2 (by omega) (L.below hW))
 have H4:=hd_ (fun W (hW:Below w.heap.size w W)=>of2_any W (T:Int) (by omega) (by omega) (L.below hW))
 rw[itx_nat] at H1 H4
 have hp2:((p:Int)==2)=false:=by rw[beq_eq_false_iff_ne];omega
 have hn9:(n:Int)≤9:=by omega
 have ew1:IntKind.i64.wrap (K:Int)=(K:Int):=iw_ _ (by omega)
 have ew2:IntKind.i64.wrap (((T+1:Nat):Int)-1)=(T:Int):=by rw[show ((T+1:Nat):Int)-1=(T:Int) by omega];exact iw_ _ (by omega)
 have ew3:IntKind.i64.wrap ((T:Int)+1-1)=(T:Int):=by rw[show (T:Int)+1-1=(T:Int) by omega];exact iw_ _ (by omega)
 have ew4:wrap64 (T:Int)=(T:Int):=IntWalk.wrap64_in _ ⟨by clear ew1 ew2 ew3;omega,by clear ew1 ew2 ew3;omega⟩
 clear hp h97 b1 b2 hlt hT hK L
 generalize dec T=st at *
 generalize dec (p^K)=sk at *
 generalize dec p=sp at *
 go_enter Tryz.func49,Tryz.ntmps49
 have ht:Nonempty (NW w):=⟨⟨w,Below.refl _ _⟩⟩
 have I:Hid (Below w.heap.size w w.drew):=(Below.refl _ _).drew
 go_wp2_with fail
 refine RP.wp_region_readers 8 [(2,0),(2,2),(2,3),(0,1),(0,4),(0,5),(0,6),(0,7),(0,8)] (fun w'=>∃ p:NW w,w'=p.w) (by kernel_rfl) (by kernel_rfl) ?_ ?_
 ·exact⟨⟨_,I.out⟩,rfl⟩
 iterate 3 (refine RP.walkR_any ?_;simp only[dsc_,dz_,tsc_,tz_];go_big_quiet_step (fail);refine wpQuiet_nil ?_)
 clear ht
 refine RP.walkR_move ?_
 simp only[dsc_,dz_,tsc_,tz_]
 go_wp2_with fail
 refine cm_ (H1.out _ I.out) ?_
 rintro e_ x1 ⟨rfl,ha⟩
 have W_x1:Hid (Below w.heap.size w x1):=I.out.trans (ha.mono I.out.size)
 clear ha H1 I
 go_wp2_with fail
 refine⟨⟨⟨_,W_x1.out⟩,rfl⟩,?_⟩
 refine RP.walkR_move ?_
 simp only[dsc_,dz_,tsc_,tz_]
 go_wp2_with fail
 refine cm_ (H2.out _ W_x1.out) ?_
 rintro e_ x2 ⟨rfl,ha⟩
 have W_x2:Hid (Below w.heap.size w x2):=W_x1.out.trans (ha.mono W_x1.out.size)
 clear ha H2 W_x1
 go_wp2_with fail
 refine⟨⟨⟨_,W_x2.out⟩,rfl⟩,?_⟩
 refine RP.walkR_move ?_
 simp only[dsc_,dz_,tsc_,tz_]
 go_wp2_with fail
 refine cm_ (H3.out _ W_x2.out) ?_
 rintro e_ x3 ⟨rfl,ha⟩
 have W_x3:Hid (Below w.heap.size w x3):=W_x2.out.trans (ha.mono W_x2.out.size)
 clear ha H3 W_x2
 go_wp2_with fail
 refine⟨⟨⟨_,W_x3.out⟩,rfl⟩,?_⟩
 refine RP.walkR_move ?_
 simp only[dsc_,dz_,tsc_,tz_]
 go_wp2_with fail
 refine⟨⟨⟨_,W_x3.out⟩,rfl⟩,?_⟩
 refine RP.walkR_move ?_
 simp only[dsc_,dz_,tsc_,tz_]
 go_wp2_with fail
 refine cm_ (H4.out _ W_x3.out) ?_
 rintro e_ x4 ⟨rfl,ha⟩
 have W_x4:Hid (Below w.heap.size w x4):=W_x3.out.trans (ha.mono W_x3.out.size)
 clear ha H4 W_x3
 go_wp2_with fail
 refine⟨⟨⟨_,W_x4.out⟩,rfl⟩,?_⟩
 refine RP.walkR_move ?_
 simp only[dsc_,dz_,tsc_,tz_]
 go_wp2_with fail
 simp only[RP.walkR]
 go_wp2_with fail
 go_ret
 exact⟨rfl,W_x4.out⟩
theorem rq_zero_one:cellsQ pwB=[.string ⟨#[49]⟩,.string ⟨#[49]⟩,.string ⟨#[48]⟩,.string ⟨#[49]⟩]:=by
 obtain⟨z1,z2⟩:=zero_txt
 have o1:itx (1:Rat).num=⟨#[49]⟩:=by show itx 1=_;rw[show itx 1=dec 1 from itx_nat 1,dec_one]
 have o2:dec (1:Rat).den=⟨#[49]⟩:=dec_one
 show ([.string (itx (1:Rat).num),.string (dec (1:Rat).den),.string (itx (0:Rat).num),.string (dec (0:Rat).den)]:List Value)=_
 rw[z1,z2,o1,o2]
theorem rq_zero_pow(n:Nat):cellsQ (pwA n)=[.string ⟨#[48]⟩,.string ⟨#[49]⟩,.string (dec (2^n)),.string ⟨#[49]⟩]:=by
 obtain⟨z1,z2⟩:=zero_txt
 unfold pwA
 generalize 2^n=A
 show ([.string (itx (0:Rat).num),.string (dec (0:Rat).den),.string (itx (((A:Int)):Rat).num),.string (dec (((A:Int)):Rat).den)]:List Value)=_
 rw[z1,z2,Rat.num_intCast,Rat.den_intCast,itx_nat,dec_one]
theorem low14_big(w:World)(p n:Nat)(hp:p∈oddP)(h9:9<n)(hn:n≤90)(L:Laid w):Gives Tryz.prog 49 #[.int .i64 p,.int .i64 n] w (.string (dec (lgN p n))):=by
 have h97:=oddP_odd hp
 have hok:=floor_pow hp hn
 have hpc:=pcode_two hp
 obtain⟨sA,sB⟩:=pw_sm hn
 have hpr:∀ x∈[2,(p:Int)],2≤x∧x≤97:=fun x hx=>by
  simp only[List.mem_cons,List.not_mem_nil,or_false] at hx
  rcases hx with rfl|rfl<;>omega
 have hsz:∀ (W:World) (a0 a1:Option Addr) (l:List Rat),Rd W a0 (ints [2,(p:Int)])→Rd W a1 (cellsQ l)→l.length=2→(∀ q∈l,Sm 30 q)→SizeOk W [2,(p:Int)] a0 a1 l 30:=fun W a0 a1 l r0 r1 hl hs=>⟨r0,r1,hl,by simp,hpr,hs,by decide⟩
 have HF:=hd_ (fun (W:World) (hW:Below w.heap.size w W) (a0 a1 a2:Option Addr) (r0:Rd W a0 (ints [2,(p:Int)])) (r1:Rd W a1 (cellsQ (pwA n))) (r2:Rd W a2 (cellsQ pwB))=>by
  have A:=hsz W a0 a1 _ r0 r1 rfl sA
  have B:=hsz W a0 a2 _ r0 r2 rfl sB
  have h:=Floor_of W [2,(p:Int)] a0 a1 a2 2 2 2 _ _ A B hpc (L.below hW) (by rw[tlQ_oct];simp) ((lgN p n:Nat):Int) fun W' hW'=>floor_zp W' [2,(p:Int)] a0 a1 a2 2 2 2 30 91 _ _ _ (A.below hW') (B.below hW') (by decide) hok ((L.below hW).below hW')
  rw[itx_nat] at h
  exact(show Gives Tryz.prog 128 #[.slice a0 2 2,.slice a1 2 2,.slice a2 2 2] W (.tuple #[.string (dec (lgN p n)),.int .i64 0]) from h))
 rw[rq_zero_one,rq_zero_pow] at HF
 have HPw:=hd_ (fun W (hW:Below w.heap.size w W)=>power2_dec W 2 n (by decide) (num_pw (by decide) (by omega)) (by omega) (L.below hW))
 rw[dec_two] at HPw
 have N0:=hd_ (fun W (hW:Below w.heap.size w W)=>k_num W 0 1 0 (by decide +kernel) (by decide) (by decide) (by decide) (by decide) (L.below hW))
 have N1:=hd_ (fun W (hW:Below w.heap.size w W)=>k_num W 1 1 1 (by decide +kernel) (by decide) (by decide) (by decide) (by decide) (L.below hW))
 obtain⟨z1,z2⟩:=zero_txt
 have o1:itx (1:Rat).num=⟨#[49]⟩:=by show itx 1=_;rw[show itx 1=dec 1 from itx_nat 1,dec_one]
 have o2:dec (1:Rat).den=⟨#[49]⟩:=dec_one
 unfold fr fv at N0 N1
 rw[z1,z2] at N0
 rw[o1,o2] at N1
 have hp2:((p:Int)==2)=false:=by rw[beq_eq_false_iff_ne];omega
 have hn9:¬ (n:Int)≤9:=by omega
 clear hp h97 hok hsz sA sB hpc hpr z1 z2 o1 o2 L h9
 unfold Gives
 generalize dec (lgN p n)=st at *
 generalize dec (2^n)=sp at *
 go_enter Tryz.func49,Tryz.ntmps49
 go_wp2_with fail
 have B1:=hd_ ((Below.refl w.heap.size w).alloc nr_ (.cells #[.int .i64 2,.int .i64 p] 3))
 have F1:Hid ((w.alloc (.cells #[.int .i64 2,.int .i64 p] 3)).heap[w.heap.size]?=some (.cells #[.int .i64 2,.int .i64 p] 3 (0,0))):=heap_alloc_new w _
 generalize w.alloc (.cells #[.int .i64 2,.int .i64 p] 3)=w1 at *
 refine cm_ (HPw.out _ B1.out) ?_
 rintro e_ w2 ⟨rfl,ha⟩
 have B2:=hd_ (B1.out.trans (ha.mono B1.out.size))
 replace F1:=hd_ (heap_old (heap_kept F1.out ha nr_) (.cells #[.string sp,.string ⟨#[49]⟩] 42))
 have B3:=hd_ (B2.out.alloc B2.out.size (.cells #[.string sp,.string ⟨#[49]⟩] 42))
 have F2:Hid ((w2.alloc (.cells #[.string sp,.string ⟨#[49]⟩] 42)).heap[w2.heap.size]?=some (.cells #[.string sp,.string ⟨#[49]⟩] 42 (0,0))):=heap_alloc_new w2 _
 clear ha B1 B2 HPw
 go_wp2_with fail
 generalize w2.alloc (.cells #[.string sp,.string ⟨#[49]⟩] 42)=w3 at *
 generalize w2.heap.size=g2 at *
 obtain⟨k0,k1,-,-⟩:=two_cells F2.out
 have q0:=BW.cell k0
 have q1:=BW.cell k1
 have ht:Nonempty (BW w3):=⟨⟨w3,Below.refl _ _⟩⟩
 have I:Hid (Below w3.heap.size w3 w3.drew):=(Below.refl w3.heap.size w3).drew
 clear k0 k1 F2
 refine RP.wp_region_tree 12 (.rd 2 0 (.rd 1 2 (.mv 1 (.two 3 4 (.mv 4 (.mv 5 (.mv 6 (.mv 7 (.rd 2 8 (.rd 2 9 (.rd 2 10 (.mv 11 (.mv 12 .nil))))))))) (.two 3 5 (.mv 5 (.mv 6 (.mv 7 (.rd 2 8 (.rd 2 9 (.rd 2 10 (.mv 11 (.mv 12 .nil)))))))) (.two 3 6 (.mv 6 (.mv 7 (.rd 2 8 (.rd 2 9 (.rd 2 10 (.mv 11 (.mv 12 .nil))))))) (.mv 3 (.mv 7 (.rd 2 8 (.rd 2 9 (.rd 2 10 (.mv 11 (.mv 12 .nil))))))))))))) (fun w'=>∃ p:BW w3,w'=p.w) (by kernel_rfl) (by kernel_rfl) ?_ ?_
 ·exact⟨⟨_,I.out⟩,rfl⟩
 refine RP.walkT_any ?_
 simp only[dz_,tsc_,tz_]
 go_big_quiet_step (fail);refine wpQuiet_nil ?_
 refine RP.walkT_read ?_
 simp only[dsc_,dz_,tsc_,tz_]
 go_big_quiet_step (fail);refine wpQuiet_nil ?_
 clear q0 q1 ht
 refine RP.walkT_move ?_
 simp only[dsc_,dz_,tsc_,tz_]
 go_wp2_with fail
 refine cm_ (N0.out _ (B3.out.trans (I.out.mono B3.out.size))) ?_
 rintro e_ y1 ⟨rfl,ha⟩
 have W_y1:Hid (Below w3.heap.size w3 y1):=I.out.trans (ha.mono I.out.size)
 clear ha
 go_wp2_with fail
 refine⟨⟨⟨_,W_y1.out⟩,rfl⟩,?_⟩
 refine RP.walkT_two ?_ ?_
 ·simp only[dsc_,dz_,tsc_,tz_]
  go_wp2_with fail
  have W_y2:=hd_ (W_y1.out.alloc W_y1.out.size (.cells #[.string ⟨#[48]⟩,.string ⟨#[49]⟩,.string sp,.string ⟨#[49]⟩] 42))
  have X_y2:Hid ((y1.alloc (.cells #[.string ⟨#[48]⟩,.string ⟨#[49]⟩,.string sp,.string ⟨#[49]⟩] 42)).heap[y1.heap.size]?=some (.cells #[.string ⟨#[48]⟩,.string ⟨#[49]⟩,.string sp,.string ⟨#[49]⟩] 42 (0,0))):=heap_alloc_new y1 _
  refine⟨⟨⟨_,W_y2.out⟩,rfl⟩,?_⟩
  obtain⟨gX_y2,hgX_y2⟩:∃ g,g=y1.heap.size:=⟨_,rfl⟩
  rw[← hgX_y2] at X_y2 ⊢
  clear hgX_y2
  generalize y1.alloc (.cells #[.string ⟨#[48]⟩,.string ⟨#[49]⟩,.string sp,.string ⟨#[49]⟩] 42)=y2 at *
  refine RP.walkT_move ?_
  simp only[dsc_,dz_,tsc_,tz_]
  go_wp2_with fail
  refine cm_ (N1.out _ (B3.out.trans (W_y2.out.mono B3.out.size))) ?_
  rintro e_ y3 ⟨rfl,ha⟩
  have W_y3:Hid (Below w3.heap.size w3 y3):=W_y2.out.trans (ha.mono W_y2.out.size)
  have X_y3:=hd_ (heap_kept X_y2.out ha nr_)
  clear ha
  go_wp2_with fail
  refine⟨⟨⟨_,W_y3.out⟩,rfl⟩,?_⟩
  refine RP.walkT_move ?_
  simp only[dsc_,dz_,tsc_,tz_]
  go_wp2_with fail
  refine cm_ (N0.out _ (B3.out.trans (W_y3.out.mono B3.out.size))) ?_
  rintro e_ y4 ⟨rfl,ha⟩
  have W_y4:Hid (Below w3.heap.size w3 y4):=W_y3.out.trans (ha.mono W_y3.out.size)
  have X_y4:=hd_ (heap_kept X_y3.out ha nr_)
  clear ha
  go_wp2_with fail
  refine⟨⟨⟨_,W_y4.out⟩,rfl⟩,?_⟩
  refine RP.walkT_move ?_
  simp only[dsc_,dz_,tsc_,tz_]
  go_wp2_with fail
  have W_y5:=hd_ (W_y4.out.alloc W_y4.out.size (.cells #[.string ⟨#[49]⟩,.string ⟨#[49]⟩,.string ⟨#[48]⟩,.string ⟨#[49]⟩] 42))
  have Y_y5:Hid ((y4.alloc (.cells #[.string ⟨#[49]⟩,.string ⟨#[49]⟩,.string ⟨#[48]⟩,.string ⟨#[49]⟩] 42)).heap[y4.heap.size]?=some (.cells #[.string ⟨#[49]⟩,.string ⟨#[49]⟩,.string ⟨#[48]⟩,.string ⟨#[49]⟩] 42 (0,0))):=heap_alloc_new y4 _
  have X_y5:=hd_ (heap_old X_y4.out (.cells #[.string ⟨#[49]⟩,.string ⟨#[49]⟩,.string ⟨#[48]⟩,.string ⟨#[49]⟩] 42))
  refine⟨⟨⟨_,W_y5.out⟩,rfl⟩,?_⟩
  obtain⟨gY_y5,hgY_y5⟩:∃ g,g=y4.heap.size:=⟨_,rfl⟩
  rw[← hgY_y5] at Y_y5 ⊢
  clear hgY_y5
  generalize y4.alloc (.cells #[.string ⟨#[49]⟩,.string ⟨#[49]⟩,.string ⟨#[48]⟩,.string ⟨#[49]⟩] 42)=y5 at *
  refine RP.walkT_move ?_
  simp only[dsc_,dz_,tsc_,tz_]
  go_wp2_with fail
  refine cm_ (HF.out _ (B3.out.trans (W_y5.out.mono B3.out.size)) _ _ _ (rd_obj (heap_kept F1.out W_y5.out nr_)) (rd_obj X_y5.out) (rd_obj Y_y5.out)) ?_
  rintro e_ z1 ⟨rfl,ha⟩
  have W1:Hid (Below w3.heap.size w3 z1):=W_y5.out.trans (ha.mono W_y5.out.size)
  clear ha
  go_wp2_with fail
  refine⟨⟨⟨_,W1.out⟩,rfl⟩,?_⟩
  refine RP.walkT_any ?_
  simp only[dsc_,dz_,tsc_,tz_]
  go_big_quiet_step (fail);refine wpQuiet_nil ?_
  refine RP.walkT_any ?_
  simp only[dsc_,dz_,tsc_,tz_]
  go_big_quiet_step (fail);refine wpQuiet_nil ?_
  refine RP.walkT_any ?_
  simp only[dsc_,dz_,tsc_,tz_]
  go_big_quiet_step (fail);refine wpQuiet_nil ?_
  refine RP.walkT_move ?_
  simp only[dsc_,dz_,tsc_,tz_]
  go_wp2_with fail
  refine⟨⟨⟨_,W1.out⟩,rfl⟩,?_⟩
  refine RP.walkT_move ?_
  simp only[dsc_,dz_,tsc_,tz_]
  go_wp2_with fail
  simp only[RP.walkT]
  go_wp2_with fail
  go_ret
  exact⟨rfl,B3.out.trans (W1.out.mono B3.out.size)⟩
 ·simp only[dsc_,dz_,tsc_,tz_]
  go_wp2_with fail
  refine cm_ (N1.out _ (B3.out.trans (W_y1.out.mono B3.out.size))) ?_
  rintro e_ y6 ⟨rfl,ha⟩
  have W_y6:Hid (Below w3.heap.size w3 y6):=W_y1.out.trans (ha.mono W_y1.out.size)
  clear ha
  go_wp2_with fail
  refine⟨⟨⟨_,W_y6.out⟩,rfl⟩,?_⟩
  refine RP.walkT_two ?_ ?_
  ·simp only[dsc_,dz_,tsc_,tz_]
   go_wp2_with fail
   have W_y7:=hd_ (W_y6.out.alloc W_y6.out.size (.cells #[.string ⟨#[48]⟩,.string ⟨#[49]⟩,.string sp,.string ⟨#[49]⟩] 42))
   have X_y7:Hid ((y6.alloc (.cells #[.string ⟨#[48]⟩,.string ⟨#[49]⟩,.string sp,.string ⟨#[49]⟩] 42)).heap[y6.heap.size]?=some (.cells #[.string ⟨#[48]⟩,.string ⟨#[49]⟩,.string sp,.string ⟨#[49]⟩] 42 (0,0))):=heap_alloc_new y6 _
   refine⟨⟨⟨_,W_y7.out⟩,rfl⟩,?_⟩
   obtain⟨gX_y7,hgX_y7⟩:∃ g,g=y6.heap.size:=⟨_,rfl⟩
   rw[← hgX_y7] at X_y7 ⊢
   clear hgX_y7
   generalize y6.alloc (.cells #[.string ⟨#[48]⟩,.string ⟨#[49]⟩,.string sp,.string ⟨#[49]⟩] 42)=y7 at *
   refine RP.walkT_move ?_
   simp only[dsc_,dz_,tsc_,tz_]
   go_wp2_with fail
   refine cm_ (N0.out _ (B3.out.trans (W_y7.out.mono B3.out.size))) ?_
   rintro e_ y8 ⟨rfl,ha⟩
   have W_y8:Hid (Below w3.heap.size w3 y8):=W_y7.out.trans (ha.mono W_y7.out.size)
   have X_y8:=hd_ (heap_kept X_y7.out ha nr_)
   clear ha
   go_wp2_with fail
   refine⟨⟨⟨_,W_y8.out⟩,rfl⟩,?_⟩
   refine RP.walkT_move ?_
   simp only[dsc_,dz_,tsc_,tz_]
   go_wp2_with fail
   have W_y9:=hd_ (W_y8.out.alloc W_y8.out.size (.cells #[.string ⟨#[49]⟩,.string ⟨#[49]⟩,.string ⟨#[48]⟩,.string ⟨#[49]⟩] 42))
   have Y_y9:Hid ((y8.alloc (.cells #[.string ⟨#[49]⟩,.string ⟨#[49]⟩,.string ⟨#[48]⟩,.string ⟨#[49]⟩] 42)).heap[y8.heap.size]?=some (.cells #[.string ⟨#[49]⟩,.string ⟨#[49]⟩,.string ⟨#[48]⟩,.string ⟨#[49]⟩] 42 (0,0))):=heap_alloc_new y8 _
   have X_y9:=hd_ (heap_old X_y8.out (.cells #[.string ⟨#[49]⟩,.string ⟨#[49]⟩,.string ⟨#[48]⟩,.string ⟨#[49]⟩] 42))
   refine⟨⟨⟨_,W_y9.out⟩,rfl⟩,?_⟩
   obtain⟨gY_y9,hgY_y9⟩:∃ g,g=y8.heap.size:=⟨_,rfl⟩
   rw[← hgY_y9] at Y_y9 ⊢
   clear hgY_y9
   generalize y8.alloc (.cells #[.string ⟨#[49]⟩,.string ⟨#[49]⟩,.string ⟨#[48]⟩,.string ⟨#[49]⟩] 42)=y9 at *
   refine RP.walkT_move ?_
   simp only[dsc_,dz_,tsc_,tz_]
   go_wp2_with fail
   refine cm_ (HF.out _ (B3.out.trans (W_y9.out.mono B3.out.size)) _ _ _ (rd_obj (heap_kept F1.out W_y9.out nr_)) (rd_obj X_y9.out) (rd_obj Y_y9.out)) ?_
   rintro e_ z1 ⟨rfl,ha⟩
   have W1:Hid (Below w3.heap.size w3 z1):=W_y9.out.trans (ha.mono W_y9.out.size)
   clear ha
   go_wp2_with fail
   refine⟨⟨⟨_,W1.out⟩,rfl⟩,?_⟩
   refine RP.walkT_any ?_
   simp only[dsc_,dz_,tsc_,tz_]
   go_big_quiet_step (fail);refine wpQuiet_nil ?_
   refine RP.walkT_any ?_
   simp only[dsc_,dz_,tsc_,tz_]
   go_big_quiet_step (fail);refine wpQuiet_nil ?_
   refine RP.walkT_any ?_
   simp only[dsc_,dz_,tsc_,tz_]
   go_big_quiet_step (fail);refine wpQuiet_nil ?_
   refine RP.walkT_move ?_
   simp only[dsc_,dz_,tsc_,tz_]
   go_wp2_with fail
   refine⟨⟨⟨_,W1.out⟩,rfl⟩,?_⟩
   refine RP.walkT_move ?_
   simp only[dsc_,dz_,tsc_,tz_]
   go_wp2_with fail
   simp only[RP.walkT]
   go_wp2_with fail
   go_ret
   exact⟨rfl,B3.out.trans (W1.out.mono B3.out.size)⟩
  ·simp only[dsc_,dz_,tsc_,tz_]
   go_wp2_with fail
   refine cm_ (N0.out _ (B3.out.trans (W_y6.out.mono B3.out.size))) ?_
   rintro e_ y10 ⟨rfl,ha⟩
   have W_y10:Hid (Below w3.heap.size w3 y10):=W_y6.out.trans (ha.mono W_y6.out.size)
   clear ha
   go_wp2_with fail
   refine⟨⟨⟨_,W_y10.out⟩,rfl⟩,?_⟩
   refine RP.walkT_two ?_ ?_
   ·simp only[dsc_,dz_,tsc_,tz_]
    go_wp2_with fail
    have W_y11:=hd_ (W_y10.out.alloc W_y10.out.size (.cells #[.string ⟨#[48]⟩,.string ⟨#[49]⟩,.string sp,.string ⟨#[49]⟩] 42))
    have X_y11:Hid ((y10.alloc (.cells #[.string ⟨#[48]⟩,.string ⟨#[49]⟩,.string sp,.string ⟨#[49]⟩] 42)).heap[y10.heap.size]?=some (.cells #[.string ⟨#[48]⟩,.string ⟨#[49]⟩,.string sp,.string ⟨#[49]⟩] 42 (0,0))):=heap_alloc_new y10 _
    refine⟨⟨⟨_,W_y11.out⟩,rfl⟩,?_⟩
    obtain⟨gX_y11,hgX_y11⟩:∃ g,g=y10.heap.size:=⟨_,rfl⟩
    rw[← hgX_y11] at X_y11 ⊢
    clear hgX_y11
    generalize y10.alloc (.cells #[.string ⟨#[48]⟩,.string ⟨#[49]⟩,.string sp,.string ⟨#[49]⟩] 42)=y11 at *
    refine RP.walkT_move ?_
    simp only[dsc_,dz_,tsc_,tz_]
    go_wp2_with fail
    have W_y12:=hd_ (W_y11.out.alloc W_y11.out.size (.cells #[.string ⟨#[49]⟩,.string ⟨#[49]⟩,.string ⟨#[48]⟩,.string ⟨#[49]⟩] 42))
    have Y_y12:Hid ((y11.alloc (.cells #[.string ⟨#[49]⟩,.string ⟨#[49]⟩,.string ⟨#[48]⟩,.string ⟨#[49]⟩] 42)).heap[y11.heap.size]?=some (.cells #[.string ⟨#[49]⟩,.string ⟨#[49]⟩,.string ⟨#[48]⟩,.string ⟨#[49]⟩] 42 (0,0))):=heap_alloc_new y11 _
    have X_y12:=hd_ (heap_old X_y11.out (.cells #[.string ⟨#[49]⟩,.string ⟨#[49]⟩,.string ⟨#[48]⟩,.string ⟨#[49]⟩] 42))
    refine⟨⟨⟨_,W_y12.out⟩,rfl⟩,?_⟩
    obtain⟨gY_y12,hgY_y12⟩:∃ g,g=y11.heap.size:=⟨_,rfl⟩
    rw[← hgY_y12] at Y_y12 ⊢
    clear hgY_y12
    generalize y11.alloc (.cells #[.string ⟨#[49]⟩,.string ⟨#[49]⟩,.string ⟨#[48]⟩,.string ⟨#[49]⟩] 42)=y12 at *
    refine RP.walkT_move ?_
    simp only[dsc_,dz_,tsc_,tz_]
    go_wp2_with fail
    refine cm_ (HF.out _ (B3.out.trans (W_y12.out.mono B3.out.size)) _ _ _ (rd_obj (heap_kept F1.out W_y12.out nr_)) (rd_obj X_y12.out) (rd_obj Y_y12.out)) ?_
    rintro e_ z1 ⟨rfl,ha⟩
    have W1:Hid (Below w3.heap.size w3 z1):=W_y12.out.trans (ha.mono W_y12.out.size)
    clear ha
    go_wp2_with fail
    refine⟨⟨⟨_,W1.out⟩,rfl⟩,?_⟩
    refine RP.walkT_any ?_
    simp only[dsc_,dz_,tsc_,tz_]
    go_big_quiet_step (fail);refine wpQuiet_nil ?_
    refine RP.walkT_any ?_
    simp only[dsc_,dz_,tsc_,tz_]
    go_big_quiet_step (fail);refine wpQuiet_nil ?_
    refine RP.walkT_any ?_
    simp only[dsc_,dz_,tsc_,tz_]
    go_big_quiet_step (fail);refine wpQuiet_nil ?_
    refine RP.walkT_move ?_
    simp only[dsc_,dz_,tsc_,tz_]
    go_wp2_with fail
    refine⟨⟨⟨_,W1.out⟩,rfl⟩,?_⟩
    refine RP.walkT_move ?_
    simp only[dsc_,dz_,tsc_,tz_]
    go_wp2_with fail
    simp only[RP.walkT]
    go_wp2_with fail
    go_ret
    exact⟨rfl,B3.out.trans (W1.out.mono B3.out.size)⟩
   ·simp only[dsc_,dz_,tsc_,tz_]
    go_wp2_with fail
    have W_y13:=hd_ (W_y10.out.alloc W_y10.out.size (.cells #[.string ⟨#[49]⟩,.string ⟨#[49]⟩,.string ⟨#[48]⟩,.string ⟨#[49]⟩] 42))
    have Y_y13:Hid ((y10.alloc (.cells #[.string ⟨#[49]⟩,.string ⟨#[49]⟩,.string ⟨#[48]⟩,.string ⟨#[49]⟩] 42)).heap[y10.heap.size]?=some (.cells #[.string ⟨#[49]⟩,.string ⟨#[49]⟩,.string ⟨#[48]⟩,.string ⟨#[49]⟩] 42 (0,0))):=heap_alloc_new y10 _
    refine⟨⟨⟨_,W_y13.out⟩,rfl⟩,?_⟩
    obtain⟨gY_y13,hgY_y13⟩:∃ g,g=y10.heap.size:=⟨_,rfl⟩
    rw[← hgY_y13] at Y_y13 ⊢
    clear hgY_y13
    generalize y10.alloc (.cells #[.string ⟨#[49]⟩,.string ⟨#[49]⟩,.string ⟨#[48]⟩,.string ⟨#[49]⟩] 42)=y13 at *
    refine RP.walkT_move ?_
    simp only[dsc_,dz_,tsc_,tz_]
    go_wp2_with fail
    have W_y14:=hd_ (W_y13.out.alloc W_y13.out.size (.cells #[.string ⟨#[48]⟩,.string ⟨#[49]⟩,.string sp,.string ⟨#[49]⟩] 42))
    have X_y14:Hid ((y13.alloc (.cells #[.string ⟨#[48]⟩,.string ⟨#[49]⟩,.string sp,.string ⟨#[49]⟩] 42)).heap[y13.heap.size]?=some (.cells #[.string ⟨#[48]⟩,.string ⟨#[49]⟩,.string sp,.string ⟨#[49]⟩] 42 (0,0))):=heap_alloc_new y13 _
    have Y_y14:=hd_ (heap_old Y_y13.out (.cells #[.string ⟨#[48]⟩,.string ⟨#[49]⟩,.string sp,.string ⟨#[49]⟩] 42))
    refine⟨⟨⟨_,W_y14.out⟩,rfl⟩,?_⟩
    obtain⟨gX_y14,hgX_y14⟩:∃ g,g=y13.heap.size:=⟨_,rfl⟩
    rw[← hgX_y14] at X_y14 ⊢
    clear hgX_y14
    generalize y13.alloc (.cells #[.string ⟨#[48]⟩,.string ⟨#[49]⟩,.string sp,.string ⟨#[49]⟩] 42)=y14 at *
    refine RP.walkT_move ?_
    simp only[dsc_,dz_,tsc_,tz_]
    go_wp2_with fail
    refine cm_ (HF.out _ (B3.out.trans (W_y14.out.mono B3.out.size)) _ _ _ (rd_obj (heap_kept F1.out W_y14.out nr_)) (rd_obj X_y14.out) (rd_obj Y_y14.out)) ?_
    rintro e_ z1 ⟨rfl,ha⟩
    have W1:Hid (Below w3.heap.size w3 z1):=W_y14.out.trans (ha.mono W_y14.out.size)
    clear ha
    go_wp2_with fail
    refine⟨⟨⟨_,W1.out⟩,rfl⟩,?_⟩
    refine RP.walkT_any ?_
    simp only[dsc_,dz_,tsc_,tz_]
    go_big_quiet_step (fail);refine wpQuiet_nil ?_
    refine RP.walkT_any ?_
    simp only[dsc_,dz_,tsc_,tz_]
    go_big_quiet_step (fail);refine wpQuiet_nil ?_
    refine RP.walkT_any ?_
    simp only[dsc_,dz_,tsc_,tz_]
    go_big_quiet_step (fail);refine wpQuiet_nil ?_
    refine RP.walkT_move ?_
    simp only[dsc_,dz_,tsc_,tz_]
    go_wp2_with fail
    refine⟨⟨⟨_,W1.out⟩,rfl⟩,?_⟩
    refine RP.walkT_move ?_
    simp only[dsc_,dz_,tsc_,tz_]
    go_wp2_with fail
    simp only[RP.walkT]
    go_wp2_with fail
    go_ret
    exact⟨rfl,B3.out.trans (W1.out.mono B3.out.size)⟩
theorem low14_ok(w:World)(p n:Nat)(hp:p=2∨p∈oddP)(hn:n≤90)(L:Laid w):Gives Tryz.prog 49 #[.int .i64 p,.int .i64 n] w (.string (dec (lgN p n))):=by
 rcases hp with rfl|hp
 ·exact low14_two w n hn L
 ·rcases Nat.lt_or_ge 9 n with h | h
  ·exact low14_big w p n hp h hn L
  ·exact low14_low w p n hp h L
structure PlAt (x y j c:Nat) (a:Option Addr) (d:Nat) (w wr:World):Prop where
 own:OwnI wr w.heap.size a d (nI (digs9 (x+y) j))
 bel:Below w.heap.size w wr
 car:(x+y)/1000000000^j=x/1000000000^j+y/1000000000^j+c
 one:c≤1
theorem plus_step(x y j c:Nat)(hc:(x+y)/1000000000^j=x/1000000000^j+y/1000000000^j+c):
  (c+(limbs x).getD j 0+(limbs y).getD j 0)%1000000000=(x+y)/1000000000^j%1000000000 ∧
  (x+y)/1000000000^(j+1)=x/1000000000^(j+1)+y/1000000000^(j+1)+(c+(limbs x).getD j 0+(limbs y).getD j 0)/1000000000:=by
 rw[limbs_getD,limbs_getD,Nat.pow_succ,← Nat.div_div_eq_div_mul,← Nat.div_div_eq_div_mul,← Nat.div_div_eq_div_mul]
 generalize (x+y)/1000000000^j=N at *
 generalize x/1000000000^j=X at *
 generalize y/1000000000^j=Y at *
 omega
theorem limbs_none(n j:Nat)(h:(limbs n).length≤j):(limbs n).getD j 0=0∧n/1000000000^j=0:=by
 refine⟨by rw[List.getD_eq_getElem?_getD,List.getElem?_eq_none h];rfl,?_⟩
 rw[Nat.div_eq_of_lt ((limbs_length n j).1 h)]
theorem plus2_any(w:World)(a1 a2:Option Addr)(c1 c2 x y:Nat)(h1:Rd w a1 (ints (nI (limbs x))))(h2:Rd w a2 (ints (nI (limbs y))))(l1:(limbs x).length≤400000)(l2:(limbs y).length≤400000):
  Calls Tryz.prog 180 #[.slice a1 (limbs x).length c1,.slice a2 (limbs y).length c2] w fun e w'=>∃ (a:Option Addr) (j d:Nat),e = .returned (.slice a j d)∧Rd w' a (ints (nI (digs9 (x+y) j)))∧j≤d∧j≤1000000∧val (digs9 (x+y) j)=x+y∧Below w.heap.size w w':=by
 have H1:=hd_ h1
 have H2:=hd_ h2
 clear h1 h2
 have P1:=hd_ (limbs_pcs x)
 have P2:=hd_ (limbs_pcs y)
 obtain⟨n,hn⟩:∃ n,(limbs x).length=n:=⟨_,rfl⟩
 obtain⟨m,hm⟩:∃ m,(limbs y).length=m:=⟨_,rfl⟩
 have Hn:=hd_ hn
 have Hm:=hd_ hm
 rw[hn] at l1 ⊢
 rw[hm] at l2 ⊢
 clear hn hm
 go_enter Tryz.func180,Tryz.ntmps180
 go_wp2_with fail
 go_loopw [5,6,7] (fun o cv i wr=>∃ (a:Option Addr) (d j c:Nat),o = .slice a j d∧cv = .int .i64 c∧i = .int .i64 j∧j≤max n m+1∧(c=0∨j≤max n m)∧c≤1∧Hid (PlAt x y j c a d w wr)) (fun _ _ i _=>max n m+1-(intOf i).toNat)
 case atStart =>
  refine⟨none,0,0,0,rfl,rfl,rfl,by omega,.inl rfl,by omega,⟨OwnI.nil w w.heap.size,Below.refl _ _,?_,by omega⟩⟩
  rw[Nat.pow_zero,Nat.div_one,Nat.div_one,Nat.div_one];omega
 case round =>
  obtain⟨a,d,j,c,rfl,rfl,rfl,hj,hcj,hc,HA⟩:=hrel
  obtain⟨hs1,hs2⟩:=plus_step x y j c HA.out.car
  have hu0:j<n∨(n≤j∧(limbs x).getD j 0=0∧x/1000000000^j=0):=by
   rcases Nat.lt_or_ge j n with h|h
   ·exact .inl h
   ·obtain⟨e1,e2⟩:=limbs_none x j (by rw[Hn.out];exact h)
    exact .inr ⟨h,e1,e2⟩
  have hv0:j<m∨(m≤j∧(limbs y).getD j 0=0∧y/1000000000^j=0):=by
   rcases Nat.lt_or_ge j m with h|h
   ·exact .inl h
   ·obtain⟨e1,e2⟩:=limbs_none y j (by rw[Hm.out];exact h)
    exact .inr ⟨h,e1,e2⟩
  have hub:=P1.out.getD j
  have hvb:=P2.out.getD j
  have cx:j<n→∃ b o,a1=some ⟨b,o,none⟩∧wr.cell? ⟨b,o+j,none⟩=some (.int .i64 ((limbs x).getD j 0:Nat)):=fun h=>by
   obtain⟨b,o,e1,hb,hcl⟩:=nI_cell H1.out j (by rw[Hn.out];exact h)
   refine⟨b,o,e1,?_⟩
   rw[HA.out.bel.cell (p:=⟨b,o+j,none⟩) hb]
   exact hcl j (by rw[Hn.out];exact h)
  have cy:j<m→∃ b o,a2=some ⟨b,o,none⟩∧wr.cell? ⟨b,o+j,none⟩=some (.int .i64 ((limbs y).getD j 0:Nat)):=fun h=>by
   obtain⟨b,o,e1,hb,hcl⟩:=nI_cell H2.out j (by rw[Hm.out];exact h)
   refine⟨b,o,e1,?_⟩
   rw[HA.out.bel.cell (p:=⟨b,o+j,none⟩) hb]
   exact hcl j (by rw[Hm.out];exact h)
  have Hnx:Hid (∀ a3 d3 w3,OwnI w3 w.heap.size a3 d3 (nI (digs9 (x+y) (j+1)))→Below w.heap.size w w3→PlAt x y (j+1) ((c+(limbs x).getD j 0+(limbs y).getD j 0)/1000000000) a3 d3 w w3):=fun a3 d3 w3 h1 h2=>⟨h1,h2,hs2,by omega⟩
  have Hfin:Hid (¬ j<n→¬ j<m→c=0→val (digs9 (x+y) j)=x+y):=fun h1 h2 h3=>by
   rw[digs9_val,Nat.mod_eq_of_lt]
   have e:=HA.out.car
   have ex:x/1000000000^j=0:=hu0.elim (fun h=>absurd h h1) (fun h=>h.2.2)
   have ey:y/1000000000^j=0:=hv0.elim (fun h=>absurd h h2) (fun h=>h.2.2)
   rw[ex,ey,h3] at e
   rcases Nat.div_eq_zero_iff.1 e with h|h
   ·exact absurd h (Nat.ne_of_gt (Nat.pow_pos (by decide)))
   ·exact h
  have Hdg:Hid ((c+(limbs x).getD j 0+(limbs y).getD j 0)%1000000000=(x+y)/1000000000^j%1000000000):=hs1
  have hrow:wr.ownsRow w.heap.size 3 1 (.slice a j d) j (ints (nI (digs9 (x+y) j))):=by have:=HA.out.own;unfold OwnI at this;rw[nI_length,digs9_length] at this;exact this
  have Hrow:=hd_ hrow
  have hu1:¬ j<n→(limbs x).getD j 0=0:=fun h=>by
   rcases hu0 with h1|h1
   ·exact absurd h1 h
   ·exact h1.2.1
  have hv1:¬ j<m→(limbs y).getD j 0=0:=fun h=>by
   rcases hv0 with h1|h1
   ·exact absurd h1 h
   ·exact h1.2.1
  clear hs1 hs2 hu0 hv0 hrow
  generalize (limbs x).getD j 0=u at *
  generalize (limbs y).getD j 0=v at *
  by_cases hgo:j<n∨j<m∨0<c
  ·have hnew:max n m+1-(j+1)<max n m+1-j∧j+1≤max n m+1∧((c+u+v)/1000000000=0∨j+1≤max n m)∧(c+u+v)/1000000000≤1:=by
    refine⟨by omega,by omega,?_,by omega⟩
    rcases Nat.lt_or_ge j n with h|h
    ·right;omega
    ·rcases Nat.lt_or_ge j m with h2 | h2
     ·right;omega
     ·left
      have e1:=hu1 (by omega)
      have e2:=hv1 (by omega)
      rw[e1,e2];omega
   obtain⟨T,hT⟩:∃ T,c+u+v=T:=⟨_,rfl⟩
   rw[hT] at hnew Hnx Hdg
   have hTb:T<2000000001:=by omega
   have hd1:Int.tmod (T:Int) 1000000000=((T%1000000000:Nat):Int):=by rw[Int.tmod_eq_emod_of_nonneg (by omega)];omega
   have hd1':(T:Int)%1000000000=((T%1000000000:Nat):Int):=by omega
   have hd2:Int.tdiv (T:Int) 1000000000=((T/1000000000:Nat):Int):=by rw[Int.tdiv_eq_ediv_of_nonneg (by omega)];omega
   have hd2':(T:Int)/1000000000=((T/1000000000:Nat):Int):=by omega
   have hd3:T/1000000000<1000000000:=by omega
   have hd4:T%1000000000<1000000000:=Nat.mod_lt _ (by decide)
   have ew4:IntKind.i64.wrap ((j:Int)+1)=((j+1:Nat):Int):=by rw[← Int.natCast_succ];exact iw_ _ (by omega)
   have hjb:j≤400001:=by omega
   clear hub hvb Hfin hd3
   generalize T%1000000000=D at *
   generalize T/1000000000=C at *
   have ew5:IntKind.i64.wrap (D:Int)=(D:Int):=iw_ _ (by omega)
   have ew6:IntKind.i64.wrap (C:Int)=(C:Int):=iw_ _ (by omega)
   have HB:=hd_ HA.out.bel
   have hc2:=HA.out.one
   clear HA hcj
   obtain⟨hn1,hn2,hn3,hn4⟩:=hnew
   have Hn1:=hd_ hn1
   clear hn1
   by_cases h1:j<n
   ·by_cases h2:j<m
    ·obtain⟨b1,o1,rfl,kx⟩:=cx h1
     obtain⟨b2,o2,rfl,ky⟩:=cy h2
     have g1:(j:Int)<n:=by omega
     have g2:(j:Int)<m:=by omega
     have ew1:IntKind.i64.wrap ((c:Int)+u)=(c:Int)+u:=iw_ _ (by omega)
     have ew2:IntKind.i64.wrap ((c:Int)+u+v)=(T:Int):=by rw[show (c:Int)+u+v=(T:Int) by omega];exact iw_ _ (by omega)
     clear cx cy hu1 hv1 hgo
     go_wp2_with (at_builtin;refine wpList_append_new rfl (.tmp 44) (.tmp 47) 35 rfl elInt _ 1 [.int .i64 (D:Nat)] rfl rfl Hrow.out HB.out.size rfl ?c1 (by omega) (by omega) ?_)
     case c1=>first | rfl | (intro u hu;obtain rfl:=List.mem_singleton.1 hu;rfl)
     intro v' w3 hown3 hg3 _
     obtain⟨a3,c3,rfl⟩:=own_form hown3
     have HC3:=hd_ (Hnx.out a3 c3 w3 (by
      unfold OwnI
      rw[nI_length,digs9_length,digs9_succ,nI_append,ints_append,← Hdg.out]
      exact hown3) ((HB.out.alloc HB.out.size _).grown hg3 (by have:=HB.out.size;simp;omega) (fun k hk=>(Hrow.out.lt k hk).1)))
     clear hown3 hg3 Hnx Hrow HB Hdg
     go_wp2_with fail
     exact⟨⟨a3,c3,j+1,C,rfl,by go_num,by go_num,hn2,hn3,hn4,HC3⟩,by simpa [intOf] using Hn1.out⟩
    ·obtain⟨b1,o1,rfl,kx⟩:=cx h1
     have g1:(j:Int)<n:=by omega
     have g2:¬ (j:Int)<m:=by omega
     have g3:v=0:=hv1 h2
     have ew1:IntKind.i64.wrap ((c:Int)+u)=(T:Int):=by rw[show (c:Int)+u=(T:Int) by omega];exact iw_ _ (by omega)
     clear cx cy hu1 hv1 hgo g3
     go_wp2_with (at_builtin;refine wpList_append_new rfl (.tmp 44) (.tmp 47) 35 rfl elInt _ 1 [.int .i64 (D:Nat)] rfl rfl Hrow.out HB.out.size rfl ?c1 (by omega) (by omega) ?_)
     case c1=>first | rfl | (intro u hu;obtain rfl:=List.mem_singleton.1 hu;rfl)
     intro v' w3 hown3 hg3 _
     obtain⟨a3,c3,rfl⟩:=own_form hown3
     have HC3:=hd_ (Hnx.out a3 c3 w3 (by
      unfold OwnI
      rw[nI_length,digs9_length,digs9_succ,nI_append,ints_append,← Hdg.out]
      exact hown3) ((HB.out.alloc HB.out.size _).grown hg3 (by have:=HB.out.size;simp;omega) (fun k hk=>(Hrow.out.lt k hk).1)))
     clear hown3 hg3 Hnx Hrow HB Hdg
     go_wp2_with fail
     exact⟨⟨a3,c3,j+1,C,rfl,by go_num,by go_num,hn2,hn3,hn4,HC3⟩,by simpa [intOf] using Hn1.out⟩
   ·by_cases h2:j<m
    ·obtain⟨b2,o2,rfl,ky⟩:=cy h2
     have g1:¬ (j:Int)<n:=by omega
     have g2:(j:Int)<m:=by omega
     have g3:u=0:=hu1 h1
     have ew1:IntKind.i64.wrap ((c:Int)+v)=(T:Int):=by rw[show (c:Int)+v=(T:Int) by omega];exact iw_ _ (by omega)
     clear cx cy hu1 hv1 hgo g3
     go_wp2_with (at_builtin;refine wpList_append_new rfl (.tmp 44) (.tmp 47) 35 rfl elInt _ 1 [.int .i64 (D:Nat)] rfl rfl Hrow.out HB.out.size rfl ?c1 (by omega) (by omega) ?_)
     case c1=>first | rfl | (intro u hu;obtain rfl:=List.mem_singleton.1 hu;rfl)
     intro v' w3 hown3 hg3 _
     obtain⟨a3,c3,rfl⟩:=own_form hown3
     have HC3:=hd_ (Hnx.out a3 c3 w3 (by
      unfold OwnI
      rw[nI_length,digs9_length,digs9_succ,nI_append,ints_append,← Hdg.out]
      exact hown3) ((HB.out.alloc HB.out.size _).grown hg3 (by have:=HB.out.size;simp;omega) (fun k hk=>(Hrow.out.lt k hk).1)))
     clear hown3 hg3 Hnx Hrow HB Hdg
     go_wp2_with fail
     exact⟨⟨a3,c3,j+1,C,rfl,by go_num,by go_num,hn2,hn3,hn4,HC3⟩,by simpa [intOf] using Hn1.out⟩
    ·have g1:¬ (j:Int)<n:=by omega
     have g2:¬ (j:Int)<m:=by omega
     have g3:u=0:=hu1 h1
     have g4:v=0:=hv1 h2
     obtain rfl:c=T:=by omega
     have g5:(0:Int)<c:=by omega
     clear cx cy hu1 hv1 hgo g3 g4
     go_wp2_with (at_builtin;refine wpList_append_new rfl (.tmp 44) (.tmp 47) 35 rfl elInt _ 1 [.int .i64 (D:Nat)] rfl rfl Hrow.out HB.out.size rfl ?c1 (by omega) (by omega) ?_)
     case c1=>first | rfl | (intro u hu;obtain rfl:=List.mem_singleton.1 hu;rfl)
     intro v' w3 hown3 hg3 _
     obtain⟨a3,c3,rfl⟩:=own_form hown3
     have HC3:=hd_ (Hnx.out a3 c3 w3 (by
      unfold OwnI
      rw[nI_length,digs9_length,digs9_succ,nI_append,ints_append,← Hdg.out]
      exact hown3) ((HB.out.alloc HB.out.size _).grown hg3 (by have:=HB.out.size;simp;omega) (fun k hk=>(Hrow.out.lt k hk).1)))
     clear hown3 hg3 Hnx Hrow HB Hdg
     go_wp2_with fail
     exact⟨⟨a3,c3,j+1,C,rfl,by go_num,by go_num,hn2,hn3,hn4,HC3⟩,by simpa [intOf] using Hn1.out⟩
  ·have hg1:¬ (j:Int)<n:=by omega
   have hg2:¬ (j:Int)<m:=by omega
   obtain rfl:c=0:=by omega
   have hfv:=hd_ (Hfin.out (by omega) (by omega) rfl)
   have hcap:=HA.out.own.cap2
   rw[nI_length,digs9_length] at hcap
   have HR:=hd_ HA.out.own.rd
   have HB:=hd_ HA.out.bel
   have Hj:Hid (j≤d∧j≤1000000):=⟨hcap,by omega⟩
   clear hcap HA Hnx Hfin Hdg Hrow cx cy hub hvb hgo hcj hu1 hv1
   go_wp2_with fail
   go_ret
   exact⟨a,j,d,rfl,HR.out,Hj.out.1,Hj.out.2,hfv.out,HB.out⟩
theorem add2_dec(w:World)(x y:Nat)(hx:Num x)(hy:Num y)(L:Laid w):
  Gives Tryz.prog 109 #[.string (dec x),.string (dec y)] w (.string (dec (x+y))):=by
 unfold Gives
 have hx1:(dec x).size≤1000000:=hx
 have hy1:(dec y).size≤1000000:=hy
 have Q1:=hd_ fun w:World=>quick2_dec w x
 have Q2:=hd_ fun w:World=>quick2_dec w y
 by_cases hs:(dec x).size≤18∧(dec y).size≤18
 ·rw[if_pos hs.1] at Q1
  rw[if_pos hs.2] at Q2
  have d1:=(dec_length x (dec x).size (by rw[dec_size];exact dec_pos x)).1 (by rw[dec_size];exact Nat.le_refl _)
  have d2:=(dec_length y (dec y).size (by rw[dec_size];exact dec_pos y)).1 (by rw[dec_size];exact Nat.le_refl _)
  have d3:10^(dec x).size≤10^18:=Nat.pow_le_pow_right (by decide) hs.1
  have d4:10^(dec y).size≤10^18:=Nat.pow_le_pow_right (by decide) hs.2
  have d5:x+y<2000000000000000000:=by omega
  have hw1:IntKind.i64.wrap ((x:Int)+(y:Int))=((x+y:Nat):Int):=by rw[← Int.natCast_add];exact iw_ _ (by omega)
  have HOf:=hd_ fun (W:World) (hW:Below w.heap.size w W)=>of2_any W ((x+y:Nat):Int) (by omega) (by omega) (L.below hW)
  rw[itx_nat] at HOf
  clear d1 d2 d3 d4 d5 hx hy hx1 hy1 L hs
  generalize dec (x+y)=r at *
  generalize x+y=u at *
  generalize dec x=s1 at *
  generalize dec y=s2 at *
  go_enter Tryz.func109,Tryz.ntmps109
  go_wp2_with fail
  refine Calls.mono (Q1.out _) ?_
  rintro e w3 ⟨rfl,hb3⟩
  have Hb3:=hd_ hb3
  clear hb3
  go_wp2_with fail
  refine Calls.mono (Q2.out _) ?_
  rintro e w4 ⟨rfl,hb4⟩
  have Hb4:=hd_ (Hb3.out.trans (hb4.mono Hb3.out.size))
  clear hb4 Hb3
  go_wp2_with fail
  refine cm_ (HOf.out _ Hb4.out) ?_
  rintro e w5 ⟨rfl,hb5⟩
  have Hb5:=hd_ (Hb4.out.trans (hb5.mono Hb4.out.size))
  clear hb5 Hb4
  go_wp2_with fail
  go_ret
  exact⟨rfl,Hb5.out⟩
 ·obtain⟨u1,b1,hq1,qa⟩:∃ (u1:Int) (b1:Bool),(if (dec x).size≤18 then Value.tuple #[.int .i64 x,.bool true] else .tuple #[.int .i64 0,.bool false]) = .tuple #[.int .i64 u1,.bool b1]∧(b1=true→(dec x).size≤18):=by
   by_cases h:(dec x).size≤18
   ·rw[if_pos h];exact⟨_,_,rfl,fun _=>h⟩
   ·rw[if_neg h];exact⟨_,_,rfl,fun h=>by cases h⟩
  obtain⟨u2,b2,hq2,hb2⟩:∃ (u2:Int) (b2:Bool),(if (dec y).size≤18 then Value.tuple #[.int .i64 y,.bool true] else .tuple #[.int .i64 0,.bool false]) = .tuple #[.int .i64 u2,.bool b2]∧(b2=true→(dec y).size≤18):=by
   by_cases h:(dec y).size≤18
   ·rw[if_pos h];exact⟨_,_,rfl,fun _=>h⟩
   ·rw[if_neg h];exact⟨_,_,rfl,fun h=>by cases h⟩
  rw[hq1] at Q1
  rw[hq2] at Q2
  have hb12:b1=true→b2=false:=fun h1=>by
   cases b2
   ·rfl
   ·exact absurd ⟨qa h1,hb2 rfl⟩ hs
  have D1:=hd_ fun w:World=>digits2_dec w x
  have D2:=hd_ fun w:World=>digits2_dec w y
  have S1:=hd_ fun w:World=>side2_dec w x
  have S2:=hd_ fun w:World=>side2_dec w y
  have SP1:=hd_ fun w:World=>split2_dec w x hx
  have SP2:=hd_ fun w:World=>split2_dec w y hy
  unfold GivesN at SP1 SP2
  have HT:=hd_ fun (W:World) (a1 a2:Option Addr) (c1 c2:Nat) (h1:Rd W a1 (ints (nI (limbs x)))) (h2:Rd W a2 (ints (nI (limbs y))))=>plus2_any W a1 a2 c1 c2 x y h1 h2 (limbs_num x hx) (limbs_num y hy)
  have HG:=hd_ fun (W:World) (a:Option Addr) (c j:Nat) (h:Rd W a (ints (nI (digs9 (x+y) j)))) (hc:j≤c) (hj:j≤1000000) (hv:val (digs9 (x+y) j)=x+y) (LW:Laid W)=>by
   have:=signed2_any W a c (digs9 (x+y) j) h (digs9_pcs _ _) (by rw[digs9_length];exact hj) (by rw[digs9_length];exact hc) LW
   rw[hv,digs9_length] at this
   exact this
  have HL:=hd_ L
  clear hx hy L hx1 hy1 hs hq1 hq2 qa hb2
  generalize dec (x+y)=r at *
  generalize dec x=s1 at *
  generalize dec y=s2 at *
  obtain⟨lp,hlp⟩:∃ lp,(limbs x).length=lp:=⟨_,rfl⟩
  obtain⟨lq,hlq⟩:∃ lq,(limbs y).length=lq:=⟨_,rfl⟩
  rw[hlp] at SP1 HT
  rw[hlq] at SP2 HT
  clear hlp hlq
  go_enter Tryz.func109,Tryz.ntmps109
  go_wp2_with fail
  refine Calls.mono (Q1.out _) ?_
  rintro e w3 ⟨rfl,hb3⟩
  have Hb3:=hd_ hb3
  clear hb3 Q1
  go_wp2_with fail
  refine Calls.mono (Q2.out _) ?_
  rintro e w4 ⟨rfl,hb4⟩
  have Hb4:=hd_ (Hb3.out.trans (hb4.mono Hb3.out.size))
  clear hb4 Hb3 Q2
  obtain⟨hb,hbb⟩:∃ hb:b1=false∨(b1=true∧b2=false),True:=⟨by cases b1;exact .inl rfl;exact .inr ⟨rfl,hb12 rfl⟩,trivial⟩
  clear hb12 hbb
  rcases hb with rfl|⟨rfl,rfl⟩
  all_goals
   go_wp2_with fail
   refine cm_ (D1.out _) ?_
   rintro e w5 ⟨rfl,hb5⟩
   have Hb5:=hd_ (Hb4.out.trans (hb5.mono Hb4.out.size))
   clear hb5 Hb4
   go_wp2_with fail
   refine cm_ (SP1.out _) ?_
   rintro e w6 ⟨a1,c1,rfl,r1,hc1,hb6⟩
   have Hb6:=hd_ (Hb5.out.trans (hb6.mono Hb5.out.size))
   have R1:=hd_ r1
   clear hb6 Hb5 r1 hc1
   go_wp2_with fail
   refine cm_ (D2.out _) ?_
   rintro e w7 ⟨rfl,hb7⟩
   have Hb7:=hd_ (Hb6.out.trans (hb7.mono Hb6.out.size))
   replace R1:=hd_ (R1.out.below hb7 nr_)
   clear hb7 Hb6
   go_wp2_with fail
   refine cm_ (SP2.out _) ?_
   rintro e w8 ⟨a2,c2,rfl,r2,hc2,hb8⟩
   have Hb8:=hd_ (Hb7.out.trans (hb8.mono Hb7.out.size))
   replace R1:=hd_ (R1.out.below hb8 nr_)
   have R2:=hd_ r2
   clear hb8 Hb7 r2 hc2
   go_wp2_with fail
   refine cm_ (S1.out _) ?_
   rintro e w9 ⟨rfl,hb9⟩
   have Hb9:=hd_ (Hb8.out.trans (hb9.mono Hb8.out.size))
   replace R1:=hd_ (R1.out.below hb9 nr_)
   replace R2:=hd_ (R2.out.below hb9 nr_)
   clear hb9 Hb8
   go_wp2_with fail
   refine cm_ (S2.out _) ?_
   rintro e w10 ⟨rfl,hb10⟩
   have Hb10:=hd_ (Hb9.out.trans (hb10.mono Hb9.out.size))
   replace R1:=hd_ (R1.out.below hb10 nr_)
   replace R2:=hd_ (R2.out.below hb10 nr_)
   clear hb10 Hb9
   go_wp2_with fail
   refine cm_ (S1.out _) ?_
   rintro e w11 ⟨rfl,hb11⟩
   have Hb11:=hd_ (Hb10.out.trans (hb11.mono Hb10.out.size))
   replace R1:=hd_ (R1.out.below hb11 nr_)
   replace R2:=hd_ (R2.out.below hb11 nr_)
   clear hb11 Hb10
   go_wp2_with fail
   refine cm_ (HT.out _ a1 a2 c1 c2 R1.out R2.out) ?_
   rintro e w12 ⟨a3,j3,c3,rfl,r3,hc3,hj3,hv3,hb12⟩
   have Hb12:=hd_ (Hb11.out.trans (hb12.mono Hb11.out.size))
   have HG3:=hd_ (HG.out w12 a3 c3 j3 r3 hc3 hj3 hv3 (HL.out.below Hb12.out))
   clear hb12 Hb11 r3 hc3 hj3 hv3 R1 R2 HT HG
   go_wp2_with fail
   refine cm_ HG3.out ?_
   rintro e w13 ⟨rfl,hb13⟩
   have Hb13:=hd_ (Hb12.out.trans (hb13.mono Hb12.out.size))
   clear hb13 Hb12
   go_wp2_with fail
   go_ret
   exact⟨rfl,Hb13.out⟩
def ptQ (b:Nat):Rat:=⟨1,2^b,Nat.ne_of_gt (Nat.two_pow_pos b),Nat.coprime_one_left _⟩
theorem ptQ_num(b:Nat):(ptQ b).num=1:=rfl
theorem ptQ_den(b:Nat):(ptQ b).den=2^b:=rfl
theorem ptQ_mul(b:Nat):ptQ b*2^b=1:=by
 have h:mkRat (ptQ b).num (ptQ b).den=ptQ b:=Rat.mkRat_self _
 rw[ptQ_num,ptQ_den] at h
 rw[← h,← two_pow_rat,mkRat_mul_den _ _ (Nat.two_pow_pos b)]
 rfl
theorem ptQ_x(p:Int)(b:Nat):ptQ b*((lgN p b:Nat):Rat)=xE p b:=by
 rw[← xE_mul]
 have h:=ptQ_mul b
 generalize (2:Rat)^b=T at *
 grind
theorem ptQ_y(p:Int)(b:Nat):ptQ b*((LN.hiL (lf b) p:Nat):Rat)=yE p b:=by
 rw[← yE_mul]
 have h:=ptQ_mul b
 generalize (2:Rat)^b=T at *
 grind
theorem two_le_30{b:Nat}(hb:b≤91):8*2^b<10^30:=by
 have h1:2^b≤2^91:=Nat.pow_le_pow_right (by decide) hb
 have h2:8*2^91<10^30:=by decide
 omega
theorem ptQ_sm{b:Nat}(hb:b≤91):Sm 30 (ptQ b):=by
 have h:=two_le_30 hb
 have h0:=Nat.two_pow_pos b
 exact⟨by rw[ptQ_num];decide,by rw[ptQ_den];omega⟩
theorem nat_sm{n D:Nat}(h:n<10^D)(h1:1<10^D):Sm D ((n:Nat):Rat):=⟨by rw[Rat.num_natCast,Int.natAbs_natCast];exact h,by rw[Rat.den_natCast];exact h1⟩
theorem lg_sm{q b:Nat}(hq:q=2∨q∈oddP)(hb:b≤90):Sm 30 ((lgN q b:Nat):Rat)∧Sm 30 ((LN.hiL (lf b) q:Nat):Rat):=by
 have h:=two_le_30 (show b≤91 by omega)
 have h1:=lgN_le hq (show b≤1056 by omega)
 have h0:=Nat.two_pow_pos b
 have h2:LN.hiL (lf b) q≤lgN q b+1:=by unfold LN.hiL lf;split<;>omega
 exact⟨nat_sm (by omega) (by decide),nat_sm (by omega) (by decide)⟩
theorem nat_fr(n:Nat):fr ((n:Nat):Rat) = .agg #[.string (dec n),.string ⟨#[49]⟩]:=by
 unfold fr fv
 rw[Rat.num_natCast,Rat.den_natCast,itx_nat,dec_one]
theorem num_sm{n:Nat}(h:n<10^30):Num n:=num_pow (D:=30) h (by decide) (by decide)
theorem num_lg{b T:Nat}(h:T<7*2^b)(hb:b≤90):Num T:=by
 have:=two_le_30 (show b≤91 by omega)
 have:=Nat.two_pow_pos b
 exact num_sm (by omega)
structure RsI (w:World) (ga gb:Nat) (lo hi:Rat) (wr:World):Prop where
 r0:∃ x y,wr.heap[w.heap.size]?=some (.cells #[x,y] 42 (0,0))
 r1:∃ x y,wr.heap[w.heap.size+1]?=some (.cells #[x,y] 42 (0,0))
 a:FrAt wr ga lo
 b:FrAt wr gb hi
 na:w.heap.size+2≤ga
 nb:w.heap.size+2≤gb
 bel:Below w.heap.size w wr
structure RsW (v:World) (ga gb:Nat) (lo hi:Rat) where
 w:World
 h:RsI v ga gb lo hi w
theorem RsI.put0{w wr:World}{ga gb:Nat}{lo hi:Rat}(h:RsI w ga gb lo hi wr)(x y:Value):RsI w ga gb lo hi ((wr.setCell ⟨w.heap.size,0,none⟩ x).setCell ⟨w.heap.size,1,none⟩ y):=by
 obtain⟨⟨x0,y0,h0⟩,⟨x1,y1,h1⟩,h2,h3,h4,h5,h6⟩:=h
 refine⟨⟨_,_,obj_pair h0 x y⟩,⟨_,_,obj_pair_other h1 (by omega) x y⟩,FrAt.set h2 (by omega) _ _,FrAt.set h3 (by omega) _ _,h4,h5,(h6.setCell (p:=⟨w.heap.size,0,none⟩) nr_ _).setCell (p:=⟨w.heap.size,1,none⟩) nr_ _⟩
theorem RsI.drew{w wr:World}{ga gb:Nat}{lo hi:Rat}(h:RsI w ga gb lo hi wr)(n:Nat):RsI w ga gb lo hi (wr.drewN n):=⟨h.r0,h.r1,h.a,h.b,h.na,h.nb,below_dn h.bel n⟩
theorem enclose14_ok(w:World)(a0 a1:Option Addr)(c0 c1 D b:Nat)(ps:List Int)(l:List Rat)(rp:Rd w a0 (ints ps))(rl:Rd w a1 (cellsQ l))(hl:l.length=ps.length)(hn:ps.length≤100)(hp:∀ p∈ps,∃ q:Nat,p=q∧(q=2∨q∈oddP))(hs:∀ q∈l,Sm D q)(hD:D≤300)(hb:b≤90)(L:Laid w):
  Gives Tryz.prog 42 #[.slice a0 ps.length c0,.slice a1 ps.length c1,.int .i64 b] w (.tuple #[fr (loE b ps l),fr (hiE b ps l)]):=by
 unfold Gives
 have Hp:=hd_ hp
 have Hl:=hd_ hl
 have Hs:=hd_ hs
 have HL:=hd_ L
 have HRp:=hd_ rp
 have HRl:=hd_ rl
 have HT:=hd_ (TwoE.mk' w)
 obtain⟨z,hz⟩:∃ z:Rat,z=0:=⟨_,rfl⟩
 have Hz0:=hd_ hz
 have N0:=hd_ (fun W (hW:Below w.heap.size w W)=>k_num W 0 1 z (by rw[hz];decide +kernel) (by decide) (by decide) (by decide) (by decide) (L.below hW))
 clear hz
 have HPw:=hd_ (fun W (hW:Below w.heap.size w W)=>power2_dec W 2 b (by decide) (num_pw (by decide) (by omega)) (by omega) (L.below hW))
 rw[dec_two] at HPw
 have Hv:Hid (True→(loE b ps l=loE b (ps.take ps.length) (l.take ps.length))∧hiE b ps l=hiE b (ps.take ps.length) (l.take ps.length)):=fun _=>by
  rw[List.take_length,List.take_of_length_le (by omega)];exact⟨rfl,rfl⟩
 obtain⟨vlo,hvlo⟩:∃ v,loE b ps l=v:=⟨_,rfl⟩
 obtain⟨vhi,hvhi⟩:∃ v,hiE b ps l=v:=⟨_,rfl⟩
 rw[hvlo,hvhi] at Hv ⊢
 clear L hs hp hl hvlo hvhi rp rl
 obtain⟨n,hn'⟩:∃ n,ps.length=n:=⟨_,rfl⟩
 have Hn:=hd_ hn'
 rw[hn'] at hn Hv ⊢
 clear hn'
 have hp1:(ptQ b).num=1:=rfl
 have hpn:itx (ptQ b).num=⟨#[49]⟩:=by rw[hp1,show itx 1=dec 1 from itx_nat 1,dec_one]
 have hpd:dec (ptQ b).den=dec (2^b):=rfl
 have Hpf:Hid (∀ (W:World) g,W.heap[g]?=some (.cells #[.string ⟨#[49]⟩,.string (dec (2^b))] 42 (0,0))→FrAt W g (ptQ b)):=fun W g h=>by unfold FrAt;rw[hpn,hpd];exact h
 have Hpv:Hid ((Value.agg #[.string (itx (ptQ b).num),.string (dec (ptQ b).den)]) = .agg #[.string ⟨#[49]⟩,.string (dec (2^b))]):=by show _=_;rw[hpn,hpd]
 clear hp1 hpn hpd
 have hDk:D≤300:=hD
 unfold fr fv at N0 ⊢
 generalize dec (2^b)=sp at *
 go_enter Tryz.func42,Tryz.ntmps42
 go_wp2_with fail
 generalize (w.alloc (.cells #[.string ⟨#[]⟩,.string ⟨#[]⟩] 42)).alloc (.cells #[.string ⟨#[]⟩,.string ⟨#[]⟩] 42)=W0 at *
 refine cm_ (N0.out _ HT.out.bel) ?_
 rintro e w1 ⟨rfl,qa⟩
 have HT1:=hd_ (HT.out.below qa)
 clear qa HT
 go_wp2_with fail
 refine cm_ (N0.out _ HT1.out.bel) ?_
 rintro e v ⟨rfl,qa⟩
 have hw:=hd_ (HT1.out.below qa)
 clear qa HT1
 go_wp2_with fail
 have HE0:Hid (EnI v ((v.alloc (.cells #[.string (itx z.num),.string (dec z.den)] 42)).alloc (.cells #[.string (itx z.num),.string (dec z.den)] 42)) z z):=by
  have h1:=FrAt.new v z
  have h2:=FrAt.new (v.alloc (.cells #[.string (itx z.num),.string (dec z.den)] 42)) z
  refine⟨h1.below ((Below.refl _ _).alloc nr_ _),?_,((Below.refl _ _).alloc nr_ _).alloc (by simp) _⟩
  have e:(v.alloc (.cells #[.string (itx z.num),.string (dec z.den)] 42)).heap.size=v.heap.size+1:=by simp
  rw[e] at h2;exact h2
 have Hy0:Hid (v.heap.size+2≤((v.alloc (.cells #[.string (itx z.num),.string (dec z.den)] 42)).alloc (.cells #[.string (itx z.num),.string (dec z.den)] 42)).heap.size):=by show _≤_;simp
 generalize (v.alloc (.cells #[.string (itx z.num),.string (dec z.den)] 42)).alloc (.cells #[.string (itx z.num),.string (dec z.den)] 42)=W1 at *
 have hr:=hd_ hw.out.bel
 refine cm_ (HPw.out _ (hr.out.trans (HE0.out.bel.mono hr.out.size))) ?_
 rintro e w2 ⟨rfl,qa⟩
 have HE2:=hd_ (HE0.out.below (qa.alloc qa.size (.cells #[.string ⟨#[49]⟩,.string sp] 42)))
 have Hy2:Hid (v.heap.size+2≤(w2.alloc (.cells #[.string ⟨#[49]⟩,.string sp] 42)).heap.size):=by
  show _≤_
  have:=Nat.le_trans Hy0.out qa.size
  simp;omega
 have HG2:=hd_ (Hpf.out _ _ (heap_alloc_new w2 (.cells #[.string ⟨#[49]⟩,.string sp] 42)))
 obtain⟨gp,hgp⟩:∃ gp,gp=w2.heap.size:=⟨_,rfl⟩
 have Hgp:Hid (v.heap.size+2≤gp):=by show _≤_;rw[hgp];exact Nat.le_trans Hy0.out qa.size
 clear qa HE0 HPw Hy0 Hpf
 go_wp2_with fail
 rw[← hgp] at HG2 ⊢
 clear hgp
 generalize w2.alloc (.cells #[.string ⟨#[49]⟩,.string sp] 42)=w3 at *
 rw[Hz0.out] at HE2
 go_loopw [11] (fun i wr=>∃ k:Nat,k≤n∧i = .int .i64 k∧Hid (EnI v wr (loE b (ps.take k) (l.take k)) (hiE b (ps.take k) (l.take k)))∧Hid (v.heap.size+2≤wr.heap.size)∧Hid (FrAt wr gp (ptQ b))) (fun i _=>n-(intOf i).toNat)
 case atStart=>exact⟨0,Nat.zero_le _,rfl,by simpa [loE,hiE] using HE2,Hy2,HG2⟩
 case round =>
  obtain⟨k,hk,rfl,HE,Hy,HG⟩:=hrel
  clear HE2 Hy2 HG2
  by_cases hlt:k<n
  ·have hlt':(k:Int)<n:=by omega
   have hkp:k<ps.length:=by rw[Hn.out];exact hlt
   have hkl:k<l.length:=by rw[Hl.out];exact hkp
   have Hwb:=hd_ (hr.out.trans (HE.out.bel.mono hr.out.size))
   obtain⟨b0,o0,rfl,hb0,hc0⟩:=HRp.out.open (by rw[ints_length];omega)
   have Hcp:Hid (∀ W,Below w.heap.size w W→W.cell? ⟨b0,o0+k,none⟩=some (.int .i64 ps[k])):=fun W hW=>by
    rw[hW.cell (p:=⟨b0,o0+k,none⟩) hb0];exact hc0 k _ (ints_get ps k hkp)
   obtain⟨b1,o1,rfl,qa,hc1⟩:=HRl.out.open (by rw[cellsQ_length];omega)
   have Hcl:Hid (∀ W,Below w.heap.size w W→W.cell? ⟨b1,o1+k*2,none⟩=some (.string (itx l[k].num))∧W.cell? ⟨b1,o1+k*2+1,none⟩=some (.string (dec l[k].den))):=fun W hW=>by
    obtain⟨x0,x1⟩:=cellsS_rd hc1 k (by rw[List.length_map];exact hkl)
    rw[qs_getD l k hkl] at x0 x1
    rw[← hW.cell (p:=⟨b1,o1+k*2,none⟩) qa] at x0
    rw[← hW.cell (p:=⟨b1,o1+k*2+1,none⟩) qa] at x1
    exact⟨x0,x1⟩
   have hkw:IntKind.i64.wrap ((k:Int)+1)=((k+1:Nat):Int):=by rw[← Int.natCast_succ];exact iw_ _ (by omega)
   have Hst:=hd_ (ends_take b ps l k Hl.out hkp hkl)
   have Hsm:=hd_ (ends_sm (show b≤1056 by omega) Hp.out Hl.out Hs.out k (Nat.le_of_lt hkp))
   have Hcs:=hd_ (Hs.out l[k] (List.getElem_mem hkl))
   obtain⟨q,hq,hq2⟩:=Hp.out _ (List.getElem_mem hkp)
   have Hxs:=hd_ (xE_sm (p:=ps[k]) (Hp.out _ (List.getElem_mem hkp)) (show b≤1056 by omega))
   have HLo:=hd_ (fun W (hW:Below w.heap.size w W)=>low14_ok W q b hq2 hb (HL.out.below hW))
   have Hlsm:=hd_ (lg_sm hq2 hb)
   have Hln:=hd_ (lgN_le hq2 (show b≤1056 by omega))
   rw[← hq] at HLo Hlsm Hln
   have hDk2:1+k*(D+356)≤65700:=by
    have:k*(D+356)≤100*656:=Nat.mul_le_mul (by omega) (by omega)
    omega
   clear hc0 hc1 hq hq2
   generalize l[k]=c at *
   generalize ps[k]=pk at *
   obtain⟨x0,x1⟩:=Hcl.out wr Hwb.out
   have q0:=NW.cell x0
   have q1:=NW.cell x1
   have ht:Nonempty (NW wr):=⟨⟨wr,Below.refl _ _⟩⟩
   have I:Hid (Below wr.heap.size wr wr.drew):=(Below.refl _ _).drew
   clear x0 x1
   go_wp2_with fail
   refine RP.wp_region_readers 5 [(2,0),(2,1),(2,2),(1,3),(0,4),(0,5)] (fun w'=>∃ p:NW wr,w'=p.w) (by kernel_rfl) (by kernel_rfl) ?_ ?_
   ·exact⟨⟨_,I.out⟩,rfl⟩
   iterate 3 (refine RP.walkR_any ?_;simp only[dsc_,dz_,tsc_,tz_];go_big_quiet_step (fail);refine wpQuiet_nil ?_)
   refine RP.walkR_read ?_
   simp only[dsc_,dz_,tsc_,tz_];go_big_quiet_step (fail);refine wpQuiet_nil ?_
   clear ht q0 q1
   refine RP.walkR_move ?_
   simp only[dsc_,dz_,tsc_,tz_]
   go_wp2_with fail
   refine cm_ (N0.out _ (Hwb.out.trans (I.out.mono Hwb.out.size))) ?_
   rintro e w4 ⟨rfl,hf⟩
   have J:Hid (Below wr.heap.size wr w4):=I.out.trans (hf.mono I.out.size)
   clear hf I
   go_wp2_with fail
   refine⟨⟨⟨_,J.out⟩,rfl⟩,?_⟩
   refine RP.walkR_move ?_
   simp only[dsc_,dz_,tsc_,tz_]
   have hq:∀ W,(binOp .eql 42 (.agg #[.string (itx c.num),.string (dec c.den)]) (.agg #[.string (itx z.num),.string (dec z.den)])).run Tryz.prog W = .ok (.bool (decide (c=z))) W:=fun W=>by rw[eqlQ_run,qs_beq]
   have hgu:=fun W x y=>guardQ_run W .eql x y #[.string (itx c.num),.string (dec c.den)] #[.string (itx z.num),.string (dec z.den)]
   go_wp2_with fail
   clear hq hgu
   simp only[RP.walkR]
   have HE4:=hd_ (HE.out.below J.out)
   have Hy4:=hd_ (Nat.le_trans Hy.out J.out.size)
   have HG4:=hd_ (HG.out.below J.out)
   clear HE Hy HG J Hwb
   by_cases hcz:c=z
   ·rw[decide_eq_true hcz]
    have hskip:loE b (ps.take (k+1)) (l.take (k+1))=loE b (ps.take k) (l.take k)∧hiE b (ps.take (k+1)) (l.take (k+1))=hiE b (ps.take k) (l.take k):=by
     obtain⟨e1,e2⟩:=ends_skip b pk
     have:=Hst.out
     rw[hcz,Hz0.out,e1,e2,Rat.add_zero,Rat.add_zero] at this
     exact this
    have Hskip:=hd_ hskip
    clear hskip Hst Hsm Hcs Hxs HLo Hlsm Hln Hcp Hcl hcz
    go_wp2_with fail
    refine⟨⟨k+1,by omega,by go_num,by rw[Hskip.out.1,Hskip.out.2];exact HE4,Hy4,HG4⟩,by simp[intOf];omega⟩
   ·rw[decide_eq_false hcz]
    clear hcz
    have Hw4:=hd_ (hr.out.trans (HE4.out.bel.mono hr.out.size))
    have cp:=Hcp.out w4 Hw4.out
    have HL4:=HLo.out w4 Hw4.out
    go_wp2_with fail
    clear cp
    refine cm_ HL4 ?_
    rintro e w5 ⟨rfl,hf⟩
    have HE5:=hd_ (HE4.out.below hf)
    have Hy5:=hd_ (Nat.le_trans Hy4.out hf.size)
    have HG5:=hd_ (HG4.out.below hf)
    have Hw5:=hd_ (Hw4.out.trans (hf.mono Hw4.out.size))
    clear hf HL4 HE4 Hy4 HG4 Hw4 HLo
    have HA:=add2_dec w5 (lgN pk b) 1 (num_lg Hln.out hb) (num_sm (by decide)) (HL.out.below Hw5.out)
    rw[dec_one] at HA
    go_wp2_with fail
    refine cm_ HA ?_
    rintro e w6 ⟨rfl,hf⟩
    have HE6:=hd_ (HE5.out.below hf)
    have Hy6:=hd_ (Nat.le_trans Hy5.out hf.size)
    have HG6:=hd_ (HG5.out.below hf)
    have Hw6:=hd_ (Hw5.out.trans (hf.mono Hw5.out.size))
    clear hf HA HE5 Hy5 HG5 Hw5
    have cp:=Hcp.out w6 Hw6.out
    obtain⟨M,hM⟩:∃ M,LN.hiL (lf b) pk=M:=⟨_,rfl⟩
    obtain⟨T,hT⟩:∃ T,lgN pk b=T:=⟨_,rfl⟩
    have Hpx:=hd_ (ptQ_x pk b)
    have Hpy:=hd_ (ptQ_y pk b)
    have HMT:Hid ((pk=2→M=T)∧(pk≠2→M=T+1)):=by
     rw[← hM,← hT]
     unfold LN.hiL lf
     exact⟨fun h=>if_pos h,fun h=>if_neg h⟩
    rw[hT] at Hpx Hlsm Hln ⊢
    rw[hM] at Hpy Hlsm
    clear hM hT
    go_upto_if 45 with fail
    go_cut [13] from 21 to 74 (fun y wx=>y = .string (dec M)∧w6=wx)
    case first =>
     by_cases h2:pk=2
     ·have h2b:(pk==2)=true:=by rw[h2];rfl
      have e1:=hd_ (HMT.out.1 h2)
      clear h2
      go_wp2_with fail
      go_meet
      exact⟨by rw[e1.out],rfl⟩
     ·have h2b:(pk==2)=false:=by rw[beq_eq_false_iff_ne];exact h2
      have e1:=hd_ (HMT.out.2 h2)
      clear h2
      go_wp2_with fail
      go_meet
      exact⟨by rw[e1.out],rfl⟩
    case rest =>
    obtain⟨rfl,rfl⟩:=hcut
    clear cp HMT
    have HmX:=hd_ (fun W (hW:Below w.heap.size w W)=>mulR W (ptQ b) (T:Rat) 30 30 (ptQ_sm (by omega)) Hlsm.out.1 (by decide) (HL.out.below hW))
    have HmY:=hd_ (fun W (hW:Below w.heap.size w W)=>mulR W (ptQ b) (M:Rat) 30 30 (ptQ_sm (by omega)) Hlsm.out.2 (by decide) (HL.out.below hW))
    rw[Hpx.out,nat_fr] at HmX
    rw[Hpy.out,nat_fr] at HmY
    have HcX:=hd_ (fun W (hW:Below w.heap.size w W)=>mulR W c (xE pk b) D 355 Hcs.out Hxs.out.1 (by omega) (HL.out.below hW))
    have HcY:=hd_ (fun W (hW:Below w.heap.size w W)=>mulR W c (yE pk b) D 355 Hcs.out Hxs.out.2 (by omega) (HL.out.below hW))
    have Hva:=hd_ (Hcs.out.mul Hxs.out.1)
    have Hvb:=hd_ (Hcs.out.mul Hxs.out.2)
    clear Hpx Hpy Hlsm Hln Hcs Hxs Hcp
    unfold fr fv at HmX HmY HcX HcY
    generalize dec T=sT at *
    generalize dec M=sM at *
    generalize xE pk b=xq at *
    generalize yE pk b=yq at *
    go_upto_region 11 with fail
    go_cut [14] from 21 to 74 (fun y wx=>∃ g,y = .pointer (some ⟨g,0,none⟩)∧Hid (FrAt wx g (c*xq))∧Hid (w6.heap.size≤g)∧Hid (Below w6.heap.size w6 wx))
    case first =>
     obtain⟨x0,x1⟩:=Hcl.out w6 Hw6.out
     obtain⟨x2,x3,-,-⟩:=two_cells HG6.out
     have q0:=NW.cell x0
     have q1:=NW.cell x1
     have q2:=NW.cell x2
     have q3:=NW.cell x3
     have ht:Nonempty (NW w6):=⟨⟨w6,Below.refl _ _⟩⟩
     have I:Hid (Below w6.heap.size w6 w6.drew):=(Below.refl _ _).drew
     clear x0 x1 x2 x3
     go_wp2_with fail
     refine RP.wp_region_tree 10 (.rd 2 0 (.rd 2 1 (.rd 2 2 (.rd 1 3 (.rd 1 4 (.rd 2 5 (.rd 2 6 (.two 7 9 (.two 8 9 (.mv 9 (.mv 10 .nil)) (.mv 8 (.mv 10 .nil))) (.mv 7 (.mv 8 (.mv 10 .nil))))))))))) (fun w'=>∃ p:NW w6,w'=p.w) (by kernel_rfl) (by kernel_rfl) ?_ ?_
     ·exact⟨⟨_,I.out⟩,rfl⟩
     refine RP.walkT_any ?_
     simp only[dz_,tsc_,tz_]
     first | go_big_quiet_step (fail) | quiet_step (fail)
     refine wpQuiet_nil ?_
     refine RP.walkT_any ?_
     simp only[dsc_,dz_,tsc_,tz_]
     first | go_big_quiet_step (fail) | quiet_step (fail)
     refine wpQuiet_nil ?_
     refine RP.walkT_any ?_
     simp only[dsc_,dz_,tsc_,tz_]
     first | go_big_quiet_step (fail) | quiet_step (fail)
     refine wpQuiet_nil ?_
     refine RP.walkT_read ?_
     simp only[dsc_,dz_,tsc_,tz_]
     first | go_big_quiet_step (fail) | quiet_step (fail)
     refine wpQuiet_nil ?_
     refine RP.walkT_read ?_
     simp only[dsc_,dz_,tsc_,tz_]
     first | go_big_quiet_step (fail) | quiet_step (fail)
     refine wpQuiet_nil ?_
     refine RP.walkT_any ?_
     simp only[dsc_,dz_,tsc_,tz_]
     first | go_big_quiet_step (fail) | quiet_step (fail)
     refine wpQuiet_nil ?_
     refine RP.walkT_any ?_
     simp only[dsc_,dz_,tsc_,tz_]
     first | go_big_quiet_step (fail) | quiet_step (fail)
     refine wpQuiet_nil ?_
     clear ht q0 q1 q2 q3
     refine RP.walkT_two ?_ ?_
     ·simp only[dsc_,dz_,tsc_,tz_]
      go_wp2_with fail
      refine cm_ (HmX.out _ (Hw6.out.trans (I.out.mono Hw6.out.size))) ?_
      rintro e_ y1 ⟨rfl,ha⟩
      have W_y1:Hid (Below w6.heap.size w6 y1):=I.out.trans (ha.mono I.out.size)
      clear ha
      go_wp2_with fail
      refine⟨⟨⟨_,W_y1.out⟩,rfl⟩,?_⟩
      refine RP.walkT_two ?_ ?_
      ·simp only[dsc_,dz_,tsc_,tz_]
       go_wp2_with fail
       refine cm_ (HcX.out _ (Hw6.out.trans (W_y1.out.mono Hw6.out.size))) ?_
       rintro e_ y2 ⟨rfl,ha⟩
       have W_y2:Hid (Below w6.heap.size w6 y2):=W_y1.out.trans (ha.mono W_y1.out.size)
       clear ha
       go_wp2_with fail
       refine⟨⟨⟨_,W_y2.out⟩,rfl⟩,?_⟩
       refine RP.walkT_move ?_
       simp only[dsc_,dz_,tsc_,tz_]
       go_wp2_with fail
       have W_y3:=hd_ (W_y2.out.alloc W_y2.out.size (.cells #[.string ⟨#[]⟩,.string ⟨#[]⟩] 42))
       have N_y3:Hid ((y2.alloc (.cells #[.string ⟨#[]⟩,.string ⟨#[]⟩] 42)).heap[y2.heap.size]?=some (.cells #[.string ⟨#[]⟩,.string ⟨#[]⟩] 42 (0,0))):=heap_alloc_new y2 _
       refine⟨⟨⟨_,W_y3.out⟩,rfl⟩,?_⟩
       obtain⟨g,hg⟩:∃ g,g=y2.heap.size:=⟨_,rfl⟩
       rw[← hg] at N_y3 ⊢
       have G_y3:Hid (w6.heap.size≤g):=by show _≤_;rw[hg];exact W_y2.out.size
       clear hg
       generalize y2.alloc (.cells #[.string ⟨#[]⟩,.string ⟨#[]⟩] 42)=y3 at *
       refine RP.walkT_move ?_
       simp only[dsc_,dz_,tsc_,tz_]
       obtain⟨n0,n1,f0,f1⟩:=two_cells N_y3.out
       go_wp2_with fail
       simp only[RP.walkT]
       have F9:Hid (FrAt ((y3.setCell ⟨g,0,none⟩ (.string (itx (c*xq).num))).setCell ⟨g,1,none⟩ (.string (dec (c*xq).den))) g (c*xq)):=two_set N_y3.out
       have W9:=hd_ ((W_y3.out.setCell (p:=⟨g,0,none⟩) G_y3.out (.string (itx (c*xq).num))).setCell (p:=⟨g,1,none⟩) G_y3.out (.string (dec (c*xq).den)))
       clear n0 n1 f0 f1
       generalize (y3.setCell ⟨g,0,none⟩ (.string (itx (c*xq).num))).setCell ⟨g,1,none⟩ (.string (dec (c*xq).den))=w9 at *
       go_wp2_with fail
       go_meet
       exact⟨g,rfl,F9,G_y3,W9⟩
      ·simp only[dsc_,dz_,tsc_,tz_]
       go_wp2_with fail
       have W_y4:=hd_ (W_y1.out.alloc W_y1.out.size (.cells #[.string ⟨#[]⟩,.string ⟨#[]⟩] 42))
       have N_y4:Hid ((y1.alloc (.cells #[.string ⟨#[]⟩,.string ⟨#[]⟩] 42)).heap[y1.heap.size]?=some (.cells #[.string ⟨#[]⟩,.string ⟨#[]⟩] 42 (0,0))):=heap_alloc_new y1 _
       refine⟨⟨⟨_,W_y4.out⟩,rfl⟩,?_⟩
       obtain⟨g,hg⟩:∃ g,g=y1.heap.size:=⟨_,rfl⟩
       rw[← hg] at N_y4 ⊢
       have G_y4:Hid (w6.heap.size≤g):=by show _≤_;rw[hg];exact W_y1.out.size
       clear hg
       generalize y1.alloc (.cells #[.string ⟨#[]⟩,.string ⟨#[]⟩] 42)=y4 at *
       refine RP.walkT_move ?_
       simp only[dsc_,dz_,tsc_,tz_]
       go_wp2_with fail
       refine cm_ (HcX.out _ (Hw6.out.trans (W_y4.out.mono Hw6.out.size))) ?_
       rintro e_ y5 ⟨rfl,ha⟩
       have W_y5:Hid (Below w6.heap.size w6 y5):=W_y4.out.trans (ha.mono W_y4.out.size)
       have N_y5:=hd_ (heap_kept N_y4.out ha nr_)
       clear ha
       go_wp2_with fail
       refine⟨⟨⟨_,W_y5.out⟩,rfl⟩,?_⟩
       refine RP.walkT_move ?_
       simp only[dsc_,dz_,tsc_,tz_]
       obtain⟨n0,n1,f0,f1⟩:=two_cells N_y5.out
       go_wp2_with fail
       simp only[RP.walkT]
       have F9:Hid (FrAt ((y5.setCell ⟨g,0,none⟩ (.string (itx (c*xq).num))).setCell ⟨g,1,none⟩ (.string (dec (c*xq).den))) g (c*xq)):=two_set N_y5.out
       have W9:=hd_ ((W_y5.out.setCell (p:=⟨g,0,none⟩) G_y4.out (.string (itx (c*xq).num))).setCell (p:=⟨g,1,none⟩) G_y4.out (.string (dec (c*xq).den)))
       clear n0 n1 f0 f1
       generalize (y5.setCell ⟨g,0,none⟩ (.string (itx (c*xq).num))).setCell ⟨g,1,none⟩ (.string (dec (c*xq).den))=w9 at *
       go_wp2_with fail
       go_meet
       exact⟨g,rfl,F9,G_y4,W9⟩
     ·simp only[dsc_,dz_,tsc_,tz_]
      go_wp2_with fail
      have W_y6:Hid (Below w6.heap.size w6 (w6.alloc (.cells #[.string ⟨#[]⟩,.string ⟨#[]⟩] 42)).drew):=below_dn ((Below.refl _ _).alloc nr_ _) 1
      have N_y6:Hid ((w6.alloc (.cells #[.string ⟨#[]⟩,.string ⟨#[]⟩] 42)).drew.heap[w6.heap.size]?=some (.cells #[.string ⟨#[]⟩,.string ⟨#[]⟩] 42 (0,0))):=heap_alloc_new w6 _
      have G_y6:Hid (w6.heap.size≤w6.heap.size):=Nat.le_refl _
      refine⟨⟨⟨_,W_y6.out⟩,rfl⟩,?_⟩
      obtain⟨g,hg⟩:∃ g,g=w6.heap.size:=⟨_,rfl⟩
      rw[← hg] at N_y6 ⊢
      replace G_y6:Hid (w6.heap.size≤g):=Nat.le_of_eq hg.symm
      clear hg
      generalize (w6.alloc (.cells #[.string ⟨#[]⟩,.string ⟨#[]⟩] 42)).drew=y6 at *
      refine RP.walkT_move ?_
      simp only[dsc_,dz_,tsc_,tz_]
      go_wp2_with fail
      refine cm_ (HmX.out _ (Hw6.out.trans (W_y6.out.mono Hw6.out.size))) ?_
      rintro e_ y7 ⟨rfl,ha⟩
      have W_y7:Hid (Below w6.heap.size w6 y7):=W_y6.out.trans (ha.mono W_y6.out.size)
      have N_y7:=hd_ (heap_kept N_y6.out ha nr_)
      clear ha
      go_wp2_with fail
      refine⟨⟨⟨_,W_y7.out⟩,rfl⟩,?_⟩
      refine RP.walkT_move ?_
      simp only[dsc_,dz_,tsc_,tz_]
      go_wp2_with fail
      refine cm_ (HcX.out _ (Hw6.out.trans (W_y7.out.mono Hw6.out.size))) ?_
      rintro e_ y8 ⟨rfl,ha⟩
      have W_y8:Hid (Below w6.heap.size w6 y8):=W_y7.out.trans (ha.mono W_y7.out.size)
      have N_y8:=hd_ (heap_kept N_y7.out ha nr_)
      clear ha
      go_wp2_with fail
      refine⟨⟨⟨_,W_y8.out⟩,rfl⟩,?_⟩
      refine RP.walkT_move ?_
      simp only[dsc_,dz_,tsc_,tz_]
      obtain⟨n0,n1,f0,f1⟩:=two_cells N_y8.out
      go_wp2_with fail
      simp only[RP.walkT]
      have F9:Hid (FrAt ((y8.setCell ⟨g,0,none⟩ (.string (itx (c*xq).num))).setCell ⟨g,1,none⟩ (.string (dec (c*xq).den))) g (c*xq)):=two_set N_y8.out
      have W9:=hd_ ((W_y8.out.setCell (p:=⟨g,0,none⟩) G_y6.out (.string (itx (c*xq).num))).setCell (p:=⟨g,1,none⟩) G_y6.out (.string (dec (c*xq).den)))
      clear n0 n1 f0 f1
      generalize (y8.setCell ⟨g,0,none⟩ (.string (itx (c*xq).num))).setCell ⟨g,1,none⟩ (.string (dec (c*xq).den))=w9 at *
      go_wp2_with fail
      go_meet
      exact⟨g,rfl,F9,G_y6,W9⟩
    case rest =>
    obtain⟨ga,rfl,FA7,hga_,hf⟩:=hcut
    have HE7:=hd_ (HE6.out.below hf.out)
    have Hy7:=hd_ (Nat.le_trans Hy6.out hf.out.size)
    have HG7:=hd_ (HG6.out.below hf.out)
    have Hw7:=hd_ (Hw6.out.trans (hf.out.mono Hw6.out.size))
    have Hga:Hid (v.heap.size+2≤ga):=Nat.le_trans Hy6.out hga_.out
    clear hf HE6 Hy6 HG6 Hw6 HmX HcX hga_
    obtain⟨w7,hw7⟩:∃ w7,w7=wc:=⟨_,rfl⟩
    subst hw7
    go_upto_region 12 with fail
    go_cut [15] from 21 to 74 (fun y wx=>∃ g,y = .pointer (some ⟨g,0,none⟩)∧Hid (FrAt wx g (c*yq))∧Hid (w7.heap.size≤g)∧Hid (Below w7.heap.size w7 wx))
    case first =>
     obtain⟨x0,x1⟩:=Hcl.out w7 Hw7.out
     obtain⟨x2,x3,-,-⟩:=two_cells HG7.out
     have q0:=NW.cell x0
     have q1:=NW.cell x1
     have q2:=NW.cell x2
     have q3:=NW.cell x3
     have ht:Nonempty (NW w7):=⟨⟨w7,Below.refl _ _⟩⟩
     have I:Hid (Below w7.heap.size w7 w7.drew):=(Below.refl _ _).drew
     clear x0 x1 x2 x3
     go_wp2_with fail
     refine RP.wp_region_tree 10 (.rd 2 0 (.rd 2 1 (.rd 2 2 (.rd 1 3 (.rd 1 4 (.rd 2 5 (.rd 2 6 (.two 7 9 (.two 8 9 (.mv 9 (.mv 10 .nil)) (.mv 8 (.mv 10 .nil))) (.mv 7 (.mv 8 (.mv 10 .nil))))))))))) (fun w'=>∃ p:NW w7,w'=p.w) (by kernel_rfl) (by kernel_rfl) ?_ ?_
     ·exact⟨⟨_,I.out⟩,rfl⟩
     refine RP.walkT_any ?_
     simp only[dz_,tsc_,tz_]
     first | go_big_quiet_step (fail) | quiet_step (fail)
     refine wpQuiet_nil ?_
     refine RP.walkT_any ?_
     simp only[dsc_,dz_,tsc_,tz_]
     first | go_big_quiet_step (fail) | quiet_step (fail)
     refine wpQuiet_nil ?_
     refine RP.walkT_any ?_
     simp only[dsc_,dz_,tsc_,tz_]
     first | go_big_quiet_step (fail) | quiet_step (fail)
     refine wpQuiet_nil ?_
     refine RP.walkT_read ?_
     simp only[dsc_,dz_,tsc_,tz_]
     first | go_big_quiet_step (fail) | quiet_step (fail)
     refine wpQuiet_nil ?_
     refine RP.walkT_read ?_
     simp only[dsc_,dz_,tsc_,tz_]
     first | go_big_quiet_step (fail) | quiet_step (fail)
     refine wpQuiet_nil ?_
     refine RP.walkT_any ?_
     simp only[dsc_,dz_,tsc_,tz_]
     first | go_big_quiet_step (fail) | quiet_step (fail)
     refine wpQuiet_nil ?_
     refine RP.walkT_any ?_
     simp only[dsc_,dz_,tsc_,tz_]
     first | go_big_quiet_step (fail) | quiet_step (fail)
     refine wpQuiet_nil ?_
     clear ht q0 q1 q2 q3
     refine RP.walkT_two ?_ ?_
     ·simp only[dsc_,dz_,tsc_,tz_]
      go_wp2_with fail
      refine cm_ (HmY.out _ (Hw7.out.trans (I.out.mono Hw7.out.size))) ?_
      rintro e_ y1 ⟨rfl,ha⟩
      have W_y1:Hid (Below w7.heap.size w7 y1):=I.out.trans (ha.mono I.out.size)
      clear ha
      go_wp2_with fail
      refine⟨⟨⟨_,W_y1.out⟩,rfl⟩,?_⟩
      refine RP.walkT_two ?_ ?_
      ·simp only[dsc_,dz_,tsc_,tz_]
       go_wp2_with fail
       refine cm_ (HcY.out _ (Hw7.out.trans (W_y1.out.mono Hw7.out.size))) ?_
       rintro e_ y2 ⟨rfl,ha⟩
       have W_y2:Hid (Below w7.heap.size w7 y2):=W_y1.out.trans (ha.mono W_y1.out.size)
       clear ha
       go_wp2_with fail
       refine⟨⟨⟨_,W_y2.out⟩,rfl⟩,?_⟩
       refine RP.walkT_move ?_
       simp only[dsc_,dz_,tsc_,tz_]
       go_wp2_with fail
       have W_y3:=hd_ (W_y2.out.alloc W_y2.out.size (.cells #[.string ⟨#[]⟩,.string ⟨#[]⟩] 42))
       have N_y3:Hid ((y2.alloc (.cells #[.string ⟨#[]⟩,.string ⟨#[]⟩] 42)).heap[y2.heap.size]?=some (.cells #[.string ⟨#[]⟩,.string ⟨#[]⟩] 42 (0,0))):=heap_alloc_new y2 _
       refine⟨⟨⟨_,W_y3.out⟩,rfl⟩,?_⟩
       obtain⟨g,hg⟩:∃ g,g=y2.heap.size:=⟨_,rfl⟩
       rw[← hg] at N_y3 ⊢
       have G_y3:Hid (w7.heap.size≤g):=by show _≤_;rw[hg];exact W_y2.out.size
       clear hg
       generalize y2.alloc (.cells #[.string ⟨#[]⟩,.string ⟨#[]⟩] 42)=y3 at *
       refine RP.walkT_move ?_
       simp only[dsc_,dz_,tsc_,tz_]
       obtain⟨n0,n1,f0,f1⟩:=two_cells N_y3.out
       go_wp2_with fail
       simp only[RP.walkT]
       have F9:Hid (FrAt ((y3.setCell ⟨g,0,none⟩ (.string (itx (c*yq).num))).setCell ⟨g,1,none⟩ (.string (dec (c*yq).den))) g (c*yq)):=two_set N_y3.out
       have W9:=hd_ ((W_y3.out.setCell (p:=⟨g,0,none⟩) G_y3.out (.string (itx (c*yq).num))).setCell (p:=⟨g,1,none⟩) G_y3.out (.string (dec (c*yq).den)))
       clear n0 n1 f0 f1
       generalize (y3.setCell ⟨g,0,none⟩ (.string (itx (c*yq).num))).setCell ⟨g,1,none⟩ (.string (dec (c*yq).den))=w9 at *
       go_wp2_with fail
       go_meet
       exact⟨g,rfl,F9,G_y3,W9⟩
      ·simp only[dsc_,dz_,tsc_,tz_]
       go_wp2_with fail
       have W_y4:=hd_ (W_y1.out.alloc W_y1.out.size (.cells #[.string ⟨#[]⟩,.string ⟨#[]⟩] 42))
       have N_y4:Hid ((y1.alloc (.cells #[.string ⟨#[]⟩,.string ⟨#[]⟩] 42)).heap[y1.heap.size]?=some (.cells #[.string ⟨#[]⟩,.string ⟨#[]⟩] 42 (0,0))):=heap_alloc_new y1 _
       refine⟨⟨⟨_,W_y4.out⟩,rfl⟩,?_⟩
       obtain⟨g,hg⟩:∃ g,g=y1.heap.size:=⟨_,rfl⟩
       rw[← hg] at N_y4 ⊢
       have G_y4:Hid (w7.heap.size≤g):=by show _≤_;rw[hg];exact W_y1.out.size
       clear hg
       generalize y1.alloc (.cells #[.string ⟨#[]⟩,.string ⟨#[]⟩] 42)=y4 at *
       refine RP.walkT_move ?_
       simp only[dsc_,dz_,tsc_,tz_]
       go_wp2_with fail
       refine cm_ (HcY.out _ (Hw7.out.trans (W_y4.out.mono Hw7.out.size))) ?_
       rintro e_ y5 ⟨rfl,ha⟩
       have W_y5:Hid (Below w7.heap.size w7 y5):=W_y4.out.trans (ha.mono W_y4.out.size)
       have N_y5:=hd_ (heap_kept N_y4.out ha nr_)
       clear ha
       go_wp2_with fail
       refine⟨⟨⟨_,W_y5.out⟩,rfl⟩,?_⟩
       refine RP.walkT_move ?_
       simp only[dsc_,dz_,tsc_,tz_]
       obtain⟨n0,n1,f0,f1⟩:=two_cells N_y5.out
       go_wp2_with fail
       simp only[RP.walkT]
       have F9:Hid (FrAt ((y5.setCell ⟨g,0,none⟩ (.string (itx (c*yq).num))).setCell ⟨g,1,none⟩ (.string (dec (c*yq).den))) g (c*yq)):=two_set N_y5.out
       have W9:=hd_ ((W_y5.out.setCell (p:=⟨g,0,none⟩) G_y4.out (.string (itx (c*yq).num))).setCell (p:=⟨g,1,none⟩) G_y4.out (.string (dec (c*yq).den)))
       clear n0 n1 f0 f1
       generalize (y5.setCell ⟨g,0,none⟩ (.string (itx (c*yq).num))).setCell ⟨g,1,none⟩ (.string (dec (c*yq).den))=w9 at *
       go_wp2_with fail
       go_meet
       exact⟨g,rfl,F9,G_y4,W9⟩
     ·simp only[dsc_,dz_,tsc_,tz_]
      go_wp2_with fail
      have W_y6:Hid (Below w7.heap.size w7 (w7.alloc (.cells #[.string ⟨#[]⟩,.string ⟨#[]⟩] 42)).drew):=below_dn ((Below.refl _ _).alloc nr_ _) 1
      have N_y6:Hid ((w7.alloc (.cells #[.string ⟨#[]⟩,.string ⟨#[]⟩] 42)).drew.heap[w7.heap.size]?=some (.cells #[.string ⟨#[]⟩,.string ⟨#[]⟩] 42 (0,0))):=heap_alloc_new w7 _
      have G_y6:Hid (w7.heap.size≤w7.heap.size):=Nat.le_refl _
      refine⟨⟨⟨_,W_y6.out⟩,rfl⟩,?_⟩
      obtain⟨g,hg⟩:∃ g,g=w7.heap.size:=⟨_,rfl⟩
      rw[← hg] at N_y6 ⊢
      replace G_y6:Hid (w7.heap.size≤g):=Nat.le_of_eq hg.symm
      clear hg
      generalize (w7.alloc (.cells #[.string ⟨#[]⟩,.string ⟨#[]⟩] 42)).drew=y6 at *
      refine RP.walkT_move ?_
      simp only[dsc_,dz_,tsc_,tz_]
      go_wp2_with fail
      refine cm_ (HmY.out _ (Hw7.out.trans (W_y6.out.mono Hw7.out.size))) ?_
      rintro e_ y7 ⟨rfl,ha⟩
      have W_y7:Hid (Below w7.heap.size w7 y7):=W_y6.out.trans (ha.mono W_y6.out.size)
      have N_y7:=hd_ (heap_kept N_y6.out ha nr_)
      clear ha
      go_wp2_with fail
      refine⟨⟨⟨_,W_y7.out⟩,rfl⟩,?_⟩
      refine RP.walkT_move ?_
      simp only[dsc_,dz_,tsc_,tz_]
      go_wp2_with fail
      refine cm_ (HcY.out _ (Hw7.out.trans (W_y7.out.mono Hw7.out.size))) ?_
      rintro e_ y8 ⟨rfl,ha⟩
      have W_y8:Hid (Below w7.heap.size w7 y8):=W_y7.out.trans (ha.mono W_y7.out.size)
      have N_y8:=hd_ (heap_kept N_y7.out ha nr_)
      clear ha
      go_wp2_with fail
      refine⟨⟨⟨_,W_y8.out⟩,rfl⟩,?_⟩
      refine RP.walkT_move ?_
      simp only[dsc_,dz_,tsc_,tz_]
      obtain⟨n0,n1,f0,f1⟩:=two_cells N_y8.out
      go_wp2_with fail
      simp only[RP.walkT]
      have F9:Hid (FrAt ((y8.setCell ⟨g,0,none⟩ (.string (itx (c*yq).num))).setCell ⟨g,1,none⟩ (.string (dec (c*yq).den))) g (c*yq)):=two_set N_y8.out
      have W9:=hd_ ((W_y8.out.setCell (p:=⟨g,0,none⟩) G_y6.out (.string (itx (c*yq).num))).setCell (p:=⟨g,1,none⟩) G_y6.out (.string (dec (c*yq).den)))
      clear n0 n1 f0 f1
      generalize (y8.setCell ⟨g,0,none⟩ (.string (itx (c*yq).num))).setCell ⟨g,1,none⟩ (.string (dec (c*yq).den))=w9 at *
      go_wp2_with fail
      go_meet
      exact⟨g,rfl,F9,G_y6,W9⟩
    case rest =>
    obtain⟨gb,rfl,FB8,hgb_,hf⟩:=hcut
    obtain⟨w8,hw8⟩:∃ w8,w8=wc:=⟨_,rfl⟩
    subst hw8
    have HE8:=hd_ (HE7.out.below hf.out)
    have Hy8:=hd_ (Nat.le_trans Hy7.out hf.out.size)
    have HG8:=hd_ (HG7.out.below hf.out)
    have FA8:=hd_ (FA7.out.below hf.out)
    have Hw8:=hd_ (Hw7.out.trans (hf.out.mono Hw7.out.size))
    clear hf HE7 Hy7 HG7 Hw7 HmY HcY hgb_ FA7 Hcl
    obtain⟨k0,k1,-,-⟩:=two_cells HE8.out.e0
    obtain⟨k2,k3,-,-⟩:=two_cells HE8.out.e1
    obtain⟨k4,k5,-,-⟩:=two_cells FA8.out
    obtain⟨k6,k7,-,-⟩:=two_cells FB8.out
    have q0:=NW.cell k0
    have q1:=NW.cell k1
    have q2:=NW.cell k2
    have q3:=NW.cell k3
    have q4:=NW.cell k4
    have q5:=NW.cell k5
    have q6:=NW.cell k6
    have q7:=NW.cell k7
    have ht:Nonempty (NW w8):=⟨⟨w8,Below.refl _ _⟩⟩
    have I:Hid (Below w8.heap.size w8 w8.drew):=(Below.refl _ _).drew
    have HLa:=hd_ (fun X (hX:Below w8.heap.size w8 X)=>HL.out.below (Hw8.out.trans (hX.mono Hw8.out.size)))
    have Hmn:=hd_ (fun X hX=>minR_ok X (c*xq) (c*yq) (D+355) (D+355) Hva.out Hvb.out (by omega) (HLa.out X hX))
    have Hmx:=hd_ (fun X hX=>maxR_ok X (c*xq) (c*yq) (D+355) (D+355) Hva.out Hvb.out (by omega) (HLa.out X hX))
    have Had:=hd_ (fun X hX=>addR X _ _ _ _ Hsm.out.1 (minR_sm Hva.out Hvb.out) (by omega) (HLa.out X hX))
    have Had2:=hd_ (fun X hX=>addR X _ _ _ _ Hsm.out.2 (maxR_sm Hva.out Hvb.out) (by omega) (HLa.out X hX))
    rw[← Hst.out.1] at Had
    rw[← Hst.out.2] at Had2
    clear HLa Hst Hsm Hva Hvb
    unfold fr fv at Hmn Hmx Had Had2
    generalize c*xq=va at *
    generalize c*yq=vb at *
    go_wp2_with fail
    clear k0 k1 k2 k3 k4 k5 k6 k7
    refine RP.wp_region_readers 10 [(1,0),(1,1),(1,2),(1,5),(1,6),(1,7),(0,3),(0,4),(0,8),(0,9),(0,10),(0,11)] (fun w'=>∃ p:NW w8,w'=p.w) (by kernel_rfl) (by kernel_rfl) ?_ ?_
    ·exact⟨⟨_,I.out⟩,rfl⟩
    iterate 6 (refine RP.walkR_read ?_;simp only[dsc_,dz_,tsc_,tz_];go_big_quiet_step (fail);refine wpQuiet_nil ?_)
    clear q0 q1 q2 q3 q4 q5 q6 q7 ht
    refine RP.walkR_move ?_
    simp only[dsc_,dz_,tsc_,tz_]
    go_wp2_with fail
    refine cm_ (Hmn.out _ I.out) ?_
    rintro e x1 ⟨rfl,hf⟩
    have J1:Hid (Below w8.heap.size w8 x1):=I.out.trans (hf.mono I.out.size)
    clear hf I Hmn
    go_wp2_with fail
    refine⟨⟨⟨_,J1.out⟩,rfl⟩,?_⟩
    refine RP.walkR_move ?_
    simp only[dsc_,dz_,tsc_,tz_]
    go_wp2_with fail
    refine cm_ (Had.out _ J1.out) ?_
    rintro e x2 ⟨rfl,hf⟩
    have J2:Hid (Below w8.heap.size w8 x2):=J1.out.trans (hf.mono J1.out.size)
    clear hf J1 Had
    go_wp2_with fail
    refine⟨⟨⟨_,J2.out⟩,rfl⟩,?_⟩
    refine RP.walkR_move ?_
    simp only[dsc_,dz_,tsc_,tz_]
    go_wp2_with fail
    refine cm_ (Hmx.out _ J2.out) ?_
    rintro e x3 ⟨rfl,hf⟩
    have J3:Hid (Below w8.heap.size w8 x3):=J2.out.trans (hf.mono J2.out.size)
    clear hf J2 Hmx
    go_wp2_with fail
    refine⟨⟨⟨_,J3.out⟩,rfl⟩,?_⟩
    refine RP.walkR_move ?_
    simp only[dsc_,dz_,tsc_,tz_]
    go_wp2_with fail
    refine cm_ (Had2.out _ J3.out) ?_
    rintro e x4 ⟨rfl,hf⟩
    have J4:Hid (Below w8.heap.size w8 x4):=J3.out.trans (hf.mono J3.out.size)
    clear hf J3 Had2
    go_wp2_with fail
    refine⟨⟨⟨_,J4.out⟩,rfl⟩,?_⟩
    have HEx:=hd_ (HE8.out.below J4.out)
    have Hyx:=hd_ (Nat.le_trans Hy8.out J4.out.size)
    have HGx:=hd_ (HG8.out.below J4.out)
    obtain⟨k0,k1,f0,f1⟩:=two_cells HEx.out.e0
    obtain⟨k2,k3,f2,f3⟩:=two_cells HEx.out.e1
    have HEp:=hd_ (HEx.out.put (loE b (ps.take (k+1)) (l.take (k+1))) (hiE b (ps.take (k+1)) (l.take (k+1))))
    have Hyp:Hid (v.heap.size+2≤(putEnds x4 v.heap.size (loE b (ps.take (k+1)) (l.take (k+1))) (hiE b (ps.take (k+1)) (l.take (k+1)))).heap.size):=by
     show _≤_
     unfold putEnds
     rw[World.size_setCell,World.size_setCell,World.size_setCell,World.size_setCell]
     exact Hyx.out
    have HGp:Hid (FrAt (putEnds x4 v.heap.size (loE b (ps.take (k+1)) (l.take (k+1))) (hiE b (ps.take (k+1)) (l.take (k+1)))) gp (ptQ b)):=by
     unfold putEnds
     exact FrAt.set (FrAt.set HGx.out (by have:=Hgp.out;omega) _ _) (by have:=Hgp.out;omega) _ _
    unfold putEnds at HEp Hyp HGp
    clear HEx J4 Hyx HGx HE8 Hy8 HG8
    refine RP.walkR_move ?_
    simp only[dsc_,dz_,tsc_,tz_]
    go_wp2_with fail
    refine RP.walkR_move ?_
    simp only[dsc_,dz_,tsc_,tz_]
    go_wp2_with fail
    simp only[RP.walkR]
    go_wp2_with fail
    refine⟨⟨k+1,by omega,by go_num,HEp,Hyp,HGp⟩,by simp[intOf];omega⟩
  ·obtain rfl:k=n:=by omega
   have hlt':¬ (k:Int)<k:=by omega
   have hvv:=Hv.out trivial
   rw[← hvv.1,← hvv.2] at HE
   clear hvv Hv HG
   have HRu:Hid (RsI w v.heap.size (v.heap.size+1) vlo vhi wr):=by
    have hsz:=Nat.succ_le_of_lt (Array.getElem?_eq_some_iff.1 hw.out.e1).1
    have h0:=HE.out.bel.block _ (Array.getElem?_eq_some_iff.1 hw.out.e0).1
    have h1:=HE.out.bel.block _ (Array.getElem?_eq_some_iff.1 hw.out.e1).1
    exact⟨⟨_,_,h0.trans hw.out.e0⟩,⟨_,_,h1.trans hw.out.e1⟩,HE.out.e0,HE.out.e1,hsz,by omega,hr.out.trans (HE.out.bel.mono hr.out.size)⟩
   have HR:=hd_ (HRu.out.drew 1)
   have hcl:∀ p:RsW w v.heap.size (v.heap.size+1) vlo vhi,p.w.cell? ⟨v.heap.size,0,none⟩=some (.string (itx vlo.num)):=fun p=>(two_cells p.h.a).1
   have hcl1:∀ p:RsW w v.heap.size (v.heap.size+1) vlo vhi,p.w.cell? ⟨v.heap.size,1,none⟩=some (.string (dec vlo.den)):=fun p=>(two_cells p.h.a).2.1
   have hcl2:∀ p:RsW w v.heap.size (v.heap.size+1) vlo vhi,p.w.cell? ⟨v.heap.size+1,0,none⟩=some (.string (itx vhi.num)):=fun p=>(two_cells p.h.b).1
   have hcl3:∀ p:RsW w v.heap.size (v.heap.size+1) vlo vhi,p.w.cell? ⟨v.heap.size+1,1,none⟩=some (.string (dec vhi.den)):=fun p=>(two_cells p.h.b).2.1
   have ht:Nonempty (RsW w v.heap.size (v.heap.size+1) vlo vhi):=⟨⟨_,HR.out⟩⟩
   go_wp2_with fail
   refine RP.wp_region_readers 3 [(1,0),(1,1),(0,2),(0,3)] (fun w'=>∃ p:RsW w v.heap.size (v.heap.size+1) vlo vhi,w'=p.w) (by kernel_rfl) (by kernel_rfl) ?_ ?_
   ·exact⟨⟨_,HR.out⟩,rfl⟩
   iterate 2 (refine RP.walkR_read ?_;simp only[dsc_,dz_,tsc_,tz_];go_big_quiet_step (fail);refine wpQuiet_nil ?_)
   clear ht hcl hcl1 hcl2 hcl3 HE
   obtain⟨x0,y0,e0⟩:=HRu.out.r0
   obtain⟨k0,k1,f0,f1⟩:=two_cells e0
   have H0:=hd_ (obj_pair e0 (.string (itx vlo.num)) (.string (dec vlo.den)))
   have HR1:=hd_ ((HRu.out.put0 (.string (itx vlo.num)) (.string (dec vlo.den))).drew 1)
   refine RP.walkR_move ?_
   simp only[dsc_,dz_,tsc_,tz_]
   go_wp2_with fail
   refine⟨⟨⟨_,HR1.out⟩,rfl⟩,?_⟩
   clear k0 k1 f0 f1 e0 HR HRu
   have HR2:Hid (RsI w v.heap.size (v.heap.size+1) vlo vhi ((wr.setCell ⟨w.heap.size,0,none⟩ (.string (itx vlo.num))).setCell ⟨w.heap.size,1,none⟩ (.string (dec vlo.den))).drew):=HR1.out
   replace H0:Hid (((wr.setCell ⟨w.heap.size,0,none⟩ (.string (itx vlo.num))).setCell ⟨w.heap.size,1,none⟩ (.string (dec vlo.den))).drew.heap[w.heap.size]?=some (.cells #[.string (itx vlo.num),.string (dec vlo.den)] 42 (0,0))):=H0.out
   generalize ((wr.setCell ⟨w.heap.size,0,none⟩ (.string (itx vlo.num))).setCell ⟨w.heap.size,1,none⟩ (.string (dec vlo.den))).drew=wz at *
   obtain⟨x1,y1,e1⟩:=HR2.out.r1
   obtain⟨k2,k3,f2,f3⟩:=two_cells e1
   have H1:=hd_ (obj_pair e1 (.string (itx vhi.num)) (.string (dec vhi.den)))
   have H0':=hd_ (obj_pair_other H0.out (g:=w.heap.size+1) (by omega) (.string (itx vhi.num)) (.string (dec vhi.den)))
   have B9:=hd_ ((HR2.out.bel.setCell (p:=⟨w.heap.size+1,0,none⟩) (Nat.le_succ _) (.string (itx vhi.num))).setCell (p:=⟨w.heap.size+1,1,none⟩) (Nat.le_succ _) (.string (dec vhi.den)))
   refine RP.walkR_move ?_
   simp only[dsc_,dz_,tsc_,tz_]
   go_wp2_with fail
   simp only[RP.walkR]
   clear k2 k3 f2 f3 e1 HR1 HR2
   generalize (wz.setCell ⟨w.heap.size+1,0,none⟩ (.string (itx vhi.num))).setCell ⟨w.heap.size+1,1,none⟩ (.string (dec vhi.den))=w9 at *
   obtain⟨c0',c1',-,-⟩:=two_cells H0'.out
   obtain⟨c2',c3',-,-⟩:=two_cells H1.out
   go_wp2_with fail
   exact bodyPost_ret (v := .tuple #[.agg #[.string (itx vlo.num),.string (dec vlo.den)],.agg #[.string (itx vhi.num),.string (dec vhi.den)]]) (by simp[results,Tryz.results42,go_sem,c0',c1',c2',c3']) rfl ⟨rfl,B9.out⟩
  end Go.Proofs.YtnjedhgcfeoemaaGreatDoor

namespace Go.Proofs.YtnjedhgcfeoemaaGreatDoor
open Go.RowKit
theorem primesL_odd:∀ k,k<10→∀ p∈primesL k,p=p.toNat∧(p.toNat=2∨p.toNat∈oddP):=by decide +kernel
theorem ends_smA{k D:Nat}(hk:k≤1056){ps:List Int}{l:List Rat}(hp:∀ p∈ps,∃ q:Nat,p=q∧(q=2∨q∈oddP))(hl:l.length=ps.length)(hs:∀ q∈l,Sm D q)(h4:ps.length≤4)(hD:D≤100):Sm 2000 (loE k ps l)∧Sm 2000 (hiE k ps l):=by
 obtain⟨e1,e2⟩:=ends_sm hk hp hl hs ps.length nr_
 rw[List.take_length,← hl,List.take_length] at e1 e2
 have:1+l.length*(D+356)≤2000:=by
  rw[hl]
  have:=Nat.mul_le_mul h4 (show D+356≤456 by omega)
  omega
 exact⟨e1.le this,e2.le this⟩
theorem ends_two(f:Int→Nat):∀ tl:List (Int×Int),(∀ x∈tl,x.1=2)→LN.eLo f tl=LN.eHi f tl
 | [],_=>rfl
 | x::tl,h=>by
  rw[eLo_cons,eHi_cons,ends_two f tl fun y hy=>h y (List.mem_cons_of_mem _ hy)]
  have e:LN.hiL f x.1=f x.1:=by unfold LN.hiL;rw[if_pos (h x List.mem_cons_self)]
  rw[e]
theorem near_comb{T0 T1 J:Int}{m G U V:Nat}(hB:(T1-m*T0).natAbs≤V)(hA:(G*T0-J).natAbs≤U):(G*T1-J*m).natAbs≤G*V+m*U:=by
 have e:G*T1-J*m=G*(T1-m*T0)+m*(G*T0-J):=by grind
 rw[e]
 have h1:((G:Int)*(T1-m*T0)).natAbs≤G*V:=by rw[Int.natAbs_mul,Int.natAbs_natCast];exact Nat.mul_le_mul_left _ hB
 have h2:((m:Int)*(G*T0-J)).natAbs≤m*U:=by rw[Int.natAbs_mul,Int.natAbs_natCast];exact Nat.mul_le_mul_left _ hA
 have h3:=Int.natAbs_add_le ((G:Int)*(T1-m*T0)) (m*(G*T0-J))
 omega
theorem near_mid{lo hi T0 J:Int}{G W:Nat}(h3:hi≤T0+W)(h4:T0≤lo+W)(hlo:G*lo<J)(hhi:J≤G*hi):(G*T0-J).natAbs≤G*W:=by
 have a1:(G:Int)*hi≤G*(T0+W):=Int.mul_le_mul_of_nonneg_left h3 (by omega)
 have a2:(G:Int)*T0≤G*(lo+W):=Int.mul_le_mul_of_nonneg_left h4 (by omega)
 rw[Int.mul_add] at a1 a2
 have e:(G:Int)*W=((G*W:Nat):Int):=by rw[Int.natCast_mul]
 rw[e] at a1 a2
 generalize (G:Int)*hi=x at *
 generalize (G:Int)*lo=y at *
 generalize (G:Int)*T0=t at *
 generalize G*W=g at *
 omega
theorem mid_le{lo hi J:Int}{G X:Nat}(h1:lo.natAbs≤X)(h2:hi.natAbs≤X)(hlo:G*lo<J)(hhi:J≤G*hi):J.natAbs≤G*X:=by
 have a1:(G:Int)*hi≤G*(X:Int):=Int.mul_le_mul_of_nonneg_left (by omega) (by omega)
 have a2:(G:Int)*(-(X:Int))≤G*lo:=Int.mul_le_mul_of_nonneg_left (by omega) (by omega)
 have e:(G:Int)*X=((G*X:Nat):Int):=by rw[Int.natCast_mul]
 rw[Int.mul_neg] at a2
 rw[e] at a1 a2
 generalize (G:Int)*hi=x at *
 generalize (G:Int)*lo=y at *
 generalize G*X=g at *
 omega
theorem cent_num:2400000000000*4096+(2400000000000*393216)*12*1≤LN.KA∧2400000000000*(6*(4096*16777216))+16777216*(2400000000000*(6*4096))<LN.SA:=by decide +kernel
theorem cents_gap{tl:List (Int×Int)}{n G d:Nat}{j:Int}(hn:n+24=1024)(h1:∀ x∈tl,x.1∈smallP)(h0:∀ x∈tl,x.2≠0)(hd:(tl.map Prod.fst).Nodup)(hk:∀ x∈tl,x.2.natAbs≤4096)(hl:tl.length≤6)
  (hG0:0<G) (hG:G≤2400000000000) (hd0:0<d) (hd12:d≤12)
  (hlo:G*LN.eLo (lf n) tl<j*d*((lf n 2:Nat):Int)) (hhi:j*d*((lf n 2:Nat):Int)≤G*LN.eHi (lf n) tl):False:=by
 obtain⟨-,-,n3,n4⟩:=ends_near (lf n) 4096 tl hk
 have hcut:=sumT_cut (n:=n) (d:=24) (K:=4096) (by omega) tl (fun x hx=>small_all (h1 x hx)) hk
 have hX:=eSum_le (n:=n) (E:=13) (by omega) tl (fun x hx=>allP_pr (small_all (h1 x hx))) (fun x hx=>Nat.lt_of_le_of_lt (hk x hx) (by decide))
 have hP:lf n 2=2^n:=lgN_two n
 have e1:((2:Nat)^24)=16777216:=by decide
 have hP2:lf 1024 2=2^n*16777216:=by rw[← hn,← e1];exact(lgN_two (n+24)).trans (Nat.pow_add 2 n 24)
 have hP3:(2:Nat)^(13+(n+3))=65536*2^n:=by
  rw[show 13+(n+3)=16+n by omega,Nat.pow_add]
 have hP0:0<(2:Nat)^n:=Nat.two_pow_pos n
 have e2:((2:Int)^24)=((16777216:Nat):Int):=by decide
 rw[hn,e1,e2] at hcut
 rw[hP3] at hX
 rw[hP] at hlo hhi
 generalize (2:Nat)^n=P at *
 clear hP hP3 e1 e2
 have hW:tl.length*4096≤6*4096:=Nat.mul_le_mul_right _ hl
 have hW2:tl.length*(4096*16777216)≤6*(4096*16777216):=Nat.mul_le_mul_right _ hl
 have hX1:tl.length*(65536*P)≤393216*P:=by
  have:=Nat.mul_le_mul_right (65536*P) hl
  omega
 have hA:=near_mid n3 n4 hlo hhi
 have hB:=near_comb (m:=16777216) hcut hA
 have hJ:=mid_le (Nat.le_trans hX.1 hX1) (Nat.le_trans hX.2 hX1) hlo hhi
 have hj:j.natAbs≤2400000000000*393216:=by
  rw[Int.natAbs_mul,Int.natAbs_mul,Int.natAbs_natCast,Int.natAbs_natCast] at hJ
  have q1:j.natAbs*1*P≤j.natAbs*d*P:=Nat.mul_le_mul_right _ (Nat.mul_le_mul_left _ hd0)
  have q2:G*(393216*P)≤2400000000000*393216*P:=by rw[Nat.mul_assoc 2400000000000];exact Nat.mul_le_mul_right _ hG
  rw[Nat.mul_one] at q1
  exact Nat.le_of_mul_le_mul_right (Nat.le_trans q1 (Nat.le_trans hJ q2)) hP0
 obtain⟨c1,c2⟩:=cent_num
 have hsmall:((G:Int)*LN.sumT (lf 1024) tl-j*d*LN.sumT (lf 1024) [((2:Int),(1:Int))]).natAbs<LN.SA:=by
  have e3:LN.sumT (lf 1024) [((2:Int),(1:Int))]=((P*16777216:Nat):Int):=by
   show (1:Int)*((lf 1024 2:Nat):Int)+0=_
   rw[hP2,Int.one_mul,Int.add_zero]
  have e4:j*d*((P*16777216:Nat):Int)=j*d*(P:Int)*((16777216:Nat):Int):=by rw[Int.natCast_mul,Int.mul_assoc (j*d)]
  rw[e3,e4]
  have q1:G*(tl.length*(4096*16777216))≤2400000000000*(6*(4096*16777216)):=Nat.mul_le_mul hG hW2
  have q2:16777216*(G*(tl.length*4096))≤16777216*(2400000000000*(6*4096)):=Nat.mul_le_mul_left _ (Nat.mul_le_mul hG hW)
  exact Nat.lt_of_le_of_lt (Nat.le_trans hB (Nat.add_le_add q1 q2)) c2
 have hc:=coefs_small (pr:=smallP) smallP_nd smallZ (tx:=tl) (ty:=[((2:Int),(1:Int))]) (d:=d) (g:=G) (Kx:=4096) (Ky:=1) (R:=2400000000000*393216) (j:=j) h1
  (by intro x hx;obtain rfl:=List.mem_singleton.1 hx;decide) hd (by simp) hk (by intro x hx;obtain rfl:=List.mem_singleton.1 hx;decide) hj
  (by
   have q1:G*4096≤2400000000000*4096:=Nat.mul_le_mul_right _ hG
   have q2:2400000000000*393216*d*1≤2400000000000*393216*12*1:=Nat.mul_le_mul_right _ (Nat.mul_le_mul_left _ hd12)
   exact Nat.le_trans (Nat.add_le_add q1 q2) c1) hsmall
 have htwo:∀ x∈tl,x.1=2:=fun x hx=>by
  refine Decidable.byContradiction fun hne=>h0 x hx ?_
  have h5:=hc x.1 (h1 x hx)
  rw[LN.coefP_mem tl hd x hx,LN.coefP_none x.1 [((2:Int),(1:Int))] (by simpa using hne),Int.mul_zero] at h5
  rcases Int.mul_eq_zero.1 h5 with h6|h6
  ·omega
  ·exact h6
 rw[ends_two (lf n) tl htwo] at hlo
 omega
theorem cent_nat{k:Nat}(hk:k≤9):0<1200*10^k∧1200*10^k≤1200000000000:=by
 have h1:10^k≤10^9:=Nat.pow_le_pow_right (by decide) hk
 have h2:0<10^k:=Nat.pow_pos (by decide)
 omega
theorem same_at{n k:Nat}(hn:n+24=1024){ps:List Int}{l:List Rat}(hk:k≤9)(h1:∀ p∈ps,p∈smallP)(h2:ps.Nodup)(h6:ps.length≤6)(hs:Sml 4096 12 l):sameC k (loE n ps l) (hiE n ps l)=true:=by
 refine sameC_iff.2 ?_
 have hle:=scE_mono (k:=k) (ends_le n ps l)
 refine Int.le_antisymm hle (Int.not_lt.1 fun hlt=>?_)
 obtain⟨N0,hN⟩:=cent_nat hk
 obtain⟨z,hz⟩:∃ z,scE k (hiE n ps l)=z:=⟨_,rfl⟩
 have hD:=LN.tden_pos' l
 have hD12:=hs.den
 obtain⟨e1,e2⟩:=ends_rat hD n ps l fun q hq=>LN.tden_dvd hq
 have hDr:(0:Rat)<(tden l:Rat):=Rat.natCast_pos.2 hD
 have hPr:=two_pow_pos_rat n
 have hPe:((lf n 2:Nat):Rat)=2^n:=by
  rw[show lf n 2=2^n from lgN_two n,two_pow_rat]
 rw[hz] at hlt
 unfold scE nearR at hlt hz
 have b1:=Rat.floor_lt_iff.1 hlt
 have b2:=Rat.floor_le (hiE n ps l*((1200*10^k:Nat):Rat)+1/2)
 rw[hz] at b2
 generalize hNN:1200*10^k=N at *
 have hGc:(((2*N:Nat):Int):Rat)=2*(N:Rat):=by rw[Rat.intCast_natCast,Rat.natCast_mul];rfl
 have hJc:(((2*z-1)*((tden l:Nat):Int)*((lf n 2:Nat):Int):Int):Rat)=(2*(z:Rat)-1)*(tden l:Rat)*2^n:=by
  rw[Rat.intCast_mul,Rat.intCast_mul,Rat.intCast_sub,Rat.intCast_mul,Rat.intCast_natCast,Rat.intCast_natCast,hPe];rfl
 have hDP:(0:Rat)<(tden l:Rat)*2^n:=Rat.mul_pos hDr hPr
 refine cents_gap hn (tl:=tlQ ps l) (G:=2*N) (d:=tden l) (j:=2*z-1) (fun x hx=>h1 _ (tlist_mem hx).1) (fun x hx=>tlQ_nz hx) (tlQ_nodup h2) (hs.kb (by decide)) (tlQ_len6 h6 l) (by omega) (by omega) hD hD12 ?_ ?_
 ·refine Rat.intCast_lt_intCast.1 ?_
  rw[Rat.intCast_mul (2*N:Nat),hGc,hJc]
  unfold tlQ
  rw[e1]
  have b3:=Rat.mul_lt_mul_of_pos_right b1 hDP
  generalize (tden l:Rat)=D at *
  generalize (2:Rat)^n=P at *
  grind
 ·refine Rat.intCast_le_intCast.1 ?_
  rw[Rat.intCast_mul (2*N:Nat),hGc,hJc]
  unfold tlQ
  rw[e2]
  have b3:=Rat.mul_le_mul_of_nonneg_right b2 (Rat.le_of_lt hDP)
  generalize (tden l:Rat)=D at *
  generalize (2:Rat)^n=P at *
  grind
theorem same_some{k:Nat}{ps:List Int}{l:List Rat}(hk:k≤9)(h1:∀ p∈ps,p∈smallP)(h2:ps.Nodup)(h6:ps.length≤6)(hs:Sml 4096 12 l):sameC k (loE 1000 ps l) (hiE 1000 ps l)=true:=same_at rfl hk h1 h2 h6 hs
theorem least_here{T:Nat→Bool}(hm:∀ n,n<1000→T n=true→T (n+1)=true){n b:Nat}(h:LeastN T n)(hb:T b=true)(hlow:∀ j,j<b→T j=false):n=b:=by
 refine LeastN.uniq hm h ⟨hb,?_,?_⟩
 ·rcases Nat.eq_zero_or_pos b with h0 | h0
  ·exact .inl h0
  ·exact .inr (hlow (b-1) (by omega))
 ·refine Nat.le_of_not_lt fun hc=>?_
  have h1:=hlow n (by have:=h.le;omega)
  rw[h.at_] at h1
  cases h1
theorem least_far{T:Nat→Bool}{n m:Nat}(h:LeastN T n)(hlow:∀ j,j<m→T j=false):m≤n:=by
 refine Nat.le_of_not_lt fun hc=>?_
 have h1:=hlow n hc
 rw[h.at_] at h1
 cases h1
theorem lawNar(w:World)(pn bn:Nat)(nA:Nat→Int)(dA:Nat→Nat)(hpn:pn<256)(hbn:bn<256)(hnA:∀ k,-128≤nA k∧nA k≤127)(hdA:∀ k,dA k<256)(L:Laid w):
  Gives Tryz.prog 8 #[.int .u8 pn,.agg (partsV nA dA),.int .u8 bn] w (.bool true):=by
 unfold Gives
 have hp:=primesL_ok (pn%10) (Nat.mod_lt _ (by decide))
 have hps:=primesL_small (pn%10) (Nat.mod_lt _ (by decide))
 have hod:=primesL_odd (pn%10) (Nat.mod_lt _ (by decide))
 have HPr:=hd_ (fun W=>primes_any W pn hpn)
 generalize primesL (pn%10)=ps at *
 obtain⟨hp0,hp4,hp1,hp2⟩:=hp
 obtain⟨hq1,hq2⟩:=hps
 have hp100:ps.length≤100:=by omega
 have hi:I64s ps:=fun x hx=>by have:=hp2 x hx;omega
 have HK:Hid (∀ W,Below w.heap.size w W→Gives Tryz.prog 15 #[] W (.bool true)):=fun W hW=>known14_ok W (L.below hW)
 have HA:Hid (∀ W a0 c0,Below w.heap.size w W→Calls Tryz.prog 33 #[.slice a0 ps.length c0,.agg #[.int .i8 (nA 0),.int .u8 (dA 0),.int .i8 (nA 1),.int .u8 (dA 1),.int .i8 (nA 2),.int .u8 (dA 2),.int .i8 (nA 3),.int .u8 (dA 3)]] W fun e w'=>∃ a c,e = .returned (.slice a ps.length c)∧Rd w' a (cellsQ (partsQ nA dA ps.length))∧Below W.heap.size W w'):=fun W a0 c0 hW=>by
  refine cm_ (make_any W a0 c0 ps.length hp4 nA dA hnA hdA (L.below hW)) ?_
  rintro e w' ⟨a,c,rfl,ho,hb⟩
  exact⟨a,c,rfl,ho.rd,hb⟩
 have la1:=partsQ_length nA dA ps.length
 have sa:=partsQ_sm nA dA ps.length
 have ma:=partsQ_sml nA dA ps.length
 generalize partsQ nA dA ps.length=la at *
 have hpp:∀ p∈ps,∃ q:Nat,p=q∧(q=2∨q∈oddP):=fun p hp=>⟨p.toNat,hod p hp⟩
 obtain⟨k,hk⟩:∃ k,bn%4=k:=⟨_,rfl⟩
 have hkb:k<4:=by omega
 have r2:Int.tmod (bn:Int) 4=(k:Nat):=by rw[Int.tmod_eq_emod_of_nonneg (by omega)];omega
 have r2':(bn:Int)%4=(k:Nat):=by omega
 have ew2:IntKind.i64.wrap (k:Int)=(k:Int):=iw_ _ (by omega)
 obtain⟨N,hN⟩:∃ N,1200*10^k=N:=⟨_,rfl⟩
 have hNb:N≤1200000:=by
  have:10^k≤10^3:=Nat.pow_le_pow_right (by decide) (by omega)
  omega
 have hend:=same_some (k:=k) (by omega) hq1 hq2 (by omega) (ma.le (show 480≤4096 by decide))
 have H1:=hd_ (fun W a0 a1 c0 c1 (hW:Below w.heap.size w W) (r0:Rd W a0 (ints ps)) (r1:Rd W a1 (cellsQ la))=>narrow_any W a0 a1 c0 c1 ps.length ps.length 0 (k:Int) (Q:=fun m _=>∃ n:Nat,m=n∧LeastN (fun b=>sameC k (loE b ps la) (hiE b ps la)) n) ((certain_ok W a0 a1 c0 c1 2 k ps la r0 r1 hi la1 hp100 hpp sa (by decide) hp0 (by omega) hend (L.below hW)).mono fun e w' h=>by
  obtain⟨n,he,hl,hb⟩:=h
  exact⟨n,_,he,⟨n,rfl,hl⟩,hb⟩))
 have H2:=hd_ (fun W (hW:Below w.heap.size w W)=>power2_dec W 10 k (by decide) (num_pw (by decide) (by omega)) (by omega) (L.below hW))
 have h10:dec 10=⟨#[49,48]⟩:=by
  have:(dec 10).data = #[49,48]:=by decide +kernel
  exact ByteArray.ext this
 have h1200:dec 1200=⟨#[49,50,48,48]⟩:=by
  have:(dec 1200).data = #[49,50,48,48]:=by decide +kernel
  exact ByteArray.ext this
 rw[h10] at H2
 have H3:=hd_ (fun W (hW:Below w.heap.size w W)=>mul2_dec W 1200 (10^k) (num_sm (by decide)) (num_pw (p:=10) (by decide) (by omega)) (L.below hW))
 rw[h1200,hN] at H3
 have H4:=hd_ (fun W a0 a1 c0 c1 b (hb:b≤60) (hW:Below w.heap.size w W) (r0:Rd W a0 (ints ps)) (r1:Rd W a1 (cellsQ la))=>enclose14_ok W a0 a1 c0 c1 2 b ps la r0 r1 la1 hp100 hpp sa (by decide) (by omega) (L.below hW))
 have hSm:∀ b,b≤60→Sm 2000 (loE b ps la)∧Sm 2000 (hiE b ps la):=fun b hb=>ends_smA (k:=b) (by omega) hpp la1 sa hp4 (by decide)
 have hNs:Sm 8 (N:Rat):=nat_sm (by omega) (by decide)
 have HM1:=hd_ (fun W b (hb:b≤60) (hW:Below w.heap.size w W)=>mulR W (loE b ps la) (N:Rat) 2000 8 (hSm b hb).1 hNs (by decide) (L.below hW))
 have HM2:=hd_ (fun W b (hb:b≤60) (hW:Below w.heap.size w W)=>mulR W (hiE b ps la) (N:Rat) 2000 8 (hSm b hb).2 hNs (by decide) (L.below hW))
 have HN1:=hd_ (fun W b (hb:b≤60) (hW:Below w.heap.size w W)=>nearR_ok W (loE b ps la*(N:Rat)) 2008 ((hSm b hb).1.mul hNs) (by decide) (L.below hW))
 have HN2:=hd_ (fun W b (hb:b≤60) (hW:Below w.heap.size w W)=>nearR_ok W (hiE b ps la*(N:Rat)) 2008 ((hSm b hb).2.mul hNs) (by decide) (L.below hW))
 rw[nat_fr] at HM1 HM2
 obtain⟨T,hT⟩:∃ T:Nat→Bool,T=fun b=>sameC k (loE b ps la) (hiE b ps la):=⟨_,rfl⟩
 have HTe:Hid (∀ b,((itx (nearR (loE b ps la*(N:Rat)))).toList==(itx (nearR (hiE b ps la*(N:Rat)))).toList)=T b):=fun b=>by
  rw[hT]
  show _=sameC k (loE b ps la) (hiE b ps la)
  unfold sameC scE
  rw[hN]
 have Hmono:Hid (∀ n,n<1000→T n=true→T (n+1)=true):=fun n hn h=>by
  rw[hT] at h ⊢
  exact(sc_one hpp (by omega) (by omega) h (Nat.le_succ n)).2
 rw[← hT] at H1
 clear hT hend hSm hNs h10 h1200 hN L la1 sa ma hq1 hq2 hp0 hp1 hp2 hp4 hp100 hpn hbn hnA hdA hod hi hpp hk
 unfold fr fv at H4 HM1 HM2 HN1 HN2
 generalize dec N=sN at *
 generalize dec (10^k)=s10 at *
 obtain⟨n,hn⟩:∃ n,ps.length=n:=⟨_,rfl⟩
 rw[hn] at HPr HA H1 H4
 clear hn
 unfold partsV
 have B:=hd_ ((Below.refl w.heap.size w).alloc nr_ (.cells #[.int .i8 (nA 0),.int .u8 (dA 0),.int .i8 (nA 1),.int .u8 (dA 1),.int .i8 (nA 2),.int .u8 (dA 2),.int .i8 (nA 3),.int .u8 (dA 3)] 61))
 have P0:Hid ((w.alloc (.cells #[.int .i8 (nA 0),.int .u8 (dA 0),.int .i8 (nA 1),.int .u8 (dA 1),.int .i8 (nA 2),.int .u8 (dA 2),.int .i8 (nA 3),.int .u8 (dA 3)] 61)).heap[w.heap.size]?=some (.cells #[.int .i8 (nA 0),.int .u8 (dA 0),.int .i8 (nA 1),.int .u8 (dA 1),.int .i8 (nA 2),.int .u8 (dA 2),.int .i8 (nA 3),.int .u8 (dA 3)] 61 (0,0))):=heap_alloc_new w _
 go_enter Tryz.func8,Tryz.ntmps8
 go_wp2_with fail
 generalize w.alloc (.cells #[.int .i8 (nA 0),.int .u8 (dA 0),.int .i8 (nA 1),.int .u8 (dA 1),.int .i8 (nA 2),.int .u8 (dA 2),.int .i8 (nA 3),.int .u8 (dA 3)] 61)=w0 at *
 refine cm_ (HK.out _ B.out) ?_
 rintro e_ v1 ⟨rfl,ha⟩
 replace P0:=hd_ (heap_kept P0.out ha nr_)
 replace B:=hd_ (B.out.trans (ha.mono B.out.size))
 clear ha  HK
 go_wp2_with fail
 refine cm_ (HPr.out _) ?_
 rintro e_ v2 ⟨gp,rfl,rp_,ha⟩
 replace P0:=hd_ (heap_kept P0.out ha nr_)
 replace B:=hd_ (B.out.trans (ha.mono B.out.size))
 have Rp:=hd_ rp_
 clear ha rp_ HPr
 have p0:v2.cell? ⟨w.heap.size,0,none⟩=some (.int .i8 (nA 0)):=by rw[cell_of_row _ _ _ _ _ _ P0.out];rfl
 have p1:v2.cell? ⟨w.heap.size,1,none⟩=some (.int .u8 (dA 0)):=by rw[cell_of_row _ _ _ _ _ _ P0.out];rfl
 have p2:v2.cell? ⟨w.heap.size,2,none⟩=some (.int .i8 (nA 1)):=by rw[cell_of_row _ _ _ _ _ _ P0.out];rfl
 have p3:v2.cell? ⟨w.heap.size,3,none⟩=some (.int .u8 (dA 1)):=by rw[cell_of_row _ _ _ _ _ _ P0.out];rfl
 have p4:v2.cell? ⟨w.heap.size,4,none⟩=some (.int .i8 (nA 2)):=by rw[cell_of_row _ _ _ _ _ _ P0.out];rfl
 have p5:v2.cell? ⟨w.heap.size,5,none⟩=some (.int .u8 (dA 2)):=by rw[cell_of_row _ _ _ _ _ _ P0.out];rfl
 have p6:v2.cell? ⟨w.heap.size,6,none⟩=some (.int .i8 (nA 3)):=by rw[cell_of_row _ _ _ _ _ _ P0.out];rfl
 have p7:v2.cell? ⟨w.heap.size,7,none⟩=some (.int .u8 (dA 3)):=by rw[cell_of_row _ _ _ _ _ _ P0.out];rfl
 go_wp2_with fail
 clear p0 p1 p2 p3 p4 p5 p6 p7
 refine cm_ (HA.out _ _ _ B.out) ?_
 rintro e_ v3 ⟨aa,ca,rfl,ra_,ha⟩
 replace P0:=hd_ (heap_kept P0.out ha nr_)
 replace Rp:=hd_ (Rp.out.below ha nr_)
 replace B:=hd_ (B.out.trans (ha.mono B.out.size))
 have Ra:=hd_ ra_
 clear ha ra_ HA P0
 go_wp2_with fail
 refine cm_ (H1.out _ _ _ _ _ B.out Rp.out Ra.out) ?_
 rintro e_ v4 ⟨m_,s_,rfl,⟨nn,rfl,hl_⟩,ha⟩
 replace Rp:=hd_ (Rp.out.below ha nr_)
 replace Ra:=hd_ (Ra.out.below ha nr_)
 replace B:=hd_ (B.out.trans (ha.mono B.out.size))
 have HLe:=hd_ hl_
 clear ha hl_ H1
 have hnnb:=HLe.out.le
 go_wp2_with fail
 refine cm_ (H2.out _ B.out) ?_
 rintro e_ v5 ⟨rfl,ha⟩
 replace Rp:=hd_ (Rp.out.below ha nr_)
 replace Ra:=hd_ (Ra.out.below ha nr_)
 replace B:=hd_ (B.out.trans (ha.mono B.out.size))
 clear ha  H2
 go_wp2_with fail
 refine cm_ (H3.out _ B.out) ?_
 rintro e_ v6 ⟨rfl,ha⟩
 replace Rp:=hd_ (Rp.out.below ha nr_)
 replace Ra:=hd_ (Ra.out.below ha nr_)
 replace B:=hd_ (B.out.trans (ha.mono B.out.size))
 clear ha  H3
 have S0:Hid ((v6.alloc (.cells #[.string sN,.string ⟨#[49]⟩] 42)).heap[v6.heap.size]?=some (.cells #[.string sN,.string ⟨#[49]⟩] 42 (0,0))):=heap_alloc_new v6 _
 have hal_:Below v6.heap.size v6 (v6.alloc (.cells #[.string sN,.string ⟨#[49]⟩] 42)):=(Below.refl _ _).alloc nr_ _
 replace Rp:=hd_ (Rp.out.below hal_ nr_)
 replace Ra:=hd_ (Ra.out.below hal_ nr_)
 replace B:=hd_ (B.out.trans (hal_.mono B.out.size))
 clear hal_
 go_wp2_with fail
 generalize v6.alloc (.cells #[.string sN,.string ⟨#[49]⟩] 42)=ws at *
 generalize v6.heap.size=gs at *
 go_loopw [13] (fun i wr=>∃ b:Nat,b≤61∧i = .int .i64 b∧Hid (∀ j,j<b→T j=false)∧Hid (Below ws.heap.size ws wr)) (fun i _=>61-(intOf i).toNat)
 case atStart=>exact⟨0,by omega,rfl,fun j hj=>absurd hj (Nat.not_lt_zero j),Below.refl _ _⟩
 case round =>
  obtain⟨b,hb,rfl,HJ,HW⟩:=hrel
  by_cases hlt:b≤60
  ·have hlt':(b:Int)≤60:=by omega
   have hbw:IntKind.i64.wrap ((b:Int)+1)=((b+1:Nat):Int):=by rw[← Int.natCast_succ];exact iw_ _ (by omega)
   have Bw:=hd_ (B.out.trans (HW.out.mono B.out.size))
   have K4:=hd_ (fun W a0 a1 c0 c1=>H4.out W a0 a1 c0 c1 b hlt)
   have KM1:=hd_ (fun W=>HM1.out W b hlt)
   have KM2:=hd_ (fun W=>HM2.out W b hlt)
   have KN1:=hd_ (fun W=>HN1.out W b hlt)
   have KN2:=hd_ (fun W=>HN2.out W b hlt)
   have hte:=HTe.out b
   have Hhere:Hid (T b=true→nn=b):=fun h=>least_here Hmono.out HLe.out h HJ.out
   have Hnext:Hid (T b=false→∀ j,j<b+1→T j=false):=fun h j hj=>by
    rcases Nat.lt_or_ge j b with h1|h1
    ·exact HJ.out j h1
    ·obtain rfl:j=b:=by omega
     exact h
   clear H4 HM1 HM2 HN1 HN2 HTe Hmono HLe HJ
   generalize loE b ps la*(N:Rat)=qx at *
   generalize hiE b ps la*(N:Rat)=qy at *
   generalize loE b ps la=lo at *
   generalize hiE b ps la=hi1 at *
   generalize itx (nearR qx)=sx at *
   generalize itx (nearR qy)=sy at *
   go_wp2_with fail
   refine cm_ (K4.out _ _ _ _ _ Bw.out (Rp.out.below HW.out nr_) (Ra.out.below HW.out nr_)) ?_
   rintro e_ x1 ⟨rfl,ha⟩
   have D1:=hd_ (HW.out.trans (ha.mono HW.out.size))
   clear ha K4 Bw HW
   have hs_:(x1.alloc (.cells #[.string (itx lo.num),.string (dec lo.den)] 42)).heap.size=x1.heap.size+1:=by simp
   have F1:=hd_ (heap_old (heap_at x1 #[.string (itx lo.num),.string (dec lo.den)] 42 _ rfl) (.cells #[.string (itx hi1.num),.string (dec hi1.den)] 42))
   have F2:Hid (((x1.alloc (.cells #[.string (itx lo.num),.string (dec lo.den)] 42)).alloc (.cells #[.string (itx hi1.num),.string (dec hi1.den)] 42)).heap[x1.heap.size+1]?=some (.cells #[.string (itx hi1.num),.string (dec hi1.den)] 42 (0,0))):=by show _=_;rw[← hs_];exact heap_alloc_new _ _
   have D2:=hd_ ((D1.out.alloc D1.out.size (.cells #[.string (itx lo.num),.string (dec lo.den)] 42)).alloc (by rw[hs_];exact Nat.le_succ_of_le D1.out.size) (.cells #[.string (itx hi1.num),.string (dec hi1.den)] 42))
   clear hs_ D1
   go_upto_region 14 with fail
   generalize (x1.alloc (.cells #[.string (itx lo.num),.string (dec lo.den)] 42)).alloc (.cells #[.string (itx hi1.num),.string (dec hi1.den)] 42)=x2 at *
   obtain⟨g1,hg1⟩:∃ g,g=x1.heap.size:=⟨_,rfl⟩
   rw[← hg1] at F1 F2 ⊢
   clear hg1
   have F3:=hd_ (heap_kept S0.out D2.out nr_)
   obtain⟨k0,k1,-,-⟩:=two_cells F1.out
   obtain⟨k2,k3,-,-⟩:=two_cells F2.out
   obtain⟨k4,k5,-,-⟩:=two_cells F3.out
   have q0:=NW.cell k0
   have q1:=NW.cell k1
   have q2:=NW.cell k2
   have q3:=NW.cell k3
   have q4:=NW.cell k4
   have q5:=NW.cell k5
   have ht:Nonempty (NW x2):=⟨⟨x2,Below.refl _ _⟩⟩
   have I:Hid (Below x2.heap.size x2 x2.drew):=(Below.refl _ _).drew
   have Bx:=hd_ (B.out.trans (D2.out.mono B.out.size))
   clear k0 k1 k2 k3 k4 k5 F1 F2 F3
   go_wp2_with fail
   refine RP.wp_region_readers 8 [(1,0),(1,1),(1,4),(1,5),(0,2),(0,3),(0,6),(0,7),(0,8)] (fun w'=>∃ p:NW x2,w'=p.w) (by kernel_rfl) (by kernel_rfl) ?_ ?_
   ·exact⟨⟨_,I.out⟩,rfl⟩
   refine RP.walkR_read ?_
   simp only[dz_,tsc_,tz_]
   go_big_quiet_step (fail);refine wpQuiet_nil ?_
   iterate 3 (refine RP.walkR_read ?_;simp only[dsc_,dz_,tsc_,tz_];go_big_quiet_step (fail);refine wpQuiet_nil ?_)
   clear ht q0 q1 q2 q3 q4 q5
   refine RP.walkR_move ?_
   simp only[dsc_,dz_,tsc_,tz_]
   go_wp2_with fail
   refine cm_ (KM1.out _ (Bx.out.trans (I.out.mono Bx.out.size))) ?_
   rintro e_ y0 ⟨rfl,ha⟩
   have J0:Hid (Below x2.heap.size x2 y0):=I.out.trans (ha.mono I.out.size)
   clear ha KM1 I
   go_wp2_with fail
   refine⟨⟨⟨_,J0.out⟩,rfl⟩,?_⟩
   refine RP.walkR_move ?_
   simp only[dsc_,dz_,tsc_,tz_]
   go_wp2_with fail
   refine cm_ (KN1.out _ (Bx.out.trans (J0.out.mono Bx.out.size))) ?_
   rintro e_ y1 ⟨rfl,ha⟩
   have J1:Hid (Below x2.heap.size x2 y1):=J0.out.trans (ha.mono J0.out.size)
   clear ha KN1 J0
   go_wp2_with fail
   refine⟨⟨⟨_,J1.out⟩,rfl⟩,?_⟩
   refine RP.walkR_move ?_
   simp only[dsc_,dz_,tsc_,tz_]
   go_wp2_with fail
   refine cm_ (KM2.out _ (Bx.out.trans (J1.out.mono Bx.out.size))) ?_
   rintro e_ y2 ⟨rfl,ha⟩
   have J2:Hid (Below x2.heap.size x2 y2):=J1.out.trans (ha.mono J1.out.size)
   clear ha KM2 J1
   go_wp2_with fail
   refine⟨⟨⟨_,J2.out⟩,rfl⟩,?_⟩
   refine RP.walkR_move ?_
   simp only[dsc_,dz_,tsc_,tz_]
   go_wp2_with fail
   refine cm_ (KN2.out _ (Bx.out.trans (J2.out.mono Bx.out.size))) ?_
   rintro e_ y3 ⟨rfl,ha⟩
   have J3:Hid (Below x2.heap.size x2 y3):=J2.out.trans (ha.mono J2.out.size)
   clear ha KN2 J2
   go_wp2_with fail
   refine⟨⟨⟨_,J3.out⟩,rfl⟩,?_⟩
   have D3:=hd_ (D2.out.trans (J3.out.mono D2.out.size))
   clear J3 D2 Bx
   refine RP.walkR_move ?_
   simp only[dsc_,dz_,tsc_,tz_]
   cases ha:T b with
   | true =>
    rw[ha] at hte
    have hnb:=Hhere.out ha
    have hnb':((nn:Int)==(b:Int))=true:=by rw[hnb];exact beq_self_eq_true _
    have D4:=hd_ (B.out.trans (D3.out.mono B.out.size))
    clear ha hnb Hhere Hnext
    go_wp2_with fail
    simp only[RP.walkR]
    go_wp2_with fail
    go_ret
    exact⟨rfl,D4.out⟩
   | false =>
    rw[ha] at hte
    have HJ2:=hd_ (Hnext.out ha)
    clear ha Hhere Hnext
    go_wp2_with fail
    simp only[RP.walkR]
    go_wp2_with fail
    exact⟨⟨b+1,by omega,by go_num,HJ2,D3⟩,by simp[intOf];omega⟩
  ·obtain rfl:b=61:=by omega
   have hfar:=least_far HLe.out HJ.out
   have hgt:(60:Int)<nn:=by omega
   have hlt':¬ (((61:Nat):Int))≤60:=by omega
   have D4:=hd_ (B.out.trans (HW.out.mono B.out.size))
   clear HJ HLe Hmono HTe hfar
   go_wp2_with fail
   go_ret
   exact⟨rfl,D4.out⟩
end Go.Proofs.YtnjedhgcfeoemaaGreatDoor

namespace Go.Proofs.YtnjedhgcfeoemaaGreatDoor
open Go.ChangeShapes Go.WideShapes Go.ChangeAt Go.RowKit
theorem enclosureNarrows_lifted(os:Os)(started:os.Started)(H:Type)(enc:TypeId×Value→H):
  ReturnsInHanded {} Tryz.checked os 8 .any (fun w args=>(Rows.enclosureNarrowsSpec.pre enc Tryz.prog Tryz.f8 [] false w args∧laidMetH Tryz.prog laidL w)∧sizedMet enc Tryz.prog Tryz.f8 (OpenSpec.ofChange Rows.enclosureNarrowsSpec) false w args)
   (Rows.enclosureNarrowsSpec.post enc Tryz.prog Tryz.f8 false true false false):=by
 refine returnsInHanded_of_change_and (C:=Tryz.checked) (X:=fun w _=>laidMetH Tryz.prog laidL w) (fun _ _ _ hh h=>h.of_heap hh) own started (by kernel_rfl) Tryz.func8
  (ChangeSpec.witness_shaped (enc:=enc) (C:=Tryz.checked) (os:=os) (X:=fun w _=>laidMetH Tryz.prog laidL w) false (World.doorLaid Tryz.prog 400 os) #[.int .u8 0,.agg #[.int .i8 0,.int .u8 0,.int .i8 0,.int .u8 0,.int .i8 0,.int .u8 0,.int .i8 0,.int .u8 0],.int .u8 0] 8 rfl (World.shaped_of_RefB (by kernel_rfl) (by kernel_rfl)) (by kernel_rfl) (by kernel_rfl) (by kernel_rfl) (door_met os _)) ?_
 intro W base args ds gs before hval0 hW _ _ hL _
 have hval:∀ (j:Nat) t v,Tryz.f8.params[j]?=some t→args[j]?=some v→Value.okWide Tryz.prog W .any base t v:=hval0
 have hW':=hW
 obtain⟨p,q,hA0,hV,rfl,hfz,hnd⟩:=hW
 have hA:DataW.TrodAll enc Tryz.prog W 0 (fun _=>true) true Tryz.f8.params.toList args.toList ds p:=hA0
 rw[Tryz.params8] at hA hval
 obtain⟨v0,vs0,d0,ds0,p0,q0,hargs,rfl,rfl,h0,r0⟩:=trodAll_cons hA
 obtain⟨v1,vs1,d1,ds1,p1,q1,rfl,rfl,rfl,h1,r1⟩:=trodAll_cons r0
 obtain⟨v2,vs2,d2,ds2,p2,q2,rfl,rfl,rfl,h2,r2⟩:=trodAll_cons r1
 obtain⟨rfl,rfl,rfl⟩:=trodAll_nil r2
 obtain rfl:args = #[v0,v1,v2]:=by cases args;simp_all
 obtain⟨rfl,rfl⟩:=trodVars_none hV
 have k0:=h0
 have lt0:∀ x∈p0,x.block<W.heap.size:=by obtain⟨m,hm⟩:=k0;exact DataW.trod_lt m _ _ _ hm
 have k1:=h1
 have lt1:∀ x∈p1,x.block<W.heap.size:=by obtain⟨m,hm⟩:=k1;exact DataW.trod_lt m _ _ _ hm
 have k2:=h2
 have lt2:∀ x∈p2,x.block<W.heap.size:=by obtain⟨m,hm⟩:=k2;exact DataW.trod_lt m _ _ _ hm
 obtain⟨na,rfl,rfl,rfl,wa⟩:=open_int Tryz.underlying5 (hval 0 5 v0 rfl rfl) h0
 have wa':=bounds_u8 wa
 obtain⟨pn,rfl⟩:=Int.eq_ofNat_of_zero_le wa'.1
 obtain⟨nA,dA,rfl,hnA,hdA⟩:=open_partsV (hval 1 61 v1 rfl rfl) h1
 obtain⟨nb,rfl,rfl,rfl,wb⟩:=open_int Tryz.underlying5 (hval 2 5 v2 rfl rfl) h2
 have wb':=bounds_u8 wb
 obtain⟨bn,rfl⟩:=Int.eq_ofNat_of_zero_le wb'.1
 clear hA0 hval0
 refine(lawNar W pn bn nA dA (by omega) (by omega) hnA hdA (laid_of hL)).mono fun e W' ⟨he,bel⟩=>?_
 subst he
 exact⟨_,rfl,_,_,_,[],_,[],hW',trodAll_mk1 (shut_bool Tryz.underlying4 _),(trodAll_cons_mk (Below.trod laidOut (by kernel_rfl) (of_decide_eq_true (by kernel_rfl)) k0 bel lt0) (trodAll_cons_mk (Below.trod laidOut (by kernel_rfl) (of_decide_eq_true (by kernel_rfl)) k1 bel lt1) (trodAll_cons_mk (Below.trod laidOut (by kernel_rfl) (of_decide_eq_true (by kernel_rfl)) k2 bel lt2) trodAll_mk0))),rfl,bel.frame _,fun h=>by cases h⟩
theorem enclosureNarrows_row:Rows.EnclosureNarrowsSaid :=
 OpenClaim.holds_of_wide 8 Tryz.f8 rfl rfl rfl rfl rfl rfl rfl ⟨rfl,rfl,rfl,rfl,rfl⟩ rfl rfl rfl rfl rfl (by as_aux_lemma=>kernel_rfl) Tryz.func8 (by
   unfold joinedFacts
   simp only[Bool.and_eq_true]
   repeat' (refine And.intro ?_ ?_)
   all_goals (as_aux_lemma=>kernel_rfl))
  (by as_aux_lemma=>exact of_decide_eq_true (by kernel_rfl)) (by unfold Func.isWrapper;first | (rw[if_pos (by decide +kernel)];kernel_rfl) | (rw[if_neg (by decide +kernel)];exact⟨rfl,rfl⟩))
  (fun os started H enc _=>enclosureNarrows_lifted os started H enc)
end Go.Proofs.YtnjedhgcfeoemaaGreatDoor
