/- For any two sizes with small coefficients, Floor, Round and Remainder return the quotients and what is left, or ErrZero: the remainder is between 0 and the divisor (by products, where the exponents are at most 500, otherwise by Sign). No condition: the statement holds for every input. -/
import Derived.Maps.AppendAt
import Derived.Test.YtlomhfknmhaboaaGreatDoorCards
import Derived.Test.YtlomhfknmhaboaaGreatDoorTie
import Derived.SevenTiedAt
import Derived.Test.YtlomhfknmhaboaaGreatDoorMf5
namespace Go.Proofs.YtlomhfknmhaboaaGreatDoor
open Go.RowKit Go.Proofs.YtlomhfknmhaboaaGreatDoor.RY
set_option maxRecDepth 100000 in
set_option maxHeartbeats 8000000 in
theorem Sign_dec (w:World) (ps:List Int) (a0 a1:Option Addr) (c0 c1:Nat) (la:List Rat) (A:SizeOk w ps a0 a1 la 30) (hp:pcode ps=0) (g:Good ps la) (L:Laid w) :
  Gives Tryz.prog 27 #[.slice a0 ps.length c0,.slice a1 ps.length c1] w (.tuple #[.int .i64 (LN.sz ps la),.int .i64 0]):=by
 unfold Gives
 have hn:=A.n
 have Hc:Hid (Gives Tryz.prog 51 #[.slice a0 ps.length c0,.slice a1 ps.length c1] w (.int .i64 0)):=by
  have:=sizeCheck_any w a0 a1 c0 c1 ps (la.map qs) A.rp A.i64 (by omega) A.rl (by rw [List.length_map,A.len]; omega) (ssz_ok A.sm) L
  rw [List.length_map,A.len] at this
  unfold ccode at this
  rw [if_pos hp,scode_ok A.sm A.len] at this
  exact this
 have Ht:Hid (∀ W,Below w.heap.size w W→Calls Tryz.prog 66 #[.slice a0 ps.length c0,.slice a1 ps.length c1] W fun e w'=>∃ b1 d1 b2 d2,e = .returned (.agg (tcells b1 d1 b2 d2 (tlQ ps la).length (tden la)))∧TermsAt w' (tlQ ps la) b1 b2∧Below W.heap.size W w'):=fun W hW=>by
  have:=terms_ok (c0:=c0) (c:=c1) (A.below hW) (L.below hW)
  rw [A.len] at this
  exact this
 have Hs:Hid (∀ W b1 b2 d1 d2,TermsAt W (tlQ ps la) b1 b2→Below w.heap.size w W→Gives Tryz.prog 67 #[.agg (tcells b1 d1 b2 d2 (tlQ ps la).length (tden la))] W (.int .i64 (LN.sz ps la))):=fun W b1 b2 d1 d2 T hW =>
  sign_dec W b1 b2 d1 d2 _ 101 _ T g.trt (by decide) g.lt (g.dec hn) (L.below hW)
 clear A hp g L hn
 generalize LN.sz ps la=r at *
 generalize ps.length=n at *
 go_enter Tryz.func27,Tryz.ntmps27
 go_wp2_with fail
 refine Calls.mono Hc.out ?_
 rintro e w1 ⟨rfl,hb⟩
 have B1:=Lib.hid hb
 clear hb Hc
 go_wp2_with fail
 refine Calls.mono (Ht.out _ B1.out) ?_
 rintro e w2 ⟨b1,d1,b2,d2,rfl,T,hb⟩
 have B2:=Lib.hid (B1.out.trans (hb.mono B1.out.size))
 have Hs2:=Lib.hid (Hs.out w2 b1 b2 d1 d2 T B2.out)
 clear hb Ht T Hs
 go_wp2_with fail
 refine Calls.mono Hs2.out ?_
 rintro e w3 ⟨rfl,hb⟩
 have B3:=Lib.hid (B2.out.trans (hb.mono B2.out.size))
 clear hb Hs2
 go_wp2_with fail
 go_ret2
 exact ⟨rfl,B3.out⟩
theorem rat_neg_num (q:Int):((-q:Int):Rat).num = -q∧((-q:Int):Rat).den=1:=⟨Rat.num_intCast _,Rat.den_intCast _⟩
set_option maxRecDepth 100000 in
set_option maxHeartbeats 16000000 in
theorem Remainder_ok (w:World) (ps:List Int) (a0 a1 a2:Option Addr) (c0 c1 c2:Nat) (la lb:List Rat) (A:SizeOk w ps a0 a1 la 30) (B:SizeOk w ps a0 a2 lb 30) (hp:pcode ps=0) (L:Laid w) (hz:tlQ ps lb≠[]) (q:Int)
  (hf:∀ W,Below w.heap.size w W→Gives Tryz.prog 75 #[.slice a0 ps.length c0,.slice a1 la.length c1,.slice a2 lb.length c2] W (.string (itx q))) (hq:q.natAbs < 10 ^ 100) (hsh:shortAll (combineQ la lb 1 ((-q:Int):Rat))=true) :
  Calls Tryz.prog 32 #[.slice a0 ps.length c0,.slice a1 ps.length c1,.slice a2 ps.length c2] w fun e w'=>∃ a c,e = .returned (.tuple #[.slice a ps.length c,.int .i64 0])∧Rd w' a (cellsQ (combineQ la lb 1 ((-q:Int):Rat)))∧Below w.heap.size w w':=by
 have hn:=A.n
 have Hc:=Lib.hid (checkQuotient_ok w ps a0 a1 a2 c0 c1 c2 la lb A B hp L hz)
 have Hf:=Lib.hid hf
 rw [A.len,B.len] at Hc Hf
 have Hng:Hid (∀ W,Gives Tryz.prog 34 #[.string (itx q)] W (.string (itx (-q)))):=fun W=>neg_any W q (num_pow (D:=100) hq (by decide) (by decide))
 have Hnum:Hid (∀ W,Below w.heap.size w W→Gives Tryz.prog 65 #[.int .i64 1] W (.agg #[.string (itx 1),.string (dec 1)])):=fun W hW=>number_any W 1 (by decide) (by decide) (L.below hW)
 have hk:Sm 100 ((-q:Int):Rat):=⟨by rw [(rat_neg_num q).1]; omega,by rw [(rat_neg_num q).2]; exact Nat.one_lt_pow (by decide) (by decide)⟩
 have HS:Hid (∀ W g1 g2,Below w.heap.size w W→W.heap[g1]?=some (.cells #[.slice a1 ps.length c1,.slice a2 ps.length c2] 34 (0,0))→W.heap[g2]?=some (.cells #[.string (itx 1),.string (dec 1),.string (itx (-q)),.string ⟨#[49]⟩] 30 (0,0)) →
   Calls Tryz.prog 59 #[.int .i64 ps.length,.slice (some ⟨g1,0,none⟩) 2 2,.slice (some ⟨g2,0,none⟩) 2 2] W fun e w'=>∃ a c,e = .returned (.slice a ps.length c)∧Rd w' a (cellsQ (combineQ la lb 1 ((-q:Int):Rat)))∧Below W.heap.size W w'):=fun W g1 g2 hW h1 h2=>by
  have h1':W.heap[g1]?=some (.cells #[.slice a1 (la.map qs).length c1,.slice a2 (lb.map qs).length c2] 34 (0,0)):=by rw [List.length_map,List.length_map,A.len,B.len]; exact h1
  have h2':W.heap[g2]?=some (.cells #[.string (itx (1:Rat).num),.string (dec (1:Rat).den),.string (itx ((-q:Int):Rat).num),.string (dec ((-q:Int):Rat).den)] 30 (0,0)):=by
   rw [(rat_neg_num q).1,(rat_neg_num q).2,show (1:Rat).num=1 from rfl,show (1:Rat).den=1 from rfl,dec_one]
   rw [dec_one] at h2
   exact h2
  have h:=sum_any W _ _ 2 2 ps.length [la,lb] [1,((-q:Int):Rat)] 30 100 (rdl_two h1' (A.below hW).rl (B.below hW).rl) (rd_obj h2') (by intro l hl; simp only [List.mem_cons,List.not_mem_nil,or_false] at hl; rcases hl with rfl | rfl <;> first | exact A.len | exact B.len) rfl
   (by intro l hl; simp only [List.mem_cons,List.not_mem_nil,or_false] at hl; rcases hl with rfl | rfl <;> first | exact A.sm | exact B.sm)
   (by intro z hz; simp only [List.mem_cons,List.not_mem_nil,or_false] at hz; rcases hz with rfl | rfl <;> first | exact sm_one.le (by decide) | exact hk) (by omega) (by simp) (by simp only [List.length_cons,List.length_nil]; omega) (L.below hW)
  rw [sumQ_two _ _ _ _ _ A.len B.len] at h
  unfold GivesQ at h
  rw [combineQ_length _ _ _ _ (A.len.trans B.len.symm),A.len] at h
  refine Calls.mono h ?_
  rintro e w' ⟨a,c,rfl,ho,hb⟩
  exact ⟨a,c,rfl,ho.rd,hb⟩
 have Hres:Hid (∀ W a c,Rd W a (cellsQ (combineQ la lb 1 ((-q:Int):Rat)))→Gives Tryz.prog 58 #[.slice a ps.length c] W (.tuple #[.slice a ps.length c,.int .i64 0])):=fun W a c hr=>by
  have hl:=combineQ_length la lb 1 ((-q:Int):Rat) (A.len.trans B.len.symm)
  have:=result_fine W a c _ hr (by rw [hl,A.len]; omega) hsh
  rw [hl,A.len] at this
  exact this
 clear A B hp L hz hf hq hsh hk hn
 generalize combineQ la lb 1 ((-q:Int):Rat)=S at *
 generalize itx q=sq at *
 generalize itx (-q)=sn at *
 generalize itx 1=s1 at *
 generalize dec 1=s2 at *
 generalize ps.length=n at *
 go_enter Tryz.func32,Tryz.ntmps32
 go_wp2_with fail
 refine Calls.mono Hc.out ?_
 rintro e w1 ⟨rfl,hb⟩
 have B1:=Lib.hid hb
 clear hb Hc
 go_wp2_with fail
 refine Calls.mono (Hf.out _ B1.out) ?_
 rintro e w2 ⟨rfl,hb⟩
 have B2:=Lib.hid (B1.out.trans (hb.mono B1.out.size))
 clear hb Hf
 go_wp2_with fail
 refine Calls.mono (Hng.out _) ?_
 rintro e w3 ⟨rfl,hb⟩
 have B3:=Lib.hid (B2.out.trans (hb.mono B2.out.size))
 clear hb Hng
 go_wp2_with fail
 have B4:=Lib.hid (B3.out.alloc B3.out.size (.cells #[.string sn,.string ⟨#[49]⟩] 30))
 have K4:=Lib.hid (heap_at w3 #[.string sn,.string ⟨#[49]⟩] 30 _ rfl)
 generalize hN:w3.heap.size=g3 at *
 generalize w3.alloc (.cells #[.string sn,.string ⟨#[49]⟩] 30)=w4 at *
 clear hN B3
 obtain ⟨k0,k1,-,-⟩:=two_cells K4.out
 have q0:=BW.cell k0
 have q1:=BW.cell k1
 have hnon:Nonempty (BW w4):=⟨⟨w4,Below.refl _ _⟩⟩
 have I:Hid (Below w4.heap.size w4 w4.drew):=(Below.refl _ _).drew
 go_wp2_with fail
 clear k0 k1
 refine wp_region_tree 13 (.rd 1 0 (.rd 1 1 (.rd 1 2 (.rd 1 3 (.rd 1 6 (.two 4 5 (.mv 5 (.mv 7 (.mv 8 (.mv 9 (.rd 2 10 (.rd 2 11 (.mv 12 (.mv 13 .nil)))))))) (.two 4 7 (.mv 7 (.mv 8 (.mv 9 (.rd 2 10 (.rd 2 11 (.mv 12 (.mv 13 .nil))))))) (.mv 4 (.mv 8 (.mv 9 (.rd 2 10 (.rd 2 11 (.mv 12 (.mv 13 .nil)))))))))))))) (fun w'=>∃ p:BW w4,w'=p.w) (by kernel_rfl) (by kernel_rfl) ?_ ?_
 ·exact ⟨⟨_,I.out⟩,rfl⟩
 iterate 5 (refine walkT_read ?_; simp only [dsc_,dz_,tsc_,tz_]; go_big_quiet_step (fail); refine wpQuiet_nil ?_)
 clear hnon q0 q1
 refine walkT_two ?_ ?_
 ·simp only [dsc_,dz_,tsc_,tz_]
  go_wp2_with fail
  have N4:Hid ((w4.alloc (.cells #[.slice a1 n c1,.slice a2 n c2] 34)).drew.heap[w4.heap.size]?=some (.cells #[.slice a1 n c1,.slice a2 n c2] 34 (0,0))):=heap_at w4 #[.slice a1 n c1,.slice a2 n c2] 34 _ rfl
  have D1:Hid (Below w4.heap.size w4 (w4.alloc (.cells #[.slice a1 n c1,.slice a2 n c2] 34)).drew):=((Below.refl w4.heap.size w4).alloc nr_ _).drew
  generalize (w4.alloc (.cells #[.slice a1 n c1,.slice a2 n c2] 34)).drew=u1 at *
  clear I
  refine ⟨⟨⟨_,D1.out⟩,rfl⟩,?_⟩
  refine walkT_move ?_
  simp only [dsc_,dz_,tsc_,tz_]
  go_wp2_with fail
  refine Calls.mono (Hnum.out _ (B4.out.trans (D1.out.mono B4.out.size))) ?_
  rintro e_ u2 ⟨rfl,hb⟩
  have D2:=Lib.hid (D1.out.trans (hb.mono D1.out.size))
  replace N4:=Lib.hid (heap_kept N4.out hb nr_)
  clear hb D1
  go_wp2_with fail
  refine ⟨⟨⟨_,D2.out⟩,rfl⟩,?_⟩
  refine walkT_move ?_
  simp only [dsc_,dz_,tsc_,tz_]
  go_wp2_with fail
  have N7:=Lib.hid (heap_at u2 #[.string s1,.string s2,.string sn,.string ⟨#[49]⟩] 30 _ rfl)
  have D3:=Lib.hid (D2.out.alloc D2.out.size (.cells #[.string s1,.string s2,.string sn,.string ⟨#[49]⟩] 30))
  replace N4:=Lib.hid (heap_old N4.out (.cells #[.string s1,.string s2,.string sn,.string ⟨#[49]⟩] 30))
  generalize u2.alloc (.cells #[.string s1,.string s2,.string sn,.string ⟨#[49]⟩] 30)=u3 at *
  clear D2
  refine ⟨⟨⟨_,D3.out⟩,rfl⟩,?_⟩
  refine walkT_move ?_
  simp only [dsc_,dz_,tsc_,tz_]
  go_wp2_with fail
  refine Calls.mono (HS.out _ _ _ (B4.out.trans (D3.out.mono B4.out.size)) N4.out N7.out) ?_
  rintro e_ y1 ⟨a,c,rfl,hr,hb⟩
  have E1:=Lib.hid (D3.out.trans (hb.mono D3.out.size))
  have R1:=Lib.hid hr
  clear hb hr N4 N7 D3
  go_wp2_with fail
  refine ⟨⟨⟨_,E1.out⟩,rfl⟩,?_⟩
  refine walkT_move ?_
  simp only [dsc_,dz_,tsc_,tz_]
  go_wp2_with fail
  refine Calls.mono (Hres.out _ a c R1.out) ?_
  rintro e_ y2 ⟨rfl,hb⟩
  have E2:=Lib.hid (E1.out.trans (hb.mono E1.out.size))
  have R2:=Lib.hid (R1.out.below hb nr_)
  clear hb E1 R1
  go_wp2_with fail
  refine ⟨⟨⟨_,E2.out⟩,rfl⟩,?_⟩
  refine walkT_any ?_
  simp only [dsc_,dz_,tsc_,tz_]
  go_big_quiet_step (fail)
  refine wpQuiet_nil ?_
  refine walkT_any ?_
  simp only [dsc_,dz_,tsc_,tz_]
  go_big_quiet_step (fail)
  refine wpQuiet_nil ?_
  refine walkT_move ?_
  simp only [dsc_,dz_,tsc_,tz_]
  go_wp2_with fail
  refine ⟨⟨⟨_,E2.out⟩,rfl⟩,?_⟩
  refine walkT_move ?_
  simp only [dsc_,dz_,tsc_,tz_]
  go_wp2_with fail
  simp only [walkT]
  have B9:=Lib.hid (B4.out.trans (E2.out.mono B4.out.size))
  clear E2
  go_wp2_with fail
  go_ret2
  exact ⟨a,c,rfl,R2.out,B9.out⟩
 ·simp only [dsc_,dz_,tsc_,tz_]
  go_wp2_with fail
  refine Calls.mono (Hnum.out _ (B4.out.trans (I.out.mono B4.out.size))) ?_
  rintro e_ u1 ⟨rfl,hb⟩
  have D1:=Lib.hid (I.out.trans (hb.mono I.out.size))
  clear hb I
  go_wp2_with fail
  refine ⟨⟨⟨_,D1.out⟩,rfl⟩,?_⟩
  refine walkT_two ?_ ?_
  ·simp only [dsc_,dz_,tsc_,tz_]
   go_wp2_with fail
   have N4:=Lib.hid (heap_at u1 #[.slice a1 n c1,.slice a2 n c2] 34 _ rfl)
   have D2:=Lib.hid (D1.out.alloc D1.out.size (.cells #[.slice a1 n c1,.slice a2 n c2] 34))
   generalize u1.alloc (.cells #[.slice a1 n c1,.slice a2 n c2] 34)=u2 at *
   clear D1
   refine ⟨⟨⟨_,D2.out⟩,rfl⟩,?_⟩
   refine walkT_move ?_
   simp only [dsc_,dz_,tsc_,tz_]
   go_wp2_with fail
   have N7:=Lib.hid (heap_at u2 #[.string s1,.string s2,.string sn,.string ⟨#[49]⟩] 30 _ rfl)
   have D3:=Lib.hid (D2.out.alloc D2.out.size (.cells #[.string s1,.string s2,.string sn,.string ⟨#[49]⟩] 30))
   replace N4:=Lib.hid (heap_old N4.out (.cells #[.string s1,.string s2,.string sn,.string ⟨#[49]⟩] 30))
   generalize u2.alloc (.cells #[.string s1,.string s2,.string sn,.string ⟨#[49]⟩] 30)=u3 at *
   clear D2
   refine ⟨⟨⟨_,D3.out⟩,rfl⟩,?_⟩
   refine walkT_move ?_
   simp only [dsc_,dz_,tsc_,tz_]
   go_wp2_with fail
   refine Calls.mono (HS.out _ _ _ (B4.out.trans (D3.out.mono B4.out.size)) N4.out N7.out) ?_
   rintro e_ y1 ⟨a,c,rfl,hr,hb⟩
   have E1:=Lib.hid (D3.out.trans (hb.mono D3.out.size))
   have R1:=Lib.hid hr
   clear hb hr N4 N7 D3
   go_wp2_with fail
   refine ⟨⟨⟨_,E1.out⟩,rfl⟩,?_⟩
   refine walkT_move ?_
   simp only [dsc_,dz_,tsc_,tz_]
   go_wp2_with fail
   refine Calls.mono (Hres.out _ a c R1.out) ?_
   rintro e_ y2 ⟨rfl,hb⟩
   have E2:=Lib.hid (E1.out.trans (hb.mono E1.out.size))
   have R2:=Lib.hid (R1.out.below hb nr_)
   clear hb E1 R1
   go_wp2_with fail
   refine ⟨⟨⟨_,E2.out⟩,rfl⟩,?_⟩
   refine walkT_any ?_
   simp only [dsc_,dz_,tsc_,tz_]
   go_big_quiet_step (fail)
   refine wpQuiet_nil ?_
   refine walkT_any ?_
   simp only [dsc_,dz_,tsc_,tz_]
   go_big_quiet_step (fail)
   refine wpQuiet_nil ?_
   refine walkT_move ?_
   simp only [dsc_,dz_,tsc_,tz_]
   go_wp2_with fail
   refine ⟨⟨⟨_,E2.out⟩,rfl⟩,?_⟩
   refine walkT_move ?_
   simp only [dsc_,dz_,tsc_,tz_]
   go_wp2_with fail
   simp only [walkT]
   have B9:=Lib.hid (B4.out.trans (E2.out.mono B4.out.size))
   clear E2
   go_wp2_with fail
   go_ret2
   exact ⟨a,c,rfl,R2.out,B9.out⟩
  ·simp only [dsc_,dz_,tsc_,tz_]
   go_wp2_with fail
   have N7:=Lib.hid (heap_at u1 #[.string s1,.string s2,.string sn,.string ⟨#[49]⟩] 30 _ rfl)
   have D2:=Lib.hid (D1.out.alloc D1.out.size (.cells #[.string s1,.string s2,.string sn,.string ⟨#[49]⟩] 30))
   generalize u1.alloc (.cells #[.string s1,.string s2,.string sn,.string ⟨#[49]⟩] 30)=u2 at *
   clear D1
   refine ⟨⟨⟨_,D2.out⟩,rfl⟩,?_⟩
   refine walkT_move ?_
   simp only [dsc_,dz_,tsc_,tz_]
   go_wp2_with fail
   have N4:=Lib.hid (heap_at u2 #[.slice a1 n c1,.slice a2 n c2] 34 _ rfl)
   have D3:=Lib.hid (D2.out.alloc D2.out.size (.cells #[.slice a1 n c1,.slice a2 n c2] 34))
   replace N7:=Lib.hid (heap_old N7.out (.cells #[.slice a1 n c1,.slice a2 n c2] 34))
   generalize u2.alloc (.cells #[.slice a1 n c1,.slice a2 n c2] 34)=u3 at *
   clear D2
   refine ⟨⟨⟨_,D3.out⟩,rfl⟩,?_⟩
   refine walkT_move ?_
   simp only [dsc_,dz_,tsc_,tz_]
   go_wp2_with fail
   refine Calls.mono (HS.out _ _ _ (B4.out.trans (D3.out.mono B4.out.size)) N4.out N7.out) ?_
   rintro e_ y1 ⟨a,c,rfl,hr,hb⟩
   have E1:=Lib.hid (D3.out.trans (hb.mono D3.out.size))
   have R1:=Lib.hid hr
   clear hb hr N4 N7 D3
   go_wp2_with fail
   refine ⟨⟨⟨_,E1.out⟩,rfl⟩,?_⟩
   refine walkT_move ?_
   simp only [dsc_,dz_,tsc_,tz_]
   go_wp2_with fail
   refine Calls.mono (Hres.out _ a c R1.out) ?_
   rintro e_ y2 ⟨rfl,hb⟩
   have E2:=Lib.hid (E1.out.trans (hb.mono E1.out.size))
   have R2:=Lib.hid (R1.out.below hb nr_)
   clear hb E1 R1
   go_wp2_with fail
   refine ⟨⟨⟨_,E2.out⟩,rfl⟩,?_⟩
   refine walkT_any ?_
   simp only [dsc_,dz_,tsc_,tz_]
   go_big_quiet_step (fail)
   refine wpQuiet_nil ?_
   refine walkT_any ?_
   simp only [dsc_,dz_,tsc_,tz_]
   go_big_quiet_step (fail)
   refine wpQuiet_nil ?_
   refine walkT_move ?_
   simp only [dsc_,dz_,tsc_,tz_]
   go_wp2_with fail
   refine ⟨⟨⟨_,E2.out⟩,rfl⟩,?_⟩
   refine walkT_move ?_
   simp only [dsc_,dz_,tsc_,tz_]
   go_wp2_with fail
   simp only [walkT]
   have B9:=Lib.hid (B4.out.trans (E2.out.mono B4.out.size))
   clear E2
   go_wp2_with fail
   go_ret2
   exact ⟨a,c,rfl,R2.out,B9.out⟩
end Go.Proofs.YtlomhfknmhaboaaGreatDoor

namespace Go.Proofs.YtlomhfknmhaboaaGreatDoor
open Go.RowKit
theorem densL_dvd:∀ d,d < 6→0 < densL d∧densL d ∣ 12:=by decide
theorem rat_one_int:((1:Int):Rat)=1:=rfl
theorem mkRat_mul_den (z:Int) (d:Nat) (hd:0 < d):mkRat z d * (d:Rat)=(z:Rat):=by
 rw [Rat.mkRat_eq_div]
 exact Rat.div_mul_cancel (by have:=Rat.natCast_pos.2 hd; grind)
theorem fracQ_twelve (n:Int) (d:Nat):∃ z:Int,fracQ n d * ((12:Nat):Rat)=(z:Rat)∧z.natAbs≤480:=by
 obtain ⟨h1,m,hm⟩:=densL_dvd (d % 6) (Nat.mod_lt _ (by decide))
 have t1:=Int.tmod_lt_of_pos n (show (0:Int) < 41 by decide)
 have t2:=Int.lt_tmod_of_pos n (show (0:Int) < 41 by decide)
 refine ⟨n.tmod 41 * m,?_,?_⟩
 ·unfold fracQ
  have e:=mkRat_mul_den (n.tmod 41) (densL (d % 6)) h1
  rw [hm,Rat.natCast_mul,← Rat.mul_assoc,e,Rat.intCast_mul,Rat.intCast_natCast]
 ·have hm2:m≤12:=by
   have:1 * m≤densL (d % 6) * m:=Nat.mul_le_mul_right _ h1
   omega
  rw [Int.natAbs_mul,Int.natAbs_natCast]
  exact Nat.le_trans (Nat.mul_le_mul (show (n.tmod 41).natAbs≤40 by omega) hm2) (by decide)
theorem partsQ_sml (nu:Nat→Int) (de:Nat→Nat) (m:Nat):Sml 480 12 (partsQ nu de m):=by
 intro q hq
 obtain ⟨i,_,rfl⟩:=List.mem_map.1 hq
 obtain ⟨z,h,hz⟩:=fracQ_twelve (nu i) (de i)
 obtain ⟨r1,r2⟩:=ex_den z (by decide) h
 exact ⟨r1,by rw [r2]; exact hz⟩
theorem sz_cases {ps:List Int} (hp:∀ p∈ps,0 < p) (l:List Rat):LN.sz ps l=1∨LN.sz ps l=0∨LN.sz ps l = -1:=by
 rw [LN.sz_of_vt hp]; exact LN.sg_cases _
end Go.Proofs.YtlomhfknmhaboaaGreatDoor

namespace Go.Proofs.YtlomhfknmhaboaaGreatDoor
open Go.RowKit
set_option maxRecDepth 100000 in
set_option maxHeartbeats 4000000 in
theorem checkQuotient_zero (w:World) (ps:List Int) (a0 a1 a2:Option Addr) (c0 c1 c2:Nat) (la lb:List Rat) (A:SizeOk w ps a0 a1 la 30) (B:SizeOk w ps a0 a2 lb 30) (hp:pcode ps=0) (L:Laid w)
  (hq:tlQ ps lb=[]) :
  Gives Tryz.prog 74 #[.slice a0 ps.length c0,.slice a1 ps.length c1,.slice a2 ps.length c2] w (.int .i64 17):=by
 unfold Gives
 have Hk:Hid (∀ W g,Below w.heap.size w W→W.heap[g]?=some (.cells #[.slice a1 ps.length c1,.slice a2 ps.length c2] 34 (0,0))→Gives Tryz.prog 52 #[.slice a0 ps.length c0,.slice (some ⟨g,0,none⟩) 2 2] W (.int .i64 0)):=fun W g hW hg =>
  checkAll_two W ps g a0 a1 a2 c0 c1 c2 la lb (A.below hW) (B.below hW) hp (L.below hW) (by rw [A.len,B.len]; exact hg)
 obtain ⟨m,hm⟩:∃ m,(tlQ ps lb).length=m:=⟨_,rfl⟩
 have hz:((m:Int) == 0)=true:=by rw [← hm,hq]; rfl
 have Ht:Hid (∀ W,Below w.heap.size w W→Calls Tryz.prog 66 #[.slice a0 ps.length c0,.slice a2 ps.length c2] W fun e w'=>∃ b1 d1 b2 d2,e = .returned (.agg (tcells b1 d1 b2 d2 m (tden lb)))∧Below W.heap.size W w'):=fun W hW=>by
  have h:=terms_ok (c0:=c0) (c:=c2) (B.below hW) (L.below hW)
  rw [hm,B.len] at h
  refine Calls.mono h ?_
  rintro e w' ⟨b1,d1,b2,d2,rfl,_,hb⟩
  exact ⟨b1,d1,b2,d2,rfl,hb⟩
 clear A B hp L hq hm
 generalize ps.length=n at *
 go_enter Tryz.func74,Tryz.ntmps74
 go_wp2_with fail
 have B1:=Lib.hid ((Below.refl w.heap.size w).alloc nr_ (.cells #[.slice a1 n c1,.slice a2 n c2] 34))
 refine Calls.mono (Hk.out _ _ B1.out (heap_at w _ _ _ rfl)) ?_
 rintro e w1 ⟨rfl,hb⟩
 have B2:=Lib.hid (B1.out.trans (hb.mono B1.out.size))
 clear hb Hk B1
 go_wp2_with fail
 refine Calls.mono (Ht.out _ B2.out) ?_
 rintro e w2 ⟨b1,d1,b2,d2,rfl,hb⟩
 have B3:=Lib.hid (B2.out.trans (hb.mono B2.out.size))
 clear hb Ht
 have hf:∀ W:World,(Instr.field 103 (.agg (tcells b1 d1 b2 d2 m (tden lb))) 0).run Tryz.prog W = .ok (.slice b1 m d1) W:=fun W=>by rfl
 go_wp2_with fail
 go_ret
 exact ⟨rfl,B3.out⟩
structure QZero (w:World) (a0 a1 a2:Option Addr) (n c0 c1 c2:Nat):Prop where
 fl:Gives Tryz.prog 30 #[.slice a0 n c0,.slice a1 n c1,.slice a2 n c2] w (.tuple #[.string ⟨#[]⟩,.int .i64 17])
 ro:Gives Tryz.prog 31 #[.slice a0 n c0,.slice a1 n c1,.slice a2 n c2] w (.tuple #[.string ⟨#[]⟩,.int .i64 17])
 re:Gives Tryz.prog 32 #[.slice a0 n c0,.slice a1 n c1,.slice a2 n c2] w (.tuple #[.slice none 0 0,.int .i64 17])
theorem qzero (w:World) (ps:List Int) (a0 a1 a2:Option Addr) (c0 c1 c2:Nat) (la lb:List Rat) (A:SizeOk w ps a0 a1 la 30) (B:SizeOk w ps a0 a2 lb 30) (hp:pcode ps=0) (L:Laid w)
  (hq:tlQ ps lb=[]):QZero w a0 a1 a2 ps.length c0 c1 c2:=by
 have Hc:=Lib.hid (checkQuotient_zero w ps a0 a1 a2 c0 c1 c2 la lb A B hp L hq)
 clear A B hp L hq
 generalize ps.length=n at *
 refine ⟨?_,?_,?_⟩
 ·unfold Gives
  go_enter Tryz.func30,Tryz.ntmps30
  go_wp2_with fail
  refine Calls.mono Hc.out ?_
  rintro e w1 ⟨rfl,hb⟩
  have B1:=Lib.hid hb
  clear hb Hc
  go_wp2_with fail
  go_ret2
  exact ⟨rfl,B1.out⟩
 ·unfold Gives
  go_enter Tryz.func31,Tryz.ntmps31
  go_wp2_with fail
  refine Calls.mono Hc.out ?_
  rintro e w1 ⟨rfl,hb⟩
  have B1:=Lib.hid hb
  clear hb Hc
  go_wp2_with fail
  go_ret2
  exact ⟨rfl,B1.out⟩
 ·unfold Gives
  go_enter Tryz.func32,Tryz.ntmps32
  go_wp2_with fail
  refine Calls.mono Hc.out ?_
  rintro e w1 ⟨rfl,hb⟩
  have B1:=Lib.hid hb
  clear hb Hc
  go_wp2_with fail
  go_ret2
  exact ⟨rfl,B1.out⟩
set_option maxHeartbeats 4000000 in
theorem signOf_ok (w:World) (ps:List Int) (a0 a1:Option Addr) (c0 c1:Nat) (l:List Rat) (A:SizeOk w ps a0 a1 l 30) (hp:pcode ps=0) (g:Good ps l) (L:Laid w) :
  Gives Tryz.prog 48 #[.slice a0 ps.length c0,.slice a1 ps.length c1] w (.tuple #[.int .i64 (LN.sz ps l),.bool true]):=by
 unfold Gives
 have Hc:=Lib.hid (lsign_any w ps a0 a1 c0 c1 30 l A L)
 have Hs:=Lib.hid fun W (hW:Below w.heap.size w W)=>Sign_dec W ps a0 a1 c0 c1 l (A.below hW) hp g (L.below hW)
 clear A hp g L
 generalize LN.sz ps l=r at *
 generalize ps.length=n at *
 go_enter Tryz.func48,Tryz.ntmps48
 go_wp2_with fail
 refine Calls.mono Hc.out ?_
 rintro e w1 ⟨v,ok,rfl,hv,hb⟩
 have B1:=Lib.hid hb
 have Hv:=Lib.hid hv
 clear hb Hc hv
 cases ok
 ·go_wp2_with fail
  refine Calls.mono (Hs.out _ B1.out) ?_
  rintro e w2 ⟨rfl,hb⟩
  have B2:=Lib.hid (B1.out.trans (hb.mono B1.out.size))
  clear hb Hs
  go_wp2_with fail
  go_ret2
  exact ⟨rfl,B2.out⟩
 ·obtain rfl:=Hv.out rfl
  go_wp2_with fail
  go_ret2
  exact ⟨rfl,B1.out⟩
theorem part_oneI:mkRat 1 1=((1:Int):Rat):=by decide +kernel
theorem part_moneI:mkRat (-1) 1=((-1:Int):Rat):=by decide +kernel
set_option maxRecDepth 100000 in
set_option maxHeartbeats 16000000 in
theorem within_ok (w:World) (ps:List Int) (a0 a1 a2:Option Addr) (c0 c1 c2:Nat) (ls lb:List Rat) (A:SizeOk w ps a0 a1 ls 30) (B:SizeOk w ps a0 a2 lb 30) (hp:pcode ps=0) (hpos:∀ p∈ps,0 < p) (ga:Good ps ls) (gb:Good ps lb) (gd:Good ps (difQ ls lb)) (sd:∀ q∈difQ ls lb,Sm 30 q) (L:Laid w)
  (h1:0≤LN.sz ps ls * LN.sz ps lb) (h2:LN.sz ps (difQ ls lb) * LN.sz ps lb < 0) :
  Gives Tryz.prog 36 #[.slice a0 ps.length c0,.slice a1 ps.length c1,.slice a2 ps.length c2] w (.bool true):=by
 unfold Gives
 obtain ⟨u,hu⟩:∃ q:Rat,q=((1:Int):Rat):=⟨_,rfl⟩
 obtain ⟨v,hv⟩:∃ q:Rat,q=((-1:Int):Rat):=⟨_,rfl⟩
 have HU:Hid (∀ W,Below w.heap.size w W→Gives Tryz.prog 18 #[.int .i64 1,.int .i64 1] W (fr u)):=fun W hW=>by subst hu; rw [← part_oneI]; exact partR W 1 1 (by decide) (by decide) (by decide) (by decide) (L.below hW)
 have HV:Hid (∀ W,Below w.heap.size w W→Gives Tryz.prog 18 #[.int .i64 (-1),.int .i64 1] W (fr v)):=fun W hW=>by subst hv; rw [← part_moneI]; exact partR W (-1) 1 (by decide) (by decide) (by decide) (by decide) (L.below hW)
 have su:Sm 400 u:=by rw [hu,rat_one_int]; exact sm_one.le (by decide)
 have sv:Sm 400 v:=by rw [hv]; exact sm_mone.le (by decide)
 have hcd:combineQ ls lb u v=difQ ls lb:=by rw [hu,hv]; rfl
 have ld:(difQ ls lb).length=ps.length:=(difQ_length _ _ (A.len.trans B.len.symm)).trans A.len
 have hn:=A.n
 have HC:Hid (∀ W,Below w.heap.size w W→Calls Tryz.prog 17 #[.slice a1 ps.length c1,.slice a2 ps.length c2,.agg #[.string (itx u.num),.string (dec u.den)],.agg #[.string (itx v.num),.string (dec v.den)]] W fun e w'=>∃ a c,e = .returned (.tuple #[.slice a ps.length c,.bool (shortAll (difQ ls lb))])∧Rd w' a (cellsQ (difQ ls lb))∧Below W.heap.size W w'):=fun W hW=>by
  have h:=law_combine W a1 a2 c1 c2 ls lb u v (A.below hW).rl (B.below hW).rl (B.len.trans A.len.symm) (by rw [A.len]; omega) (fun q hq=>(A.sm q hq).le (by decide)) (fun q hq=>(B.sm q hq).le (by decide)) su sv (L.below hW)
  rw [A.len,hcd] at h
  refine Calls.mono h ?_
  rintro e w' ⟨a,c,rfl,ho,hb⟩
  exact ⟨a,c,rfl,ho.rd,hb⟩
 have Hb:Hid (∀ W,Below w.heap.size w W→Gives Tryz.prog 48 #[.slice a0 ps.length c0,.slice a2 ps.length c2] W (.tuple #[.int .i64 (LN.sz ps lb),.bool true])):=fun W hW=>signOf_ok W ps a0 a2 c0 c2 lb (B.below hW) hp gb (L.below hW)
 have Hs:Hid (∀ W,Below w.heap.size w W→Gives Tryz.prog 48 #[.slice a0 ps.length c0,.slice a1 ps.length c1] W (.tuple #[.int .i64 (LN.sz ps ls),.bool true])):=fun W hW=>signOf_ok W ps a0 a1 c0 c1 ls (A.below hW) hp ga (L.below hW)
 have Hd:Hid (∀ W a c,Below w.heap.size w W→Rd W a (cellsQ (difQ ls lb))→Gives Tryz.prog 48 #[.slice a0 ps.length c0,.slice a ps.length c] W (.tuple #[.int .i64 (LN.sz ps (difQ ls lb)),.bool true])):=fun W a c hW hr=>signOf_ok W ps a0 a c0 c _ ⟨(A.below hW).rp,hr,ld,A.n,A.pr,sd,by decide⟩ hp gd (L.below hW)
 have r1:=sz_cases hpos ls
 have r2:=sz_cases hpos lb
 have r3:=sz_cases hpos (difQ ls lb)
 unfold fr fv at HU HV
 clear A B hp hpos ga gb gd sd L hu hv su sv hcd ld hn
 generalize LN.sz ps ls=x1 at *
 generalize LN.sz ps lb=x2 at *
 generalize LN.sz ps (difQ ls lb)=x3 at *
 generalize difQ ls lb=ld at *
 generalize shortAll ld=z at *
 generalize itx u.num=us at *
 generalize dec u.den=ut at *
 generalize itx v.num=vs at *
 generalize dec v.den=vt at *
 generalize ps.length=n at *
 obtain ⟨y1,hy1⟩:∃ y,x1 * x2=y:=⟨_,rfl⟩
 obtain ⟨y2,hy2⟩:∃ y,x3 * x2=y:=⟨_,rfl⟩
 have b1 : -1≤y1∧y1≤1:=by rcases r1 with h | h | h <;> rcases r2 with h' | h' | h' <;> rw [h,h'] at hy1 <;> omega
 have b2 : -1≤y2∧y2≤1:=by rcases r3 with h | h | h <;> rcases r2 with h' | h' | h' <;> rw [h,h'] at hy2 <;> omega
 rw [hy1] at h1
 rw [hy2] at h2
 clear r1 r2 r3
 go_enter Tryz.func36,Tryz.ntmps36
 go_wp2_with fail
 refine Calls.mono (HU.out _ (Below.refl _ _)) ?_
 rintro e w1 ⟨rfl,hb⟩
 have B1:=Lib.hid hb
 clear hb HU
 go_wp2_with fail
 refine Calls.mono (HV.out _ B1.out) ?_
 rintro e w2 ⟨rfl,hb⟩
 have B2:=Lib.hid (B1.out.trans (hb.mono B1.out.size))
 clear hb HV B1
 go_wp2_with fail
 refine Calls.mono (HC.out _ B2.out) ?_
 rintro e w3 ⟨a3,c3,rfl,hr,hb⟩
 have B3:=Lib.hid (B2.out.trans (hb.mono B2.out.size))
 have R3:=Lib.hid hr
 clear hb hr HC B2
 go_wp2_with fail
 refine Calls.mono (Hb.out _ B3.out) ?_
 rintro e w4 ⟨rfl,hb⟩
 have B4:=Lib.hid (B3.out.trans (hb.mono B3.out.size))
 have R4:=Lib.hid (R3.out.below hb nr_)
 clear hb Hb B3 R3
 go_wp2_with fail
 refine Calls.mono (Hs.out _ B4.out) ?_
 rintro e w5 ⟨rfl,hb⟩
 have B5:=Lib.hid (B4.out.trans (hb.mono B4.out.size))
 have R5:=Lib.hid (R4.out.below hb nr_)
 clear hb Hs B4 R4
 go_wp2_with fail
 refine Calls.mono (Hd.out _ _ _ B5.out R5.out) ?_
 rintro e w6 ⟨rfl,hb⟩
 have B6:=Lib.hid (B5.out.trans (hb.mono B5.out.size))
 clear hb Hd B5 R5
 go_wp2_with fail
 go_ret
 exact ⟨rfl,B6.out⟩
end Go.Proofs.YtlomhfknmhaboaaGreatDoor

namespace Go.Proofs.YtlomhfknmhaboaaGreatDoor
open Go.RowKit
def OwnI (w:World) (B:Nat) (a:Option Addr) (c:Nat) (l:List Int):Prop:=w.ownsRow B 3 1 (.slice a l.length c) l.length (ints l)
theorem OwnI.rd {w:World} {B c:Nat} {a:Option Addr} {l:List Int} (h:OwnI w B a c l):Rd w a (ints l):=own_rd h
theorem OwnI.below {w w':World} {B c:Nat} {a:Option Addr} {l:List Int} (h:OwnI w B a c l) {D:Nat} (hb:Below D w w') (hD:w.heap.size≤D):OwnI w' B a c l:=own_below h hb hD
theorem OwnI.nil (w:World) (B:Nat):OwnI w B none 0 []:=World.ownsRow_nil w B _ 1
end Go.Proofs.YtlomhfknmhaboaaGreatDoor

namespace Go.Proofs.YtlomhfknmhaboaaGreatDoor
open Go.RowKit
end Go.Proofs.YtlomhfknmhaboaaGreatDoor

namespace Go.Proofs.YtlomhfknmhaboaaGreatDoor
open Go.RowKit
end Go.Proofs.YtlomhfknmhaboaaGreatDoor

namespace Go.Proofs.YtlomhfknmhaboaaGreatDoor
open Go.RowKit
end Go.Proofs.YtlomhfknmhaboaaGreatDoor

namespace Go.Proofs.YtlomhfknmhaboaaGreatDoor
open Go.RowKit
theorem sub_comb (q:Int) (la lb:List Rat):LN.subQ q la lb=combineQ la lb 1 ((-q:Int):Rat):=by
 unfold LN.subQ combineQ
 congr 1
 funext x y
 rw [Rat.intCast_neg]
 grind
theorem dif_sub (q:Int) {la lb:List Rat} (h:la.length=lb.length):difQ (LN.subQ q la lb) lb=LN.subQ (q + 1) la lb:=by
 have l1:(LN.subQ q la lb).length=la.length:=by simp [LN.subQ,h]
 obtain ⟨m,hm⟩:∃ m:Rat,((q + 1:Int):Rat)=m:=⟨_,rfl⟩
 have e:=Rat.intCast_add q 1
 rw [hm,rat_one_int] at e
 refine List.ext_getElem (by rw [difQ_length _ _ (by omega),l1]; simp [LN.subQ,h]) fun i h1 h2=>?_
 have i1:i < la.length:=by rw [difQ_length _ _ (by omega),l1] at h1; exact h1
 rw [difQ_get _ _ i (by omega) (by omega)]
 simp only [LN.subQ,List.getElem_zipWith,hm]
 grind
end Go.Proofs.YtlomhfknmhaboaaGreatDoor

namespace Go.Proofs.YtlomhfknmhaboaaGreatDoor
open Go.RowKit
theorem Sml.sm {N D:Nat} {l:List Rat} (h:Sml N 12 l) (hN:N < 10 ^ D) (hD:2≤D):∀ q∈l,Sm D q:=fun q hq=>by
 obtain ⟨h1,h2⟩:=h q hq
 have h3:=Nat.le_of_dvd (by decide) h1
 have h4:=Nat.div_pos h3 q.den_pos
 refine ⟨?_,?_⟩
 ·unfold LN.ex at h2
  rw [Int.natAbs_mul,Int.natAbs_natCast] at h2
  have:q.num.natAbs * 1≤q.num.natAbs * (12 / q.den):=Nat.mul_le_mul_left _ h4
  omega
 ·have:10 ^ 2≤10 ^ D:=Nat.pow_le_pow_right (by decide) hD
  omega
structure FlS (ps:List Int) (la lb:List Rat):Prop where
 p0:pcode ps=0
 q1:∀ p∈ps,p∈smallP
 q2:ps.Nodup
 n4:ps.length≤4
 p13:∀ p∈ps,2≤p∧p≤13
 l1:la.length=ps.length
 l2:lb.length=ps.length
 ma:Sml 480 12 la
 mb:Sml 480 12 lb
 ne:∃ q∈lb,q≠0
structure FlF (ps:List Int) (la lb:List Rat) (q n:Int):Prop where
 f1:LN.FloorOf ps la lb q
 f2:LN.FloorOf ps (combineQ la lb 2 1) (combineQ lb lb 2 0) n
 b1:q.natAbs≤QC + 1
 b2:n.natAbs≤QC + 1
theorem FlS.mt {ps:List Int} {la lb:List Rat} (S:FlS ps la lb):Sml 1440 12 (combineQ la lb 2 1):=Sml.comb (by decide) S.ma S.mb 2 1
theorem FlS.mu {ps:List Int} {la lb:List Rat} (S:FlS ps la lb):Sml 960 12 (combineQ lb lb 2 0):=Sml.comb (by decide) S.mb S.mb 2 0
theorem FlS.lt {ps:List Int} {la lb:List Rat} (S:FlS ps la lb):(combineQ la lb 2 1).length=ps.length:=(combineQ_length _ _ _ _ (S.l1.trans S.l2.symm)).trans S.l1
theorem FlS.lu {ps:List Int} {la lb:List Rat} (S:FlS ps la lb):(combineQ lb lb 2 0).length=ps.length:=(combineQ_length _ _ _ _ rfl).trans S.l2
theorem FlS.neu {ps:List Int} {la lb:List Rat} (S:FlS ps la lb):∃ q∈combineQ lb lb 2 0,q≠0:=by
 obtain ⟨q,hq,h0⟩:=S.ne
 obtain ⟨i,hi,rfl⟩:=List.mem_iff_getElem.1 hq
 have h:i < (combineQ lb lb 2 0).length:=by rw [combineQ_length _ _ _ _ rfl]; exact hi
 refine ⟨_,List.getElem_mem h,?_⟩
 simp only [combineQ,List.getElem_zipWith]
 grind
theorem FlS.o1 {ps:List Int} {la lb:List Rat} (S:FlS ps la lb):FlrOk ps la lb 13:=flr_small S.q1 S.q2 (by have:=S.n4; omega) S.l1 S.l2 (S.ma.le (by decide)) (S.mb.le (by decide)) S.ne
theorem FlS.o2 {ps:List Int} {la lb:List Rat} (S:FlS ps la lb):FlrOk ps (combineQ la lb 2 1) (combineQ lb lb 2 0) 13:=flr_small S.q1 S.q2 (by have:=S.n4; omega) S.lt S.lu (S.mt.le (by decide)) (S.mu.le (by decide)) S.neu
theorem flf_exists {k:Nat} (hk:k < 10) {la lb:List Rat} (S:FlS (primesL k) la lb):∃ q n,FlF (primesL k) la lb q n:=by
 obtain ⟨q,hq⟩:=S.o1.exists S.l1 S.l2
 obtain ⟨n,hn⟩:=S.o2.exists S.lt S.lu
 exact ⟨q,n,hq,hn,floor_small20 hk S.l1 S.l2 (S.ma.le (by decide)) (S.mb.le (by decide)) S.ne hq,floor_small20 hk S.lt S.lu S.mt S.mu S.neu hn⟩
def NB:Nat:=1440 + 960 * (QC + 2)
theorem nb_kb:NB≤Kb:=by decide +kernel
theorem nb_ten:NB < 10 ^ 30:=by decide +kernel
theorem qc_ten19:QC + 2 < 10 ^ 19:=by decide +kernel
theorem sub_sml {A B:Nat} {la lb:List Rat} {z:Int} (ha:Sml A 12 la) (hb:Sml B 12 lb) (hA:A≤1440) (hB:B≤960) (hz:z.natAbs≤QC + 2):Sml NB 12 (LN.subQ z la lb):=by
 have h:=Sml.comb (by decide) ha hb 1 (-z)
 rw [show (((1:Int):Rat))=1 from rfl,← sub_comb] at h
 refine h.le ?_
 have e:(-z).natAbs=z.natAbs:=by omega
 rw [e,show (1:Int).natAbs=1 from rfl,Nat.mul_one]
 exact Nat.add_le_add hA (Nat.mul_le_mul hB hz)
theorem FlS.ok {ps:List Int} {la lb l:List Rat} (S:FlS ps la lb) {W:World} {a0 a1:Option Addr} (r0:Rd W a0 (ints ps)) (r1:Rd W a1 (cellsQ l)) (hl:l.length=ps.length) (hm:Sml NB 12 l):SizeOk W ps a0 a1 l 30 :=
 ⟨r0,r1,hl,by have:=S.n4; omega,fun p hp=>by have:=S.p13 p hp; omega,hm.sm nb_ten (by decide),by decide⟩
theorem nb_le {N:Nat} (h:N≤1440):N≤NB:=Nat.le_trans h (Nat.le_add_right _ _)
theorem FlS.good {ps:List Int} {la lb l:List Rat} (S:FlS ps la lb) (hm:Sml NB 12 l):Good ps l:=hm.good (by decide) nb_kb S.q1 S.q2
theorem sub_len {ps:List Int} {la lb:List Rat} (h1:la.length=ps.length) (h2:lb.length=ps.length) (z:Int):(LN.subQ z la lb).length=ps.length:=by simp [LN.subQ,h1,h2]
theorem FlF.floor {ps:List Int} {la lb:List Rat} {q n:Int} (F:FlF ps la lb q n) (S:FlS ps la lb) (W:World) (a0 a1 a2:Option Addr) (c0 c1 c2:Nat) (r0:Rd W a0 (ints ps)) (r1:Rd W a1 (cellsQ la)) (r2:Rd W a2 (cellsQ lb)) (L:Laid W) :
  Gives Tryz.prog 30 #[.slice a0 ps.length c0,.slice a1 ps.length c1,.slice a2 ps.length c2] W (.tuple #[.string (itx q),.int .i64 0]):=by
 have A:=S.ok r0 r1 S.l1 (S.ma.le (nb_le (by decide)))
 have B:=S.ok r0 r2 S.l2 (S.mb.le (nb_le (by decide)))
 have h:=Floor_of W ps a0 a1 a2 c0 c1 c2 la lb A B S.p0 L (tlQ_ne S.l2 S.ne) q fun W' hW'=>floor_det W' ps a0 a1 a2 c0 c1 c2 30 13 _ _ (A.below hW') (B.below hW') (by decide) S.o1 (L.below hW') F.f1
 rw [S.l1,S.l2] at h
 exact h
theorem FlF.round {ps:List Int} {la lb:List Rat} {q n:Int} (F:FlF ps la lb q n) (S:FlS ps la lb) (W:World) (a0 a1 a2:Option Addr) (c0 c1 c2:Nat) (r0:Rd W a0 (ints ps)) (r1:Rd W a1 (cellsQ la)) (r2:Rd W a2 (cellsQ lb)) (L:Laid W) :
  Gives Tryz.prog 31 #[.slice a0 ps.length c0,.slice a1 ps.length c1,.slice a2 ps.length c2] W (.tuple #[.string (itx n),.int .i64 0]):=by
 have A:=S.ok r0 r1 S.l1 (S.ma.le (nb_le (by decide)))
 have B:=S.ok r0 r2 S.l2 (S.mb.le (nb_le (by decide)))
 have h:=Round_of W ps a0 a1 a2 c0 c1 c2 la lb A B S.p0 L (tlQ_ne S.l2 S.ne) n fun W' a3 a4 c3 c4 A' B' L'=>by
  have e1:=sumQ_two ps.length la lb 2 1 S.l1 S.l2
  have e2:=sumQ_onek ps.length lb 2 S.l2
  rw [e1] at A' ⊢
  rw [e2] at B' ⊢
  exact floor_det W' ps a0 a3 a4 c0 c3 c4 (2 * 30 + 5) 13 _ _ A' B' (by decide) S.o2 L' F.f2
 rw [S.l1,S.l2] at h
 exact h
theorem FlF.rem {ps:List Int} {la lb:List Rat} {q n:Int} (F:FlF ps la lb q n) (S:FlS ps la lb) (W:World) (a0 a1 a2:Option Addr) (c0 c1 c2:Nat) (r0:Rd W a0 (ints ps)) (r1:Rd W a1 (cellsQ la)) (r2:Rd W a2 (cellsQ lb)) (L:Laid W) :
  Calls Tryz.prog 32 #[.slice a0 ps.length c0,.slice a1 ps.length c1,.slice a2 ps.length c2] W fun e w'=>∃ a c,e = .returned (.tuple #[.slice a ps.length c,.int .i64 0])∧Rd w' a (cellsQ (LN.subQ q la lb))∧Below W.heap.size W w':=by
 have A:=S.ok r0 r1 S.l1 (S.ma.le (nb_le (by decide)))
 have B:=S.ok r0 r2 S.l2 (S.mb.le (nb_le (by decide)))
 have hm:=sub_sml S.ma S.mb (by decide) (by decide) (Nat.le_succ_of_le F.b1)
 have h:=Remainder_ok W ps a0 a1 a2 c0 c1 c2 la lb A B S.p0 L (tlQ_ne S.l2 S.ne) q (fun W' hW'=>floor_det W' ps a0 a1 a2 c0 c1 c2 30 13 _ _ (A.below hW') (B.below hW') (by decide) S.o1 (L.below hW') F.f1)
  (Nat.lt_of_le_of_lt F.b1 (Nat.lt_trans (Nat.lt_succ_self _) (Nat.lt_trans qc_ten19 (Nat.pow_lt_pow_right (by decide) (by decide))))) (by rw [← sub_comb]; exact shortAll_sm (hm.sm nb_ten (by decide)) (by decide))
 rw [← sub_comb] at h
 exact h
theorem FlF.in1 {ps:List Int} {la lb:List Rat} {q n:Int} (F:FlF ps la lb q n) (S:FlS ps la lb) (W:World) (a0 a1 a2:Option Addr) (c0 c1 c2:Nat) (r0:Rd W a0 (ints ps)) (r1:Rd W a1 (cellsQ (LN.subQ q la lb))) (r2:Rd W a2 (cellsQ lb)) (L:Laid W) :
  Gives Tryz.prog 36 #[.slice a0 ps.length c0,.slice a1 ps.length c1,.slice a2 ps.length c2] W (.bool true):=by
 have m1:=sub_sml S.ma S.mb (by decide) (by decide) (Nat.le_succ_of_le F.b1)
 have m2:=S.mb.le (nb_le (N:=480) (by decide))
 have m3:=sub_sml (z:=q + 1) S.ma S.mb (by decide) (by decide) (by have:=F.b1; omega)
 have e:=dif_sub q (S.l1.trans S.l2.symm)
 exact within_ok W ps a0 a1 a2 c0 c1 c2 _ _ (S.ok r0 r1 (sub_len S.l1 S.l2 q) m1) (S.ok r0 r2 S.l2 m2) S.p0 (smallP_pos S.q1) (S.good m1) (S.good m2) (by rw [e]; exact S.good m3) (by rw [e]; exact m3.sm nb_ten (by decide)) L F.f1.1 (by rw [e]; exact F.f1.2)
theorem dbl_eq {la lb:List Rat} (n:Int):combineQ (combineQ la lb 2 1) lb ((1:Int):Rat) (((-2:Int):Rat) * (n:Rat))=LN.subQ n (combineQ la lb 2 1) (combineQ lb lb 2 0):=by
 have e:((-2:Int):Rat) = -2:=by decide +kernel
 rw [e,rat_one_int]
 unfold LN.subQ combineQ
 refine List.ext_getElem (by simp) fun i h1 h2=>?_
 simp only [List.getElem_zipWith]
 grind
theorem FlF.in2 {ps:List Int} {la lb:List Rat} {q n:Int} (F:FlF ps la lb q n) (S:FlS ps la lb) (W:World) (a0 a1 a2:Option Addr) (c0 c1 c2:Nat) (r0:Rd W a0 (ints ps)) (r1:Rd W a1 (cellsQ (LN.subQ n (combineQ la lb 2 1) (combineQ lb lb 2 0)))) (r2:Rd W a2 (cellsQ (combineQ lb lb 2 0))) (L:Laid W) :
  Gives Tryz.prog 36 #[.slice a0 ps.length c0,.slice a1 ps.length c1,.slice a2 ps.length c2] W (.bool true):=by
 have m1:=sub_sml S.mt S.mu (by decide) (by decide) (Nat.le_succ_of_le F.b2)
 have m2:=S.mu.le (nb_le (N:=960) (by decide))
 have m3:=sub_sml (z:=n + 1) S.mt S.mu (by decide) (by decide) (by have:=F.b2; omega)
 have e:=dif_sub n (S.lt.trans S.lu.symm)
 exact within_ok W ps a0 a1 a2 c0 c1 c2 _ _ (S.ok r0 r1 (sub_len S.lt S.lu n) m1) (S.ok r0 r2 S.lu m2) S.p0 (smallP_pos S.q1) (S.good m1) (S.good m2) (by rw [e]; exact S.good m3) (by rw [e]; exact m3.sm nb_ten (by decide)) L F.f2.1 (by rw [e]; exact F.f2.2)
theorem FlS.comb {ps:List Int} {la lb:List Rat} (S:FlS ps la lb) {lx ly:List Rat} (x1:lx.length=ps.length) (y1:ly.length=ps.length) (mx:Sml NB 12 lx) (my:Sml NB 12 ly) (W:World) (a1 a2:Option Addr) (c1 c2:Nat) (f g:Rat) (hf:Sm 400 f) (hg:Sm 400 g) (r1:Rd W a1 (cellsQ lx)) (r2:Rd W a2 (cellsQ ly)) (L:Laid W) {R:List Rat} (hR:combineQ lx ly f g=R) (mR:Sml NB 12 R) :
  Calls Tryz.prog 17 #[.slice a1 ps.length c1,.slice a2 ps.length c2,fr f,fr g] W fun e w'=>∃ a c,e = .returned (.tuple #[.slice a ps.length c,.bool true])∧Rd w' a (cellsQ R)∧Below W.heap.size W w':=by
 have hn:=S.n4
 have h:=law_combine W a1 a2 c1 c2 lx ly f g r1 r2 (y1.trans x1.symm) (by omega) (fun q hq=>(mx.sm nb_ten (by decide) q hq).le (by decide)) (fun q hq=>(my.sm nb_ten (by decide) q hq).le (by decide)) hf hg L
 rw [x1,hR,shortAll_sm (mR.sm nb_ten (by decide)) (by decide)] at h
 refine Calls.mono h ?_
 rintro e w' ⟨a,c,rfl,ho,hb⟩
 exact ⟨a,c,rfl,ho.rd,hb⟩
end Go.Proofs.YtlomhfknmhaboaaGreatDoor

namespace Go.Proofs.YtlomhfknmhaboaaGreatDoor
open Go.RowKit
theorem fr_int (z:Int):fr ((z:Int):Rat) = .agg #[.string (itx z),.string ⟨#[49]⟩]:=by
 unfold fr fv
 rw [Rat.num_intCast,Rat.den_intCast,dec_one]
theorem part_int (z:Int):mkRat z 1=((z:Int):Rat):=by
 rw [Rat.mkRat_eq_div,show ((1:Nat):Rat)=1 from rfl,Rat.div_def,Rat.inv_eq_of_mul_eq_one (Rat.mul_one 1),Rat.mul_one]
theorem zeros_zero (m:Nat):∀ q∈partsQ (fun _=>0) (fun _=>0) m,q=0:=by
 intro q hq
 obtain ⟨i,_,rfl⟩:=List.mem_map.1 hq
 show fracQ 0 0=0
 decide +kernel
theorem zeros_iff {l:List Rat} {m:Nat} (h:l.length=m):l=partsQ (fun _=>0) (fun _=>0) m↔∀ q∈l,q=0:=by
 constructor
 ·intro e
  rw [e]; exact zeros_zero m
 ·intro h0
  refine List.ext_getElem (by rw [partsQ_length]; exact h) fun i h1 h2=>?_
  rw [h0 _ (List.getElem_mem h1),zeros_zero m _ (List.getElem_mem h2)]
theorem tlQ_zero {ps:List Int} {l:List Rat} (h:∀ q∈l,q=0):tlQ ps l=[]:=by
 refine List.eq_nil_iff_forall_not_mem.2 fun x hx=>?_
 obtain ⟨_,q,hq,hn,_⟩:=tlist_mem hx
 exact hn (by rw [h q hq]; rfl)
set_option maxRecDepth 100000 in
set_option maxHeartbeats 64000000 in
theorem lawFloors_zero (w:World) (pn:Nat) (nA:Nat→Int) (dA:Nat→Nat) (nB:Nat→Int) (dB:Nat→Nat) (hpn:pn < 256) (hnA:∀ k,-128≤nA k∧nA k≤127) (hdA:∀ k,dA k < 256) (hnB:∀ k,-128≤nB k∧nB k≤127) (hdB:∀ k,dB k < 256) (L:Laid w) (h0:∀ q∈partsQ nB dB (primesL (pn % 10)).length,q=0) :
  Gives Tryz.prog 7 #[.agg (pairV pn nA dA nB dB)] w (.bool true):=by
 have hez:=(zeros_iff (partsQ_length nB dB (primesL (pn % 10)).length)).2 h0
 unfold Gives
 have hk:pn % 10 < 10:=Nat.mod_lt _ (by decide)
 have HPr:=Lib.hid (fun W=>primes_any W pn hpn)
 have hp:=primesL_ok (pn % 10) hk
 have hps:=primesL_small (pn % 10) hk
 obtain ⟨hp0,hp4,hp1,hp2⟩:=hp
 obtain ⟨hq1,hq2⟩:=hps
 have h97:∀ p∈primesL (pn % 10),2≤p∧p≤97:=fun p hp=>by have:=hp2 p hp; omega
 have HK:Hid (∀ W,Below w.heap.size w W→Gives Tryz.prog 12 #[] W (.bool true)):=fun W hW=>known_ok W (L.below hW)
 have HA:Hid (∀ W a0 c0,Below w.heap.size w W→Calls Tryz.prog 15 #[.slice a0 (primesL (pn % 10)).length c0,.agg #[.int .i8 (nA 0),.int .u8 (dA 0),.int .i8 (nA 1),.int .u8 (dA 1),.int .i8 (nA 2),.int .u8 (dA 2),.int .i8 (nA 3),.int .u8 (dA 3)]] W fun e w'=>∃ a c,e = .returned (.slice a (primesL (pn % 10)).length c)∧Rd w' a (cellsQ (partsQ nA dA (primesL (pn % 10)).length))∧Below W.heap.size W w'):=fun W a0 c0 hW=>by
  refine Calls.mono (make_any W a0 c0 (primesL (pn % 10)).length hp4 nA dA hnA hdA (L.below hW)) ?_
  rintro e w' ⟨a,c,rfl,ho,hb⟩
  exact ⟨a,c,rfl,ho.rd,hb⟩
 have HB:Hid (∀ W a0 c0,Below w.heap.size w W→Calls Tryz.prog 15 #[.slice a0 (primesL (pn % 10)).length c0,.agg #[.int .i8 (nB 0),.int .u8 (dB 0),.int .i8 (nB 1),.int .u8 (dB 1),.int .i8 (nB 2),.int .u8 (dB 2),.int .i8 (nB 3),.int .u8 (dB 3)]] W fun e w'=>∃ a c,e = .returned (.slice a (primesL (pn % 10)).length c)∧Rd w' a (cellsQ (partsQ nB dB (primesL (pn % 10)).length))∧Below W.heap.size W w'):=fun W a0 c0 hW=>by
  refine Calls.mono (make_any W a0 c0 (primesL (pn % 10)).length hp4 nB dB hnB hdB (L.below hW)) ?_
  rintro e w' ⟨a,c,rfl,ho,hb⟩
  exact ⟨a,c,rfl,ho.rd,hb⟩
 have HZ:Hid (∀ W a0 c0,Below w.heap.size w W→Calls Tryz.prog 15 #[.slice a0 (primesL (pn % 10)).length c0,.agg #[.int .i8 0,.int .u8 0,.int .i8 0,.int .u8 0,.int .i8 0,.int .u8 0,.int .i8 0,.int .u8 0]] W fun e w'=>∃ a c,e = .returned (.slice a (primesL (pn % 10)).length c)∧Rd w' a (cellsQ (partsQ (fun _=>0) (fun _=>0) (primesL (pn % 10)).length))∧Below W.heap.size W w'):=fun W a0 c0 hW=>by
  refine Calls.mono (make_any W a0 c0 (primesL (pn % 10)).length hp4 (fun _=>0) (fun _=>0) (fun _=>by decide) (fun _=>by decide) (L.below hW)) ?_
  rintro e w' ⟨a,c,rfl,ho,hb⟩
  exact ⟨a,c,rfl,ho.rd,hb⟩
 have ma:=partsQ_sml nA dA (primesL (pn % 10)).length
 have mb:=partsQ_sml nB dB (primesL (pn % 10)).length
 have la1:=partsQ_length nA dA (primesL (pn % 10)).length
 have lb1:=partsQ_length nB dB (primesL (pn % 10)).length
 have lz1:=partsQ_length (fun _=>0) (fun _=>0) (primesL (pn % 10)).length
 generalize partsQ nA dA (primesL (pn % 10)).length=la at *
 generalize partsQ nB dB (primesL (pn % 10)).length=lb at *
 generalize partsQ (fun _=>0) (fun _=>0) (primesL (pn % 10)).length=lz at *
 generalize hkk:pn % 10=k at *
 have HE:Hid (∀ (W:World) (a1 a2:Option Addr) (c1 c2:Nat) (lx ly:List Rat),lx.length=(primesL k).length→ly.length=(primesL k).length→Rd W a1 (cellsQ lx)→Rd W a2 (cellsQ ly)→Gives Tryz.prog 20 #[.slice a1 (primesL k).length c1,.slice a2 (primesL k).length c2] W (.bool (decide (lx=ly)))):=fun W a1 a2 c1 c2 lx ly hx hy r1 r2=>by
  have h:=equal_any W a1 a2 c1 c2 lx ly r1 r2 (by omega)
  rw [hx,hy] at h
  exact h
 have HQ:Hid (∀ (W:World) (a0 a1 a2:Option Addr) (c0 c1 c2:Nat),Below w.heap.size w W→Rd W a0 (ints (primesL k))→Rd W a1 (cellsQ la)→Rd W a2 (cellsQ lb)→QZero W a0 a1 a2 (primesL k).length c0 c1 c2):=fun W a0 a1 a2 c0 c1 c2 hW r0 r1 r2 =>
  qzero W (primesL k) a0 a1 a2 c0 c1 c2 la lb ⟨r0,r1,la1,by omega,h97,ma.sm (show 480 < 10 ^ 30 by decide +kernel) (by decide),by decide⟩ ⟨r0,r2,lb1,by omega,h97,mb.sm (show 480 < 10 ^ 30 by decide +kernel) (by decide),by decide⟩ hp0 (L.below hW) (tlQ_zero h0)
 have HE2:Hid (∀ (W:World) (a1 a2:Option Addr) (c1 c2:Nat),Rd W a1 (cellsQ lb)→Rd W a2 (cellsQ lz)→Gives Tryz.prog 20 #[.slice a1 (primesL k).length c1,.slice a2 (primesL k).length c2] W (.bool true)):=fun W a1 a2 c1 c2 r1 r2=>by
  have h:=HE.out W a1 a2 c1 c2 lb lz lb1 lz1 r1 r2
  rw [decide_eq_true hez] at h
  exact h
 clear L hpn hnA hdA hnB hdB hp0 hp1 hp2 hp4 hq1 hq2 h97 ma mb la1 lb1 lz1 h0 hez HE hk hkk
 generalize (primesL k).length=n at *
 unfold pairV
 have B0:=Lib.hid ((Below.refl w.heap.size w).alloc nr_ (.cells #[.int .u8 pn,.int .i8 (nA 0),.int .u8 (dA 0),.int .i8 (nA 1),.int .u8 (dA 1),.int .i8 (nA 2),.int .u8 (dA 2),.int .i8 (nA 3),.int .u8 (dA 3),.int .i8 (nB 0),.int .u8 (dB 0),.int .i8 (nB 1),.int .u8 (dB 1),.int .i8 (nB 2),.int .u8 (dB 2),.int .i8 (nB 3),.int .u8 (dB 3)] 50))
 have P0:=Lib.hid (heap_at w #[.int .u8 pn,.int .i8 (nA 0),.int .u8 (dA 0),.int .i8 (nA 1),.int .u8 (dA 1),.int .i8 (nA 2),.int .u8 (dA 2),.int .i8 (nA 3),.int .u8 (dA 3),.int .i8 (nB 0),.int .u8 (dB 0),.int .i8 (nB 1),.int .u8 (dB 1),.int .i8 (nB 2),.int .u8 (dB 2),.int .i8 (nB 3),.int .u8 (dB 3)] 50 _ rfl)
 go_enter Tryz.func7,Tryz.ntmps7
 go_wp2_with fail
 generalize w.alloc (.cells #[.int .u8 pn,.int .i8 (nA 0),.int .u8 (dA 0),.int .i8 (nA 1),.int .u8 (dA 1),.int .i8 (nA 2),.int .u8 (dA 2),.int .i8 (nA 3),.int .u8 (dA 3),.int .i8 (nB 0),.int .u8 (dB 0),.int .i8 (nB 1),.int .u8 (dB 1),.int .i8 (nB 2),.int .u8 (dB 2),.int .i8 (nB 3),.int .u8 (dB 3)] 50)=w0 at *
 refine Calls.mono (HK.out _ B0.out) ?_
 rintro e_ w1 ⟨rfl,hb_⟩
 have B_1:=Lib.hid (B0.out.trans (hb_.mono B0.out.size))
 replace P0:=Lib.hid (heap_kept P0.out hb_ nr_)
 clear hb_ B0 HK
 have p0:w1.cell? ⟨w.heap.size,0,none⟩=some (.int .u8 pn):=by rw [cell_of_row _ _ _ _ _ _ P0.out]; rfl
 go_wp2_with fail
 clear p0
 refine Calls.mono (HPr.out _) ?_
 rintro e_ w2 ⟨gp,rfl,rp_,hb_⟩
 have B_2:=Lib.hid (B_1.out.trans (hb_.mono B_1.out.size))
 replace P0:=Lib.hid (heap_kept P0.out hb_ nr_)
 have Rp:=Lib.hid rp_
 clear hb_ rp_ HPr B_1
 have p1:w2.cell? ⟨w.heap.size,1,none⟩=some (.int .i8 (nA 0)):=by rw [cell_of_row _ _ _ _ _ _ P0.out]; rfl
 have p2:w2.cell? ⟨w.heap.size,2,none⟩=some (.int .u8 (dA 0)):=by rw [cell_of_row _ _ _ _ _ _ P0.out]; rfl
 have p3:w2.cell? ⟨w.heap.size,3,none⟩=some (.int .i8 (nA 1)):=by rw [cell_of_row _ _ _ _ _ _ P0.out]; rfl
 have p4:w2.cell? ⟨w.heap.size,4,none⟩=some (.int .u8 (dA 1)):=by rw [cell_of_row _ _ _ _ _ _ P0.out]; rfl
 have p5:w2.cell? ⟨w.heap.size,5,none⟩=some (.int .i8 (nA 2)):=by rw [cell_of_row _ _ _ _ _ _ P0.out]; rfl
 have p6:w2.cell? ⟨w.heap.size,6,none⟩=some (.int .u8 (dA 2)):=by rw [cell_of_row _ _ _ _ _ _ P0.out]; rfl
 have p7:w2.cell? ⟨w.heap.size,7,none⟩=some (.int .i8 (nA 3)):=by rw [cell_of_row _ _ _ _ _ _ P0.out]; rfl
 have p8:w2.cell? ⟨w.heap.size,8,none⟩=some (.int .u8 (dA 3)):=by rw [cell_of_row _ _ _ _ _ _ P0.out]; rfl
 have p9:w2.cell? ⟨w.heap.size,9,none⟩=some (.int .i8 (nB 0)):=by rw [cell_of_row _ _ _ _ _ _ P0.out]; rfl
 have p10:w2.cell? ⟨w.heap.size,10,none⟩=some (.int .u8 (dB 0)):=by rw [cell_of_row _ _ _ _ _ _ P0.out]; rfl
 have p11:w2.cell? ⟨w.heap.size,11,none⟩=some (.int .i8 (nB 1)):=by rw [cell_of_row _ _ _ _ _ _ P0.out]; rfl
 have p12:w2.cell? ⟨w.heap.size,12,none⟩=some (.int .u8 (dB 1)):=by rw [cell_of_row _ _ _ _ _ _ P0.out]; rfl
 have p13:w2.cell? ⟨w.heap.size,13,none⟩=some (.int .i8 (nB 2)):=by rw [cell_of_row _ _ _ _ _ _ P0.out]; rfl
 have p14:w2.cell? ⟨w.heap.size,14,none⟩=some (.int .u8 (dB 2)):=by rw [cell_of_row _ _ _ _ _ _ P0.out]; rfl
 have p15:w2.cell? ⟨w.heap.size,15,none⟩=some (.int .i8 (nB 3)):=by rw [cell_of_row _ _ _ _ _ _ P0.out]; rfl
 have p16:w2.cell? ⟨w.heap.size,16,none⟩=some (.int .u8 (dB 3)):=by rw [cell_of_row _ _ _ _ _ _ P0.out]; rfl
 have q1:=BW.cell p1
 have q2:=BW.cell p2
 have q3:=BW.cell p3
 have q4:=BW.cell p4
 have q5:=BW.cell p5
 have q6:=BW.cell p6
 have q7:=BW.cell p7
 have q8:=BW.cell p8
 have q9:=BW.cell p9
 have q10:=BW.cell p10
 have q11:=BW.cell p11
 have q12:=BW.cell p12
 have q13:=BW.cell p13
 have q14:=BW.cell p14
 have q15:=BW.cell p15
 have q16:=BW.cell p16
 have hnon:Nonempty (BW w2):=⟨⟨w2,Below.refl _ _⟩⟩
 have I:Hid (Below w2.heap.size w2 w2.drew):=(Below.refl _ _).drew
 go_wp2_with fail
 clear p1 p2 p3 p4 p5 p6 p7 p8 p9 p10 p11 p12 p13 p14 p15 p16 P0
 refine RX.wp_region_readers 9 [(1,0),(1,1),(1,2),(1,4),(1,5),(1,6),(0,3),(0,7),(0,8),(0,9)] (fun w'=>∃ p:BW w2,w'=p.w) (by kernel_rfl) (by kernel_rfl) ?_ ?_
 ·exact ⟨⟨_,I.out⟩,rfl⟩
 iterate 6 (refine RX.walkR_read ?_; simp only [dsc_,dz_,tsc_,tz_]; go_big_quiet_step (fail); refine wpQuiet_nil ?_)
 clear hnon q1 q2 q3 q4 q5 q6 q7 q8 q9 q10 q11 q12 q13 q14 q15 q16
 refine RX.walkR_move ?_
 simp only [dsc_,dz_,tsc_,tz_]
 go_wp2_with fail
 refine Calls.mono (HA.out _ _ _ (B_2.out.drew)) ?_
 rintro e_ wa ⟨aa,ca,rfl,ra_,hb_⟩
 have Wa:Hid (Below w2.heap.size w2 wa):=(Below.refl w2.heap.size w2).drew.trans hb_
 have Ra:=Lib.hid ra_
 clear hb_ ra_ HA I
 go_wp2_with fail
 refine ⟨⟨⟨_,Wa.out⟩,rfl⟩,?_⟩
 refine RX.walkR_move ?_
 simp only [dsc_,dz_,tsc_,tz_]
 go_wp2_with fail
 refine Calls.mono (HB.out _ _ _ (B_2.out.trans (Wa.out.mono B_2.out.size))) ?_
 rintro e_ wb ⟨ab,cb,rfl,rb_,hb_⟩
 have Wb:=Lib.hid (Wa.out.trans (hb_.mono Wa.out.size))
 have Rb:=Lib.hid rb_
 replace Ra:=Lib.hid (Ra.out.below hb_ nr_)
 clear hb_ rb_ HB Wa
 have Bb:=Lib.hid (B_2.out.trans (Wb.out.mono B_2.out.size))
 go_wp2_with fail
 refine ⟨⟨⟨_,Wb.out⟩,rfl⟩,?_⟩
 replace Rp:=Lib.hid (Rp.out.below Wb.out nr_)
 refine RX.walkR_move ?_
 simp only [dsc_,dz_,tsc_,tz_]
 go_wp2_with fail
 refine ⟨⟨⟨_,Wb.out⟩,rfl⟩,?_⟩
 refine RX.walkR_move ?_
 simp only [dsc_,dz_,tsc_,tz_]
 go_wp2_with fail
 simp only [RX.walkR]
 clear B_2 Wb
 go_wp2_with fail
 refine Calls.mono ((HQ.out _ _ _ _ _ _ _ Bb.out Rp.out Ra.out Rb.out).fl) ?_
 rintro e_ w3 ⟨rfl,hb_⟩
 have B_3:=Lib.hid (Bb.out.trans (hb_.mono Bb.out.size))
 replace Rp:=Lib.hid (Rp.out.below hb_ nr_)
 replace Ra:=Lib.hid (Ra.out.below hb_ nr_)
 replace Rb:=Lib.hid (Rb.out.below hb_ nr_)
 clear hb_ Bb 
 go_wp2_with fail
 refine Calls.mono ((HQ.out _ _ _ _ _ _ _ B_3.out Rp.out Ra.out Rb.out).ro) ?_
 rintro e_ w4 ⟨rfl,hb_⟩
 have B_4:=Lib.hid (B_3.out.trans (hb_.mono B_3.out.size))
 replace Rp:=Lib.hid (Rp.out.below hb_ nr_)
 replace Ra:=Lib.hid (Ra.out.below hb_ nr_)
 replace Rb:=Lib.hid (Rb.out.below hb_ nr_)
 clear hb_ B_3 
 go_wp2_with fail
 refine Calls.mono ((HQ.out _ _ _ _ _ _ _ B_4.out Rp.out Ra.out Rb.out).re) ?_
 rintro e_ w5 ⟨rfl,hb_⟩
 have B_5:=Lib.hid (B_4.out.trans (hb_.mono B_4.out.size))
 replace Rp:=Lib.hid (Rp.out.below hb_ nr_)
 replace Ra:=Lib.hid (Ra.out.below hb_ nr_)
 replace Rb:=Lib.hid (Rb.out.below hb_ nr_)
 clear hb_ B_4 
 go_wp2_with fail
 refine Calls.mono (HZ.out _ _ _ B_5.out) ?_
 rintro e_ w6 ⟨az,cz,rfl,r_,hb_⟩
 have B_6:=Lib.hid (B_5.out.trans (hb_.mono B_5.out.size))
 replace Rp:=Lib.hid (Rp.out.below hb_ nr_)
 replace Ra:=Lib.hid (Ra.out.below hb_ nr_)
 replace Rb:=Lib.hid (Rb.out.below hb_ nr_)
 have Rz:=Lib.hid r_
 clear hb_ r_ B_5 HZ
 go_wp2_with fail
 refine Calls.mono (HE2.out _ _ _ _ _ Rb.out Rz.out) ?_
 rintro e_ w7 ⟨rfl,hb_⟩
 have B_7:=Lib.hid (B_6.out.trans (hb_.mono B_6.out.size))
 replace Rp:=Lib.hid (Rp.out.below hb_ nr_)
 replace Ra:=Lib.hid (Ra.out.below hb_ nr_)
 replace Rb:=Lib.hid (Rb.out.below hb_ nr_)
 replace Rz:=Lib.hid (Rz.out.below hb_ nr_)
 clear hb_ B_6 
 go_wp2_with fail
 go_ret
 exact ⟨rfl,B_7.out⟩
set_option maxRecDepth 100000 in
set_option maxHeartbeats 64000000 in
theorem lawFloors_ne (w:World) (pn:Nat) (nA:Nat→Int) (dA:Nat→Nat) (nB:Nat→Int) (dB:Nat→Nat) (hpn:pn < 256) (hnA:∀ k,-128≤nA k∧nA k≤127) (hdA:∀ k,dA k < 256) (hnB:∀ k,-128≤nB k∧nB k≤127) (hdB:∀ k,dB k < 256) (L:Laid w) (h0:¬ ∀ q∈partsQ nB dB (primesL (pn % 10)).length,q=0) :
  Gives Tryz.prog 7 #[.agg (pairV pn nA dA nB dB)] w (.bool true):=by
 have hez:=fun h=>h0 ((zeros_iff (partsQ_length nB dB (primesL (pn % 10)).length)).1 h)
 unfold Gives
 have hk:pn % 10 < 10:=Nat.mod_lt _ (by decide)
 have HPr:=Lib.hid (fun W=>primes_any W pn hpn)
 have hp:=primesL_ok (pn % 10) hk
 have hps:=primesL_small (pn % 10) hk
 obtain ⟨hp0,hp4,hp1,hp2⟩:=hp
 obtain ⟨hq1,hq2⟩:=hps
 have h97:∀ p∈primesL (pn % 10),2≤p∧p≤97:=fun p hp=>by have:=hp2 p hp; omega
 have HK:Hid (∀ W,Below w.heap.size w W→Gives Tryz.prog 12 #[] W (.bool true)):=fun W hW=>known_ok W (L.below hW)
 have HA:Hid (∀ W a0 c0,Below w.heap.size w W→Calls Tryz.prog 15 #[.slice a0 (primesL (pn % 10)).length c0,.agg #[.int .i8 (nA 0),.int .u8 (dA 0),.int .i8 (nA 1),.int .u8 (dA 1),.int .i8 (nA 2),.int .u8 (dA 2),.int .i8 (nA 3),.int .u8 (dA 3)]] W fun e w'=>∃ a c,e = .returned (.slice a (primesL (pn % 10)).length c)∧Rd w' a (cellsQ (partsQ nA dA (primesL (pn % 10)).length))∧Below W.heap.size W w'):=fun W a0 c0 hW=>by
  refine Calls.mono (make_any W a0 c0 (primesL (pn % 10)).length hp4 nA dA hnA hdA (L.below hW)) ?_
  rintro e w' ⟨a,c,rfl,ho,hb⟩
  exact ⟨a,c,rfl,ho.rd,hb⟩
 have HB:Hid (∀ W a0 c0,Below w.heap.size w W→Calls Tryz.prog 15 #[.slice a0 (primesL (pn % 10)).length c0,.agg #[.int .i8 (nB 0),.int .u8 (dB 0),.int .i8 (nB 1),.int .u8 (dB 1),.int .i8 (nB 2),.int .u8 (dB 2),.int .i8 (nB 3),.int .u8 (dB 3)]] W fun e w'=>∃ a c,e = .returned (.slice a (primesL (pn % 10)).length c)∧Rd w' a (cellsQ (partsQ nB dB (primesL (pn % 10)).length))∧Below W.heap.size W w'):=fun W a0 c0 hW=>by
  refine Calls.mono (make_any W a0 c0 (primesL (pn % 10)).length hp4 nB dB hnB hdB (L.below hW)) ?_
  rintro e w' ⟨a,c,rfl,ho,hb⟩
  exact ⟨a,c,rfl,ho.rd,hb⟩
 have HZ:Hid (∀ W a0 c0,Below w.heap.size w W→Calls Tryz.prog 15 #[.slice a0 (primesL (pn % 10)).length c0,.agg #[.int .i8 0,.int .u8 0,.int .i8 0,.int .u8 0,.int .i8 0,.int .u8 0,.int .i8 0,.int .u8 0]] W fun e w'=>∃ a c,e = .returned (.slice a (primesL (pn % 10)).length c)∧Rd w' a (cellsQ (partsQ (fun _=>0) (fun _=>0) (primesL (pn % 10)).length))∧Below W.heap.size W w'):=fun W a0 c0 hW=>by
  refine Calls.mono (make_any W a0 c0 (primesL (pn % 10)).length hp4 (fun _=>0) (fun _=>0) (fun _=>by decide) (fun _=>by decide) (L.below hW)) ?_
  rintro e w' ⟨a,c,rfl,ho,hb⟩
  exact ⟨a,c,rfl,ho.rd,hb⟩
 have ma:=partsQ_sml nA dA (primesL (pn % 10)).length
 have mb:=partsQ_sml nB dB (primesL (pn % 10)).length
 have la1:=partsQ_length nA dA (primesL (pn % 10)).length
 have lb1:=partsQ_length nB dB (primesL (pn % 10)).length
 have lz1:=partsQ_length (fun _=>0) (fun _=>0) (primesL (pn % 10)).length
 generalize partsQ nA dA (primesL (pn % 10)).length=la at *
 generalize partsQ nB dB (primesL (pn % 10)).length=lb at *
 generalize partsQ (fun _=>0) (fun _=>0) (primesL (pn % 10)).length=lz at *
 generalize hkk:pn % 10=k at *
 have HE:Hid (∀ (W:World) (a1 a2:Option Addr) (c1 c2:Nat) (lx ly:List Rat),lx.length=(primesL k).length→ly.length=(primesL k).length→Rd W a1 (cellsQ lx)→Rd W a2 (cellsQ ly)→Gives Tryz.prog 20 #[.slice a1 (primesL k).length c1,.slice a2 (primesL k).length c2] W (.bool (decide (lx=ly)))):=fun W a1 a2 c1 c2 lx ly hx hy r1 r2=>by
  have h:=equal_any W a1 a2 c1 c2 lx ly r1 r2 (by omega)
  rw [hx,hy] at h
  exact h
 have S:FlS (primesL k) la lb:=⟨hp0,hq1,hq2,hp4,hp2,la1,lb1,ma,mb,Classical.byContradiction fun hc=>h0 fun q hq=>Classical.byContradiction fun h=>hc ⟨q,hq,h⟩⟩
 obtain ⟨q,n,FL⟩:=flf_exists hk S
 have bq:=FL.b1
 have bn:=FL.b2
 have h19:=qc_ten19
 have sq19:q.natAbs < 10 ^ 19:=Nat.lt_of_le_of_lt (Nat.le_succ_of_le bq) h19
 have sn19:n.natAbs < 10 ^ 19:=Nat.lt_of_le_of_lt (Nat.le_succ_of_le bn) h19
 have zq:=itx_size q 19 (by decide) sq19
 have zn:=itx_size n 19 (by decide) sn19
 have dq:=(size_lt q.natAbs 19 (by decide)).2 sq19
 have dn:=(size_lt n.natAbs 19 (by decide)).2 sn19
 have HFl:Hid (∀ (W:World) (a0 a1 a2:Option Addr) (c0 c1 c2:Nat),Below w.heap.size w W→Rd W a0 (ints (primesL k))→Rd W a1 (cellsQ la)→Rd W a2 (cellsQ lb)→Gives Tryz.prog 30 #[.slice a0 (primesL k).length c0,.slice a1 (primesL k).length c1,.slice a2 (primesL k).length c2] W (.tuple #[.string (itx q),.int .i64 0])):=fun W a0 a1 a2 c0 c1 c2 hW r0 r1 r2=>FL.floor S W a0 a1 a2 c0 c1 c2 r0 r1 r2 (L.below hW)
 have HRo:Hid (∀ (W:World) (a0 a1 a2:Option Addr) (c0 c1 c2:Nat),Below w.heap.size w W→Rd W a0 (ints (primesL k))→Rd W a1 (cellsQ la)→Rd W a2 (cellsQ lb)→Gives Tryz.prog 31 #[.slice a0 (primesL k).length c0,.slice a1 (primesL k).length c1,.slice a2 (primesL k).length c2] W (.tuple #[.string (itx n),.int .i64 0])):=fun W a0 a1 a2 c0 c1 c2 hW r0 r1 r2=>FL.round S W a0 a1 a2 c0 c1 c2 r0 r1 r2 (L.below hW)
 have HRe:Hid (∀ (W:World) (a0 a1 a2:Option Addr) (c0 c1 c2:Nat),Below w.heap.size w W→Rd W a0 (ints (primesL k))→Rd W a1 (cellsQ la)→Rd W a2 (cellsQ lb)→Calls Tryz.prog 32 #[.slice a0 (primesL k).length c0,.slice a1 (primesL k).length c1,.slice a2 (primesL k).length c2] W fun e w'=>∃ a c,e = .returned (.tuple #[.slice a (primesL k).length c,.int .i64 0])∧Rd w' a (cellsQ (LN.subQ q la lb))∧Below W.heap.size W w'):=fun W a0 a1 a2 c0 c1 c2 hW r0 r1 r2=>FL.rem S W a0 a1 a2 c0 c1 c2 r0 r1 r2 (L.below hW)
 have HE2:Hid (∀ (W:World) (a1 a2:Option Addr) (c1 c2:Nat),Rd W a1 (cellsQ lb)→Rd W a2 (cellsQ lz)→Gives Tryz.prog 20 #[.slice a1 (primesL k).length c1,.slice a2 (primesL k).length c2] W (.bool false)):=fun W a1 a2 c1 c2 r1 r2=>by
  have h:=HE.out W a1 a2 c1 c2 lb lz lb1 lz1 r1 r2
  rw [decide_eq_false hez] at h
  exact h
 have HE3:Hid (∀ (W:World) (a1 a2:Option Addr) (c1 c2:Nat),Rd W a1 (cellsQ (LN.subQ q la lb))→Rd W a2 (cellsQ (LN.subQ q la lb))→Gives Tryz.prog 20 #[.slice a1 (primesL k).length c1,.slice a2 (primesL k).length c2] W (.bool true)):=fun W a1 a2 c1 c2 r1 r2=>by
  have h:=HE.out W a1 a2 c1 c2 _ _ (sub_len la1 lb1 q) (sub_len la1 lb1 q) r1 r2
  rw [decide_eq_true rfl] at h
  exact h
 have HC1:Hid (∀ W,Gives Tryz.prog 33 #[.string (itx q)] W (.int .i64 0)):=fun W=>checkZS_yes W _ ⟨q,rfl,by omega⟩
 have HC2:Hid (∀ W,Gives Tryz.prog 33 #[.string (itx n)] W (.int .i64 0)):=fun W=>checkZS_yes W _ ⟨n,rfl,by omega⟩
 have HNg:Hid (∀ W,Gives Tryz.prog 34 #[.string (itx q)] W (.string (itx (-q)))):=fun W=>neg_any W q (show (dec q.natAbs).size≤1000000 by omega)
 have HP:∀ z:Int,-100≤z→z≤100→∀ W,Below w.heap.size w W→Gives Tryz.prog 18 #[.int .i64 z,.int .i64 1] W (.agg #[.string (itx z),.string ⟨#[49]⟩]):=fun z h1 h2 W hW=>by
  have h:=partR W z 1 (by omega) (by omega) (by decide) (by decide) (L.below hW)
  rw [part_int,fr_int] at h
  exact h
 have HP1:Hid (∀ W,Below w.heap.size w W→Gives Tryz.prog 18 #[.int .i64 1,.int .i64 1] W (.agg #[.string (itx 1),.string ⟨#[49]⟩])):=HP 1 (by decide) (by decide)
 have HP2:Hid (∀ W,Below w.heap.size w W→Gives Tryz.prog 18 #[.int .i64 2,.int .i64 1] W (.agg #[.string (itx 2),.string ⟨#[49]⟩])):=HP 2 (by decide) (by decide)
 have HPm:Hid (∀ W,Below w.heap.size w W→Gives Tryz.prog 18 #[.int .i64 (-2),.int .i64 1] W (.agg #[.string (itx (-2)),.string ⟨#[49]⟩])):=HP (-2) (by decide) (by decide)
 have HP0:Hid (∀ W,Below w.heap.size w W→Gives Tryz.prog 18 #[.int .i64 0,.int .i64 1] W (.agg #[.string (itx 0),.string ⟨#[49]⟩])):=HP 0 (by decide) (by decide)
 have si:∀ (z:Int) (D:Nat),z.natAbs < 10 ^ D→0 < D→Sm D ((z:Int):Rat):=fun z D h hD=>⟨by rw [Rat.num_intCast]; exact h,by rw [Rat.den_intCast]; exact Nat.one_lt_pow (by omega) (by decide)⟩
 have emul:((-2:Int):Rat) * ((n:Int):Rat)=((-2 * n:Int):Rat):=(Rat.intCast_mul _ _).symm
 have HMu:Hid (∀ W,Below w.heap.size w W→Gives Tryz.prog 35 #[.agg #[.string (itx (-2)),.string ⟨#[49]⟩],.agg #[.string (itx n),.string ⟨#[49]⟩]] W (.agg #[.string (itx (-2 * n)),.string ⟨#[49]⟩])):=fun W hW=>by
  have h:=mulR W ((-2:Int):Rat) ((n:Int):Rat) 1 19 (si (-2) 1 (by decide) (by decide)) (si n 19 sn19 (by decide)) (by decide) (L.below hW)
  rw [emul,fr_int,fr_int,fr_int] at h
  exact h
 have m480:480≤NB:=nb_le (by decide)
 have hq2c:q.natAbs≤QC + 2:=Nat.le_succ_of_le bq
 have hn2c:n.natAbs≤QC + 2:=Nat.le_succ_of_le bn
 have s1:Sm 400 ((1:Int):Rat):=(si 1 1 (by decide) (by decide)).le (by decide)
 have s2:Sm 400 ((2:Int):Rat):=(si 2 1 (by decide) (by decide)).le (by decide)
 have s0:Sm 400 ((0:Int):Rat):=(si 0 1 (by decide) (by decide)).le (by decide)
 have sq:Sm 400 ((-q:Int):Rat):=(si (-q) 19 (by omega) (by decide)).le (by decide)
 have sm2:Sm 400 ((-2 * n:Int):Rat):=by
  have h:=(si (-2) 1 (by decide) (by decide)).mul (si n 19 sn19 (by decide))
  rw [emul] at h
  exact h.le (by decide)
 have HD1:Hid (∀ (W:World) (a1 a2:Option Addr) (c1 c2:Nat),Below w.heap.size w W→Rd W a1 (cellsQ la)→Rd W a2 (cellsQ lb)→Calls Tryz.prog 17 #[.slice a1 (primesL k).length c1,.slice a2 (primesL k).length c2,.agg #[.string (itx 1),.string ⟨#[49]⟩],.agg #[.string (itx (-q)),.string ⟨#[49]⟩]] W fun e w'=>∃ a c,e = .returned (.tuple #[.slice a (primesL k).length c,.bool true])∧Rd w' a (cellsQ (LN.subQ q la lb))∧Below W.heap.size W w'):=fun W a1 a2 c1 c2 hW r1 r2=>by
  have h:=S.comb la1 lb1 (ma.le m480) (mb.le m480) W a1 a2 c1 c2 ((1:Int):Rat) ((-q:Int):Rat) s1 sq r1 r2 (L.below hW) (sub_comb q la lb).symm (sub_sml ma mb (by decide) (by decide) hq2c)
  rw [fr_int,fr_int] at h
  exact h
 have HD2:Hid (∀ (W:World) (a1 a2:Option Addr) (c1 c2:Nat),Below w.heap.size w W→Rd W a1 (cellsQ la)→Rd W a2 (cellsQ lb)→Calls Tryz.prog 17 #[.slice a1 (primesL k).length c1,.slice a2 (primesL k).length c2,.agg #[.string (itx 2),.string ⟨#[49]⟩],.agg #[.string (itx 1),.string ⟨#[49]⟩]] W fun e w'=>∃ a c,e = .returned (.tuple #[.slice a (primesL k).length c,.bool true])∧Rd w' a (cellsQ (combineQ la lb 2 1))∧Below W.heap.size W w'):=fun W a1 a2 c1 c2 hW r1 r2=>by
  have h:=S.comb la1 lb1 (ma.le m480) (mb.le m480) W a1 a2 c1 c2 ((2:Int):Rat) ((1:Int):Rat) s2 s1 r1 r2 (L.below hW) (R:=combineQ la lb 2 1) rfl (S.mt.le (nb_le (by decide)))
  rw [fr_int,fr_int] at h
  exact h
 have HD3:Hid (∀ (W:World) (a1 a2:Option Addr) (c1 c2:Nat),Below w.heap.size w W→Rd W a1 (cellsQ (combineQ la lb 2 1))→Rd W a2 (cellsQ lb)→Calls Tryz.prog 17 #[.slice a1 (primesL k).length c1,.slice a2 (primesL k).length c2,.agg #[.string (itx 1),.string ⟨#[49]⟩],.agg #[.string (itx (-2 * n)),.string ⟨#[49]⟩]] W fun e w'=>∃ a c,e = .returned (.tuple #[.slice a (primesL k).length c,.bool true])∧Rd w' a (cellsQ (LN.subQ n (combineQ la lb 2 1) (combineQ lb lb 2 0)))∧Below W.heap.size W w'):=fun W a1 a2 c1 c2 hW r1 r2=>by
  have h:=S.comb S.lt lb1 (S.mt.le (nb_le (by decide))) (mb.le m480) W a1 a2 c1 c2 ((1:Int):Rat) ((-2 * n:Int):Rat) s1 sm2 r1 r2 (L.below hW) (by rw [← emul]; exact dbl_eq n) (sub_sml S.mt S.mu (by decide) (by decide) hn2c)
  rw [fr_int,fr_int] at h
  exact h
 have HD4:Hid (∀ (W:World) (a1 a2:Option Addr) (c1 c2:Nat),Below w.heap.size w W→Rd W a1 (cellsQ lb)→Rd W a2 (cellsQ lb)→Calls Tryz.prog 17 #[.slice a1 (primesL k).length c1,.slice a2 (primesL k).length c2,.agg #[.string (itx 2),.string ⟨#[49]⟩],.agg #[.string (itx 0),.string ⟨#[49]⟩]] W fun e w'=>∃ a c,e = .returned (.tuple #[.slice a (primesL k).length c,.bool true])∧Rd w' a (cellsQ (combineQ lb lb 2 0))∧Below W.heap.size W w'):=fun W a1 a2 c1 c2 hW r1 r2=>by
  have h:=S.comb lb1 lb1 (mb.le m480) (mb.le m480) W a1 a2 c1 c2 ((2:Int):Rat) ((0:Int):Rat) s2 s0 r1 r2 (L.below hW) (R:=combineQ lb lb 2 0) rfl (S.mu.le (nb_le (by decide)))
  rw [fr_int,fr_int] at h
  exact h
 have HW1:Hid (∀ (W:World) (a0 a1 a2:Option Addr) (c0 c1 c2:Nat),Below w.heap.size w W→Rd W a0 (ints (primesL k))→Rd W a1 (cellsQ (LN.subQ q la lb))→Rd W a2 (cellsQ lb)→Gives Tryz.prog 36 #[.slice a0 (primesL k).length c0,.slice a1 (primesL k).length c1,.slice a2 (primesL k).length c2] W (.bool true)):=fun W a0 a1 a2 c0 c1 c2 hW r0 r1 r2=>FL.in1 S W a0 a1 a2 c0 c1 c2 r0 r1 r2 (L.below hW)
 have HW2:Hid (∀ (W:World) (a0 a1 a2:Option Addr) (c0 c1 c2:Nat),Below w.heap.size w W→Rd W a0 (ints (primesL k))→Rd W a1 (cellsQ (LN.subQ n (combineQ la lb 2 1) (combineQ lb lb 2 0)))→Rd W a2 (cellsQ (combineQ lb lb 2 0))→Gives Tryz.prog 36 #[.slice a0 (primesL k).length c0,.slice a1 (primesL k).length c1,.slice a2 (primesL k).length c2] W (.bool true)):=fun W a0 a1 a2 c0 c1 c2 hW r0 r1 r2=>FL.in2 S W a0 a1 a2 c0 c1 c2 r0 r1 r2 (L.below hW)
 have zq':¬ (20:Int) < (itx q).size:=by omega
 have zn':¬ (20:Int) < (itx n).size:=by omega
 clear L hpn hnA hdA hnB hdB hp0 hp1 hp2 hp4 hq1 hq2 h97 ma mb la1 lb1 lz1 h0 hez HE hk hkk S FL bq bn h19 sq19 sn19 zq zn dq dn HP si emul m480 hq2c hn2c s1 s2 s0 sq sm2
 generalize LN.subQ n (combineQ la lb 2 1) (combineQ lb lb 2 0)=ldb at *
 generalize LN.subQ q la lb=lr at *
 generalize combineQ la lb 2 1=lt at *
 generalize combineQ lb lb 2 0=lu at *
 generalize itx (-2 * n)=x2n at *
 generalize itx (-q)=xmq at *
 generalize itx (-2)=xm2 at *
 generalize itx q=xq at *
 generalize itx n=xn at *
 generalize itx 0=x0 at *
 generalize itx 1=x1 at *
 generalize itx 2=x2 at *
 generalize (primesL k).length=m at *
 unfold pairV
 have B0:=Lib.hid ((Below.refl w.heap.size w).alloc nr_ (.cells #[.int .u8 pn,.int .i8 (nA 0),.int .u8 (dA 0),.int .i8 (nA 1),.int .u8 (dA 1),.int .i8 (nA 2),.int .u8 (dA 2),.int .i8 (nA 3),.int .u8 (dA 3),.int .i8 (nB 0),.int .u8 (dB 0),.int .i8 (nB 1),.int .u8 (dB 1),.int .i8 (nB 2),.int .u8 (dB 2),.int .i8 (nB 3),.int .u8 (dB 3)] 50))
 have P0:=Lib.hid (heap_at w #[.int .u8 pn,.int .i8 (nA 0),.int .u8 (dA 0),.int .i8 (nA 1),.int .u8 (dA 1),.int .i8 (nA 2),.int .u8 (dA 2),.int .i8 (nA 3),.int .u8 (dA 3),.int .i8 (nB 0),.int .u8 (dB 0),.int .i8 (nB 1),.int .u8 (dB 1),.int .i8 (nB 2),.int .u8 (dB 2),.int .i8 (nB 3),.int .u8 (dB 3)] 50 _ rfl)
 go_enter Tryz.func7,Tryz.ntmps7
 go_wp2_with fail
 generalize w.alloc (.cells #[.int .u8 pn,.int .i8 (nA 0),.int .u8 (dA 0),.int .i8 (nA 1),.int .u8 (dA 1),.int .i8 (nA 2),.int .u8 (dA 2),.int .i8 (nA 3),.int .u8 (dA 3),.int .i8 (nB 0),.int .u8 (dB 0),.int .i8 (nB 1),.int .u8 (dB 1),.int .i8 (nB 2),.int .u8 (dB 2),.int .i8 (nB 3),.int .u8 (dB 3)] 50)=w0 at *
 refine Calls.mono (HK.out _ B0.out) ?_
 rintro e_ w1 ⟨rfl,hb_⟩
 have B_1:=Lib.hid (B0.out.trans (hb_.mono B0.out.size))
 replace P0:=Lib.hid (heap_kept P0.out hb_ nr_)
 clear hb_ B0 HK
 have p0:w1.cell? ⟨w.heap.size,0,none⟩=some (.int .u8 pn):=by rw [cell_of_row _ _ _ _ _ _ P0.out]; rfl
 go_wp2_with fail
 clear p0
 refine Calls.mono (HPr.out _) ?_
 rintro e_ w2 ⟨gp,rfl,rp_,hb_⟩
 have B_2:=Lib.hid (B_1.out.trans (hb_.mono B_1.out.size))
 replace P0:=Lib.hid (heap_kept P0.out hb_ nr_)
 have Rp:=Lib.hid rp_
 clear hb_ rp_ HPr B_1
 have p1:w2.cell? ⟨w.heap.size,1,none⟩=some (.int .i8 (nA 0)):=by rw [cell_of_row _ _ _ _ _ _ P0.out]; rfl
 have p2:w2.cell? ⟨w.heap.size,2,none⟩=some (.int .u8 (dA 0)):=by rw [cell_of_row _ _ _ _ _ _ P0.out]; rfl
 have p3:w2.cell? ⟨w.heap.size,3,none⟩=some (.int .i8 (nA 1)):=by rw [cell_of_row _ _ _ _ _ _ P0.out]; rfl
 have p4:w2.cell? ⟨w.heap.size,4,none⟩=some (.int .u8 (dA 1)):=by rw [cell_of_row _ _ _ _ _ _ P0.out]; rfl
 have p5:w2.cell? ⟨w.heap.size,5,none⟩=some (.int .i8 (nA 2)):=by rw [cell_of_row _ _ _ _ _ _ P0.out]; rfl
 have p6:w2.cell? ⟨w.heap.size,6,none⟩=some (.int .u8 (dA 2)):=by rw [cell_of_row _ _ _ _ _ _ P0.out]; rfl
 have p7:w2.cell? ⟨w.heap.size,7,none⟩=some (.int .i8 (nA 3)):=by rw [cell_of_row _ _ _ _ _ _ P0.out]; rfl
 have p8:w2.cell? ⟨w.heap.size,8,none⟩=some (.int .u8 (dA 3)):=by rw [cell_of_row _ _ _ _ _ _ P0.out]; rfl
 have p9:w2.cell? ⟨w.heap.size,9,none⟩=some (.int .i8 (nB 0)):=by rw [cell_of_row _ _ _ _ _ _ P0.out]; rfl
 have p10:w2.cell? ⟨w.heap.size,10,none⟩=some (.int .u8 (dB 0)):=by rw [cell_of_row _ _ _ _ _ _ P0.out]; rfl
 have p11:w2.cell? ⟨w.heap.size,11,none⟩=some (.int .i8 (nB 1)):=by rw [cell_of_row _ _ _ _ _ _ P0.out]; rfl
 have p12:w2.cell? ⟨w.heap.size,12,none⟩=some (.int .u8 (dB 1)):=by rw [cell_of_row _ _ _ _ _ _ P0.out]; rfl
 have p13:w2.cell? ⟨w.heap.size,13,none⟩=some (.int .i8 (nB 2)):=by rw [cell_of_row _ _ _ _ _ _ P0.out]; rfl
 have p14:w2.cell? ⟨w.heap.size,14,none⟩=some (.int .u8 (dB 2)):=by rw [cell_of_row _ _ _ _ _ _ P0.out]; rfl
 have p15:w2.cell? ⟨w.heap.size,15,none⟩=some (.int .i8 (nB 3)):=by rw [cell_of_row _ _ _ _ _ _ P0.out]; rfl
 have p16:w2.cell? ⟨w.heap.size,16,none⟩=some (.int .u8 (dB 3)):=by rw [cell_of_row _ _ _ _ _ _ P0.out]; rfl
 have q1:=BW.cell p1
 have q2:=BW.cell p2
 have q3:=BW.cell p3
 have q4:=BW.cell p4
 have q5:=BW.cell p5
 have q6:=BW.cell p6
 have q7:=BW.cell p7
 have q8:=BW.cell p8
 have q9:=BW.cell p9
 have q10:=BW.cell p10
 have q11:=BW.cell p11
 have q12:=BW.cell p12
 have q13:=BW.cell p13
 have q14:=BW.cell p14
 have q15:=BW.cell p15
 have q16:=BW.cell p16
 have hnon:Nonempty (BW w2):=⟨⟨w2,Below.refl _ _⟩⟩
 have I:Hid (Below w2.heap.size w2 w2.drew):=(Below.refl _ _).drew
 go_wp2_with fail
 clear p1 p2 p3 p4 p5 p6 p7 p8 p9 p10 p11 p12 p13 p14 p15 p16 P0
 refine RX.wp_region_readers 9 [(1,0),(1,1),(1,2),(1,4),(1,5),(1,6),(0,3),(0,7),(0,8),(0,9)] (fun w'=>∃ p:BW w2,w'=p.w) (by kernel_rfl) (by kernel_rfl) ?_ ?_
 ·exact ⟨⟨_,I.out⟩,rfl⟩
 iterate 6 (refine RX.walkR_read ?_; simp only [dsc_,dz_,tsc_,tz_]; go_big_quiet_step (fail); refine wpQuiet_nil ?_)
 clear hnon q1 q2 q3 q4 q5 q6 q7 q8 q9 q10 q11 q12 q13 q14 q15 q16
 refine RX.walkR_move ?_
 simp only [dsc_,dz_,tsc_,tz_]
 go_wp2_with fail
 refine Calls.mono (HA.out _ _ _ (B_2.out.drew)) ?_
 rintro e_ wa ⟨aa,ca,rfl,ra_,hb_⟩
 have Wa:Hid (Below w2.heap.size w2 wa):=(Below.refl w2.heap.size w2).drew.trans hb_
 have Ra:=Lib.hid ra_
 clear hb_ ra_ HA I
 go_wp2_with fail
 refine ⟨⟨⟨_,Wa.out⟩,rfl⟩,?_⟩
 refine RX.walkR_move ?_
 simp only [dsc_,dz_,tsc_,tz_]
 go_wp2_with fail
 refine Calls.mono (HB.out _ _ _ (B_2.out.trans (Wa.out.mono B_2.out.size))) ?_
 rintro e_ wb ⟨ab,cb,rfl,rb_,hb_⟩
 have Wb:=Lib.hid (Wa.out.trans (hb_.mono Wa.out.size))
 have Rb:=Lib.hid rb_
 replace Ra:=Lib.hid (Ra.out.below hb_ nr_)
 clear hb_ rb_ HB Wa
 have Bb:=Lib.hid (B_2.out.trans (Wb.out.mono B_2.out.size))
 go_wp2_with fail
 refine ⟨⟨⟨_,Wb.out⟩,rfl⟩,?_⟩
 replace Rp:=Lib.hid (Rp.out.below Wb.out nr_)
 refine RX.walkR_move ?_
 simp only [dsc_,dz_,tsc_,tz_]
 go_wp2_with fail
 refine ⟨⟨⟨_,Wb.out⟩,rfl⟩,?_⟩
 refine RX.walkR_move ?_
 simp only [dsc_,dz_,tsc_,tz_]
 go_wp2_with fail
 simp only [RX.walkR]
 clear B_2 Wb
 go_wp2_with fail
 refine Calls.mono (HFl.out _ _ _ _ _ _ _ Bb.out Rp.out Ra.out Rb.out) ?_
 rintro e_ w3 ⟨rfl,hb_⟩
 have B_3:=Lib.hid (Bb.out.trans (hb_.mono Bb.out.size))
 replace Rp:=Lib.hid (Rp.out.below hb_ nr_)
 replace Ra:=Lib.hid (Ra.out.below hb_ nr_)
 replace Rb:=Lib.hid (Rb.out.below hb_ nr_)
 clear hb_ Bb HFl
 go_wp2_with fail
 refine Calls.mono (HRo.out _ _ _ _ _ _ _ B_3.out Rp.out Ra.out Rb.out) ?_
 rintro e_ w4 ⟨rfl,hb_⟩
 have B_4:=Lib.hid (B_3.out.trans (hb_.mono B_3.out.size))
 replace Rp:=Lib.hid (Rp.out.below hb_ nr_)
 replace Ra:=Lib.hid (Ra.out.below hb_ nr_)
 replace Rb:=Lib.hid (Rb.out.below hb_ nr_)
 clear hb_ B_3 HRo
 go_wp2_with fail
 refine Calls.mono (HRe.out _ _ _ _ _ _ _ B_4.out Rp.out Ra.out Rb.out) ?_
 rintro e_ w5 ⟨ar,cr,rfl,r_,hb_⟩
 have B_5:=Lib.hid (B_4.out.trans (hb_.mono B_4.out.size))
 replace Rp:=Lib.hid (Rp.out.below hb_ nr_)
 replace Ra:=Lib.hid (Ra.out.below hb_ nr_)
 replace Rb:=Lib.hid (Rb.out.below hb_ nr_)
 have Rr:=Lib.hid r_
 clear hb_ r_ B_4 HRe
 go_wp2_with fail
 refine Calls.mono (HZ.out _ _ _ B_5.out) ?_
 rintro e_ w6 ⟨az,cz,rfl,r_,hb_⟩
 have B_6:=Lib.hid (B_5.out.trans (hb_.mono B_5.out.size))
 replace Rp:=Lib.hid (Rp.out.below hb_ nr_)
 replace Ra:=Lib.hid (Ra.out.below hb_ nr_)
 replace Rb:=Lib.hid (Rb.out.below hb_ nr_)
 replace Rr:=Lib.hid (Rr.out.below hb_ nr_)
 have Rz:=Lib.hid r_
 clear hb_ r_ B_5 HZ
 go_wp2_with fail
 refine Calls.mono (HE2.out _ _ _ _ _ Rb.out Rz.out) ?_
 rintro e_ w7 ⟨rfl,hb_⟩
 have B_7:=Lib.hid (B_6.out.trans (hb_.mono B_6.out.size))
 replace Rp:=Lib.hid (Rp.out.below hb_ nr_)
 replace Ra:=Lib.hid (Ra.out.below hb_ nr_)
 replace Rb:=Lib.hid (Rb.out.below hb_ nr_)
 replace Rr:=Lib.hid (Rr.out.below hb_ nr_)
 replace Rz:=Lib.hid (Rz.out.below hb_ nr_)
 clear hb_ B_6 HE2 Rz
 go_wp2_with fail
 refine Calls.mono (HC1.out _) ?_
 rintro e_ w8 ⟨rfl,hb_⟩
 have B_8:=Lib.hid (B_7.out.trans (hb_.mono B_7.out.size))
 replace Rp:=Lib.hid (Rp.out.below hb_ nr_)
 replace Ra:=Lib.hid (Ra.out.below hb_ nr_)
 replace Rb:=Lib.hid (Rb.out.below hb_ nr_)
 replace Rr:=Lib.hid (Rr.out.below hb_ nr_)
 clear hb_ B_7 HC1
 go_wp2_with fail
 refine Calls.mono (HC2.out _) ?_
 rintro e_ w9 ⟨rfl,hb_⟩
 have B_9:=Lib.hid (B_8.out.trans (hb_.mono B_8.out.size))
 replace Rp:=Lib.hid (Rp.out.below hb_ nr_)
 replace Ra:=Lib.hid (Ra.out.below hb_ nr_)
 replace Rb:=Lib.hid (Rb.out.below hb_ nr_)
 replace Rr:=Lib.hid (Rr.out.below hb_ nr_)
 clear hb_ B_8 HC2
 go_wp2_with fail
 refine Calls.mono (HNg.out _) ?_
 rintro e_ w10 ⟨rfl,hb_⟩
 have B_10:=Lib.hid (B_9.out.trans (hb_.mono B_9.out.size))
 replace Rp:=Lib.hid (Rp.out.below hb_ nr_)
 replace Ra:=Lib.hid (Ra.out.below hb_ nr_)
 replace Rb:=Lib.hid (Rb.out.below hb_ nr_)
 replace Rr:=Lib.hid (Rr.out.below hb_ nr_)
 clear hb_ B_9 HNg
 go_wp2_with fail
 have B4:=Lib.hid (B_10.out.alloc B_10.out.size (.cells #[.string xmq,.string ⟨#[49]⟩] 30))
 have K4:=Lib.hid (heap_at w10 #[.string xmq,.string ⟨#[49]⟩] 30 _ rfl)
 have V4:=Lib.hid ((Below.refl w10.heap.size w10).alloc nr_ (.cells #[.string xmq,.string ⟨#[49]⟩] 30))
 replace Rp:=Lib.hid (Rp.out.below V4.out nr_)
 replace Ra:=Lib.hid (Ra.out.below V4.out nr_)
 replace Rb:=Lib.hid (Rb.out.below V4.out nr_)
 replace Rr:=Lib.hid (Rr.out.below V4.out nr_)
 generalize hN:w10.heap.size=g3 at *
 generalize w10.alloc (.cells #[.string xmq,.string ⟨#[49]⟩] 30)=w4 at *
 clear hN B_10 V4
 obtain ⟨k0,k1,-,-⟩:=two_cells K4.out
 have q0:=BW.cell k0
 have q1:=BW.cell k1
 have hnon:Nonempty (BW w4):=⟨⟨w4,Below.refl _ _⟩⟩
 have I:Hid (Below w4.heap.size w4 w4.drew):=(Below.refl _ _).drew
 go_wp2_with fail
 clear k0 k1 K4
 refine RX.wp_region_readers 9 [(1,0),(1,1),(1,3),(0,2),(0,4),(2,5),(2,6),(2,7),(2,8),(0,9)] (fun w'=>∃ p:BW w4,w'=p.w) (by kernel_rfl) (by kernel_rfl) ?_ ?_
 ·exact ⟨⟨_,I.out⟩,rfl⟩
 iterate 3 (refine RX.walkR_read ?_; simp only [dsc_,dz_,tsc_,tz_]; go_big_quiet_step (fail); refine wpQuiet_nil ?_)
 clear hnon q0 q1
 refine RX.walkR_move ?_
 simp only [dsc_,dz_,tsc_,tz_]
 go_wp2_with fail
 refine Calls.mono (HP1.out _ (B4.out.drew)) ?_
 rintro e_ va ⟨rfl,hb_⟩
 have Va:Hid (Below w4.heap.size w4 va):=(Below.refl w4.heap.size w4).drew.trans hb_
 clear hb_ I
 go_wp2_with fail
 refine ⟨⟨⟨_,Va.out⟩,rfl⟩,?_⟩
 refine RX.walkR_move ?_
 simp only [dsc_,dz_,tsc_,tz_]
 go_wp2_with fail
 replace Rp:=Lib.hid (Rp.out.below Va.out nr_)
 replace Ra:=Lib.hid (Ra.out.below Va.out nr_)
 replace Rb:=Lib.hid (Rb.out.below Va.out nr_)
 replace Rr:=Lib.hid (Rr.out.below Va.out nr_)
 have Ba:=Lib.hid (B4.out.trans (Va.out.mono B4.out.size))
 refine Calls.mono (HD1.out _ _ _ _ _ Ba.out Ra.out Rb.out) ?_
 rintro e_ vc ⟨at_,ct,rfl,rt_,hb_⟩
 have Vc:=Lib.hid (Va.out.trans (hb_.mono Va.out.size))
 have Bc:=Lib.hid (Ba.out.trans (hb_.mono Ba.out.size))
 replace Rp:=Lib.hid (Rp.out.below hb_ nr_)
 replace Ra:=Lib.hid (Ra.out.below hb_ nr_)
 replace Rb:=Lib.hid (Rb.out.below hb_ nr_)
 replace Rr:=Lib.hid (Rr.out.below hb_ nr_)
 have Rt:=Lib.hid rt_
 clear hb_ rt_ HD1 Ba Va
 go_wp2_with fail
 refine ⟨⟨⟨_,Vc.out⟩,rfl⟩,?_⟩
 refine RX.walkR_any ?_
 simp only [dsc_,dz_,tsc_,tz_]
 go_big_quiet_step (fail)
 refine wpQuiet_nil ?_
 refine RX.walkR_any ?_
 simp only [dsc_,dz_,tsc_,tz_]
 go_big_quiet_step (fail)
 refine wpQuiet_nil ?_
 refine RX.walkR_any ?_
 simp only [dsc_,dz_,tsc_,tz_]
 go_big_quiet_step (fail)
 refine wpQuiet_nil ?_
 refine RX.walkR_any ?_
 simp only [dsc_,dz_,tsc_,tz_]
 go_big_quiet_step (fail)
 refine wpQuiet_nil ?_
 refine RX.walkR_move ?_
 simp only [dsc_,dz_,tsc_,tz_]
 go_wp2_with fail
 simp only [RX.walkR]
 clear Vc B4
 go_wp2_with fail
 refine Calls.mono (HP2.out _ Bc.out) ?_
 rintro e_ w11 ⟨rfl,hb_⟩
 have B_11:=Lib.hid (Bc.out.trans (hb_.mono Bc.out.size))
 replace Rp:=Lib.hid (Rp.out.below hb_ nr_)
 replace Ra:=Lib.hid (Ra.out.below hb_ nr_)
 replace Rb:=Lib.hid (Rb.out.below hb_ nr_)
 replace Rr:=Lib.hid (Rr.out.below hb_ nr_)
 replace Rt:=Lib.hid (Rt.out.below hb_ nr_)
 clear hb_ Bc 
 go_wp2_with fail
 refine Calls.mono (HP1.out _ B_11.out) ?_
 rintro e_ w12 ⟨rfl,hb_⟩
 have B_12:=Lib.hid (B_11.out.trans (hb_.mono B_11.out.size))
 replace Rp:=Lib.hid (Rp.out.below hb_ nr_)
 replace Ra:=Lib.hid (Ra.out.below hb_ nr_)
 replace Rb:=Lib.hid (Rb.out.below hb_ nr_)
 replace Rr:=Lib.hid (Rr.out.below hb_ nr_)
 replace Rt:=Lib.hid (Rt.out.below hb_ nr_)
 clear hb_ B_11 
 go_wp2_with fail
 refine Calls.mono (HD2.out _ _ _ _ _ B_12.out Ra.out Rb.out) ?_
 rintro e_ w13 ⟨aw,cw,rfl,r_,hb_⟩
 have B_13:=Lib.hid (B_12.out.trans (hb_.mono B_12.out.size))
 replace Rp:=Lib.hid (Rp.out.below hb_ nr_)
 replace Ra:=Lib.hid (Ra.out.below hb_ nr_)
 replace Rb:=Lib.hid (Rb.out.below hb_ nr_)
 replace Rr:=Lib.hid (Rr.out.below hb_ nr_)
 replace Rt:=Lib.hid (Rt.out.below hb_ nr_)
 have Rw:=Lib.hid r_
 clear hb_ r_ B_12 HD2 Ra
 go_wp2_with fail
 refine Calls.mono (HP1.out _ B_13.out) ?_
 rintro e_ w14 ⟨rfl,hb_⟩
 have B_14:=Lib.hid (B_13.out.trans (hb_.mono B_13.out.size))
 replace Rp:=Lib.hid (Rp.out.below hb_ nr_)
 replace Rb:=Lib.hid (Rb.out.below hb_ nr_)
 replace Rr:=Lib.hid (Rr.out.below hb_ nr_)
 replace Rt:=Lib.hid (Rt.out.below hb_ nr_)
 replace Rw:=Lib.hid (Rw.out.below hb_ nr_)
 clear hb_ B_13 
 go_wp2_with fail
 refine Calls.mono (HPm.out _ B_14.out) ?_
 rintro e_ w15 ⟨rfl,hb_⟩
 have B_15:=Lib.hid (B_14.out.trans (hb_.mono B_14.out.size))
 replace Rp:=Lib.hid (Rp.out.below hb_ nr_)
 replace Rb:=Lib.hid (Rb.out.below hb_ nr_)
 replace Rr:=Lib.hid (Rr.out.below hb_ nr_)
 replace Rt:=Lib.hid (Rt.out.below hb_ nr_)
 replace Rw:=Lib.hid (Rw.out.below hb_ nr_)
 clear hb_ B_14 
 go_wp2_with fail
 refine Calls.mono (HMu.out _ B_15.out) ?_
 rintro e_ w16 ⟨rfl,hb_⟩
 have B_16:=Lib.hid (B_15.out.trans (hb_.mono B_15.out.size))
 replace Rp:=Lib.hid (Rp.out.below hb_ nr_)
 replace Rb:=Lib.hid (Rb.out.below hb_ nr_)
 replace Rr:=Lib.hid (Rr.out.below hb_ nr_)
 replace Rt:=Lib.hid (Rt.out.below hb_ nr_)
 replace Rw:=Lib.hid (Rw.out.below hb_ nr_)
 clear hb_ B_15 
 go_wp2_with fail
 refine Calls.mono (HD3.out _ _ _ _ _ B_16.out Rw.out Rb.out) ?_
 rintro e_ w17 ⟨ad,cd,rfl,r_,hb_⟩
 have B_17:=Lib.hid (B_16.out.trans (hb_.mono B_16.out.size))
 replace Rp:=Lib.hid (Rp.out.below hb_ nr_)
 replace Rb:=Lib.hid (Rb.out.below hb_ nr_)
 replace Rr:=Lib.hid (Rr.out.below hb_ nr_)
 replace Rt:=Lib.hid (Rt.out.below hb_ nr_)
 replace Rw:=Lib.hid (Rw.out.below hb_ nr_)
 have Rd_:=Lib.hid r_
 clear hb_ r_ B_16 HD3 Rw
 go_wp2_with fail
 refine Calls.mono (HP2.out _ B_17.out) ?_
 rintro e_ w18 ⟨rfl,hb_⟩
 have B_18:=Lib.hid (B_17.out.trans (hb_.mono B_17.out.size))
 replace Rp:=Lib.hid (Rp.out.below hb_ nr_)
 replace Rb:=Lib.hid (Rb.out.below hb_ nr_)
 replace Rr:=Lib.hid (Rr.out.below hb_ nr_)
 replace Rt:=Lib.hid (Rt.out.below hb_ nr_)
 replace Rd_:=Lib.hid (Rd_.out.below hb_ nr_)
 clear hb_ B_17 
 go_wp2_with fail
 refine Calls.mono (HP0.out _ B_18.out) ?_
 rintro e_ w19 ⟨rfl,hb_⟩
 have B_19:=Lib.hid (B_18.out.trans (hb_.mono B_18.out.size))
 replace Rp:=Lib.hid (Rp.out.below hb_ nr_)
 replace Rb:=Lib.hid (Rb.out.below hb_ nr_)
 replace Rr:=Lib.hid (Rr.out.below hb_ nr_)
 replace Rt:=Lib.hid (Rt.out.below hb_ nr_)
 replace Rd_:=Lib.hid (Rd_.out.below hb_ nr_)
 clear hb_ B_18 
 go_wp2_with fail
 refine Calls.mono (HD4.out _ _ _ _ _ B_19.out Rb.out Rb.out) ?_
 rintro e_ w20 ⟨au,cu,rfl,r_,hb_⟩
 have B_20:=Lib.hid (B_19.out.trans (hb_.mono B_19.out.size))
 replace Rp:=Lib.hid (Rp.out.below hb_ nr_)
 replace Rb:=Lib.hid (Rb.out.below hb_ nr_)
 replace Rr:=Lib.hid (Rr.out.below hb_ nr_)
 replace Rt:=Lib.hid (Rt.out.below hb_ nr_)
 replace Rd_:=Lib.hid (Rd_.out.below hb_ nr_)
 have Ru:=Lib.hid r_
 clear hb_ r_ B_19 HD4
 go_wp2_with fail
 refine Calls.mono (HE3.out _ _ _ _ _ Rr.out Rt.out) ?_
 rintro e_ w21 ⟨rfl,hb_⟩
 have B_21:=Lib.hid (B_20.out.trans (hb_.mono B_20.out.size))
 replace Rp:=Lib.hid (Rp.out.below hb_ nr_)
 replace Rb:=Lib.hid (Rb.out.below hb_ nr_)
 replace Rr:=Lib.hid (Rr.out.below hb_ nr_)
 replace Rt:=Lib.hid (Rt.out.below hb_ nr_)
 replace Rd_:=Lib.hid (Rd_.out.below hb_ nr_)
 replace Ru:=Lib.hid (Ru.out.below hb_ nr_)
 clear hb_ B_20 
 go_wp2_with fail
 refine Calls.mono (HW1.out _ _ _ _ _ _ _ B_21.out Rp.out Rt.out Rb.out) ?_
 rintro e_ w22 ⟨rfl,hb_⟩
 have B_22:=Lib.hid (B_21.out.trans (hb_.mono B_21.out.size))
 replace Rp:=Lib.hid (Rp.out.below hb_ nr_)
 replace Rb:=Lib.hid (Rb.out.below hb_ nr_)
 replace Rr:=Lib.hid (Rr.out.below hb_ nr_)
 replace Rt:=Lib.hid (Rt.out.below hb_ nr_)
 replace Rd_:=Lib.hid (Rd_.out.below hb_ nr_)
 replace Ru:=Lib.hid (Ru.out.below hb_ nr_)
 clear hb_ B_21 
 go_wp2_with fail
 refine Calls.mono (HW2.out _ _ _ _ _ _ _ B_22.out Rp.out Rd_.out Ru.out) ?_
 rintro e_ w23 ⟨rfl,hb_⟩
 have B_23:=Lib.hid (B_22.out.trans (hb_.mono B_22.out.size))
 replace Rp:=Lib.hid (Rp.out.below hb_ nr_)
 replace Rb:=Lib.hid (Rb.out.below hb_ nr_)
 replace Rr:=Lib.hid (Rr.out.below hb_ nr_)
 replace Rt:=Lib.hid (Rt.out.below hb_ nr_)
 replace Rd_:=Lib.hid (Rd_.out.below hb_ nr_)
 replace Ru:=Lib.hid (Ru.out.below hb_ nr_)
 clear hb_ B_22 
 go_wp2_with fail
 go_ret
 exact ⟨rfl,B_23.out⟩
theorem lawFloors (w:World) (pn:Nat) (nA:Nat→Int) (dA:Nat→Nat) (nB:Nat→Int) (dB:Nat→Nat) (hpn:pn < 256) (hnA:∀ k,-128≤nA k∧nA k≤127) (hdA:∀ k,dA k < 256) (hnB:∀ k,-128≤nB k∧nB k≤127) (hdB:∀ k,dB k < 256) (L:Laid w) :
  Gives Tryz.prog 7 #[.agg (pairV pn nA dA nB dB)] w (.bool true):=by
 by_cases h0:∀ q∈partsQ nB dB (primesL (pn % 10)).length,q=0
 ·exact lawFloors_zero w pn nA dA nB dB hpn hnA hdA hnB hdB L h0
 ·exact lawFloors_ne w pn nA dA nB dB hpn hnA hdA hnB hdB L h0
end Go.Proofs.YtlomhfknmhaboaaGreatDoor

namespace Go.Proofs.YtlomhfknmhaboaaGreatDoor
open Go.ChangeShapes Go.WideShapes Go.ChangeAt Go.RowKit
set_option maxRecDepth 100000 in
theorem sizeFloors_lifted (os:Os) (started:os.Started) (H:Type) (enc:TypeId×Value→H) :
  ReturnsInHanded {} Tryz.checked os 7 .any (fun w args=>(Rows.sizeFloorsSpec.pre enc Tryz.prog Tryz.f7 [] false w args∧laidMetH Tryz.prog laidL w)∧sizedMet enc Tryz.prog Tryz.f7 (OpenSpec.ofChange Rows.sizeFloorsSpec) false w args)
   (Rows.sizeFloorsSpec.post enc Tryz.prog Tryz.f7 false true false false):=by
 refine returnsInHanded_of_change_and (C:=Tryz.checked) (X:=fun w _=>laidMetH Tryz.prog laidL w) (fun _ _ _ hh h=>h.of_heap hh) own started (by kernel_rfl) Tryz.func7
  (ChangeSpec.witness_shaped (enc:=enc) (C:=Tryz.checked) (os:=os) (X:=fun w _=>laidMetH Tryz.prog laidL w) false (World.doorLaid Tryz.prog 400 os) #[.agg #[.int .u8 0,.int .i8 0,.int .u8 0,.int .i8 0,.int .u8 0,.int .i8 0,.int .u8 0,.int .i8 0,.int .u8 0,.int .i8 0,.int .u8 0,.int .i8 0,.int .u8 0,.int .i8 0,.int .u8 0,.int .i8 0,.int .u8 0]] 8 rfl (World.shaped_of_RefB (by kernel_rfl) (by kernel_rfl)) (by kernel_rfl) (by kernel_rfl) (by kernel_rfl) (door_met os _)) ?_
 intro W base args ds gs before hval0 hW _ _ hL _
 have hval:∀ (j:Nat) t v,Tryz.f7.params[j]?=some t→args[j]?=some v→Value.okWide Tryz.prog W .any base t v:=hval0
 have hW':=hW
 obtain ⟨p,q,hA0,hV,rfl,hfz,hnd⟩:=hW
 have hA:DataW.TrodAll enc Tryz.prog W 0 (fun _=>true) true Tryz.f7.params.toList args.toList ds p:=hA0
 rw [Tryz.params7] at hA hval
 obtain ⟨v0,vs0,d0,ds0,p0,q0,hargs,rfl,rfl,h0,r0⟩:=trodAll_cons hA
 obtain ⟨rfl,rfl,rfl⟩:=trodAll_nil r0
 obtain rfl:args = #[v0]:=by cases args; simp_all
 obtain ⟨rfl,rfl⟩:=trodVars_none hV
 have k0:=h0
 have lt0:∀ x∈p0,x.block < W.heap.size:=by obtain ⟨m,hm⟩:=k0; exact DataW.trod_lt m _ _ _ hm
 obtain ⟨pn,nA,dA,nB,dB,rfl,hpn,hnA,hdA,hnB,hdB⟩:=open_pair (hval 0 50 v0 rfl rfl) h0
 clear hA0 hval0
 refine (lawFloors W pn nA dA nB dB hpn hnA hdA hnB hdB (laid_of hL)).mono fun e W' ⟨he,bel⟩=>?_
 subst he
 exact ⟨_,rfl,_,_,_,[],_,[],hW',trodAll_mk1 (shut_bool Tryz.underlying4 _),(trodAll_cons_mk (Below.trod laidOut (by kernel_rfl) (of_decide_eq_true (by kernel_rfl)) k0 bel lt0) trodAll_mk0),rfl,bel.frame _,fun h=>by cases h⟩
theorem sizeFloors_row:Rows.SizeFloorsSaid :=
 OpenClaim.holds_of_wide 7 Tryz.f7 rfl rfl rfl rfl rfl rfl rfl ⟨rfl,rfl,rfl,rfl,rfl⟩ rfl rfl rfl rfl rfl (by kernel_rfl) Tryz.func7 (by kernel_rfl)
  (of_decide_eq_true (by kernel_rfl)) (by unfold Func.isWrapper; first | (rw [if_pos (by decide +kernel)]; kernel_rfl) | (rw [if_neg (by decide +kernel)]; exact ⟨rfl,rfl⟩))
  (fun os started H enc _=>sizeFloors_lifted os started H enc)
theorem sizeFloors_holds:Rows.SizeFloorsCardSaid :=
 Claim7.holds_tied_plain_at .later [] [.data, .data, .data, .sentinel, .sentinel] true (true, "9d0d2a1671fb7254a0d6cd7f535de0290e91414b206b40d6b5ae62423c22e5c1") true
  sizeFloors_row (fun _ h=>by cases h) (by kernel_rfl) (fun _ h=>by cases h) sizeFloors_row_tie rfl ⟨rfl,rfl⟩ (by kernel_rfl) rfl
  (fun f fn hf hfn=>by
   obtain rfl : f = 7 := Option.some.inj ((show Tryz.prog.funcNamed "schisma/schismalaw13.SizeFloors" = some 7 by kernel_rfl).symm.trans hf) |>.symm
   obtain rfl:fn=Tryz.f7:=(Option.some.inj (Tryz.func7.symm.trans hfn)).symm
   exact ⟨by kernel_rfl,fun j t ht=>by
    rw [Tryz.params7] at ht
    have hm:t∈[50]:=by simpa using Array.mem_of_getElem? ht
    have hall:([50].all fun u => !Tryz.prog.wantsStandIn u)=true:=by kernel_rfl
    exact (show Tryz.prog.wantsStandIn t=false by simpa using List.all_eq_true.1 hall t hm)⟩)
  (by kernel_rfl)
#print axioms sizeFloors_holds
end Go.Proofs.YtlomhfknmhaboaaGreatDoor
