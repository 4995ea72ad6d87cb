/- Lemmas for the laws of this seat, part 2. -/
import Derived.Test.YtnjedhgcfeoemaaGreatDoorCards
import Derived.Test.YtnjedhgcfeoemaaGreatDoorTie
import Derived.SevenTiedAt
import Derived.Test.YtnjedhgcfeoemaaGreatDoorWd1
set_option maxRecDepth 100000
set_option maxHeartbeats 16000000
namespace Go.Proofs.YtnjedhgcfeoemaaGreatDoor
open Go.RowKit
theorem rdB_set {w w9:World} {a p:Option Addr} {BL:List (Int×Int×ByteArray)} {g m c:Nat} {x y:Int} {t:TypeId} (h:Rd w a (cellsB BL)) (hob:w.heap[g]?=some (.cells #[.int .i64 x,.int .i64 y,.slice p m c] t (0,0)))
  (hh:∀ b,b≠g→w9.heap[b]?=w.heap[b]?) (hsz:w9.heap.size=w.heap.size):Rd w9 a (cellsB BL):=by
 cases BL with
 | nil=>exact .inl rfl
 | cons z l =>
  rcases h with h | ⟨b,off,rfl,hb,hc⟩
  ·cases h
  ·have h2:=hc 2 (.string z.2.2) rfl
   have hne:b≠g:=by
    intro e
    subst e
    rw [cell_of_row w b (off + 2) _ t (0,0) hob] at h2
    rcases off with _ | off
    ·cases h2
    ·rw [show off + 1 + 2=off + 3 by omega] at h2
     simp at h2
   refine .inr ⟨b,off,rfl,by rw [hsz]; exact hb,fun i v hi=>?_⟩
   have h3:=hc i v hi
   rw [← h3]
   simp only [World.cell?,hh b hne]
theorem order_ok (w:World) (a0 a1 a2:Option Addr) (c0 c1 c2 n:Nat) (dl:List Rat) (sg m:Int) (BL:List (Int×Int×ByteArray))
  (hsub:∀ W,Below w.heap.size w W→Calls Tryz.prog 39 #[.slice a0 n c0,.slice a1 n c1,.slice a2 n c2] W fun e w'=>∃ a c,e = .returned (.tuple #[.slice a n c,.int .i64 0])∧Rd w' a (cellsQ dl)∧Below W.heap.size W w')
  (hdec:∀ W a c,Below w.heap.size w W→Rd W a (cellsQ dl)→DecV 26 #[.slice a0 n c0,.slice a n c] W sg m BL) :
  DecV 27 #[.slice a0 n c0,.slice a1 n c1,.slice a2 n c2] w sg m BL:=by
 unfold DecV cmpV at *
 have Hb0:=hd_ ((Below.refl w.heap.size w).alloc nr_ (.cells #[.int .i64 0,.int .i64 0,.slice none 0 0] 51))
 have Hnew:Hid ((w.alloc (.cells #[.int .i64 0,.int .i64 0,.slice none 0 0] 51)).heap[w.heap.size]?=some (.cells #[.int .i64 0,.int .i64 0,.slice none 0 0] 51 (0,0))):=heap_alloc_new w _
 have HS:=hd_ (hsub _ Hb0.out)
 have HD:=hd_ hdec
 clear hsub hdec
 obtain ⟨bn,hbn⟩:∃ bn,BL.length=bn:=⟨_,rfl⟩
 rw [hbn] at HD ⊢
 have Hbn:=hd_ hbn
 clear hbn
 go_enter Tryz.func27,Tryz.ntmps27
 go_wp2_with fail
 generalize w.alloc (.cells #[.int .i64 0,.int .i64 0,.slice none 0 0] 51)=W0 at *
 refine cm_ HS.out ?_
 rintro e w1 ⟨a,c,rfl,hr,hb⟩
 have Hcell:=hd_ (heap_kept Hnew.out hb nr_)
 have Hbw:=hd_ (Hb0.out.trans (hb.mono Hb0.out.size))
 have Hr:=hd_ hr
 clear hb HS Hnew Hb0 hr
 go_wp2_with fail
 refine cm_ (HD.out _ _ _ Hbw.out Hr.out) ?_
 rintro e w2 ⟨b,d,rfl,hr,hb⟩
 have hc2:=heap_kept Hcell.out hb nr_
 obtain ⟨k0,k1,k2,kf⟩:=three_cells hc2
 have Hbw2:=hd_ (Hbw.out.trans (hb.mono Hbw.out.size))
 have f0:=kf 0
 have f1:=kf 1
 have f2:=kf 2
 have HR:Hid (Rd (((w2.setCell ⟨w.heap.size,0,none⟩ (.int .i64 sg)).setCell ⟨w.heap.size,1,none⟩ (.int .i64 m)).setCell ⟨w.heap.size,2,none⟩ (.slice b bn d)) b (cellsB BL)) :=
  rdB_set hr hc2 (fun x hx=>by
   rw [Below.heap_setCell _ _ _ _ hx,Below.heap_setCell _ _ _ _ hx,Below.heap_setCell _ _ _ _ hx]) (by simp [World.setCell])
 clear hb HD kf Hcell Hbw Hr hr hc2
 go_wp2
 obtain ⟨c0,c1,c2,hb3⟩:=three_stored (.int .i64 sg) (.int .i64 m) (.slice b bn d) k0 k1 k2 nr_ Hbw2.out
 generalize ((w2.setCell ⟨w.heap.size,0,none⟩ (.int .i64 sg)).setCell ⟨w.heap.size,1,none⟩ (.int .i64 m)).setCell ⟨w.heap.size,2,none⟩ (.slice b bn d)=w9 at *
 exact bodyPost_ret (v := .tuple #[.agg #[.int .i64 sg,.int .i64 m,.slice b bn d],.int .i64 0]) (by simp [results,Tryz.results27,go_sem,c0,c1,c2]) rfl ⟨b,d,rfl,HR.out,hb3⟩
end Go.Proofs.YtnjedhgcfeoemaaGreatDoor

namespace Go.Proofs.YtnjedhgcfeoemaaGreatDoor
open Go.RowKit
theorem primesL_odd:∀ k,k < 10→∀ p∈primesL k,p=p.toNat∧(p.toNat=2∨p.toNat∈oddP):=by decide +kernel
theorem lawEor (w:World) (pn:Nat) (nA:Nat→Int) (dA:Nat→Nat) (nB:Nat→Int) (dB:Nat→Nat) (hpn:pn < 256) (hnA:∀ k,-128≤nA k∧nA k≤127) (hdA:∀ k,dA k < 256) (hnB:∀ k,-128≤nB k∧nB k≤127) (hdB:∀ k,dB k < 256) (L:Laid w) :
  Gives Tryz.prog 6 #[.agg (pairV pn nA dA nB dB)] w (.bool true):=by
 unfold Gives
 have hp:=primesL_ok (pn % 10) (Nat.mod_lt _ (by decide))
 have hps:=primesL_small (pn % 10) (Nat.mod_lt _ (by decide))
 have hod:=primesL_odd (pn % 10) (Nat.mod_lt _ (by decide))
 have HPr:=hd_ (fun W=>primes_any W pn hpn)
 generalize primesL (pn % 10)=ps at *
 obtain ⟨hp0,hp4,hp1,hp2⟩:=hp
 obtain ⟨hq1,hq2⟩:=hps
 have hpos:=smallP_pos hq1
 have hp100:ps.length≤100:=by omega
 have hi:I64s ps:=fun x hx=>by have:=hp2 x hx; omega
 have HK:Hid (∀ W,Below w.heap.size w W→Gives Tryz.prog 15 #[] W (.bool true)):=fun W hW=>known14_ok W (L.below hW)
 have HA:Hid (∀ W a0 c0,Below w.heap.size w W→Calls Tryz.prog 33 #[.slice a0 ps.length c0,.agg #[.int .i8 (nA 0),.int .u8 (dA 0),.int .i8 (nA 1),.int .u8 (dA 1),.int .i8 (nA 2),.int .u8 (dA 2),.int .i8 (nA 3),.int .u8 (dA 3)]] W fun e w'=>∃ a c,e = .returned (.slice a ps.length c)∧Rd w' a (cellsQ (partsQ nA dA ps.length))∧Below W.heap.size W w'):=fun W a0 c0 hW=>by
  refine cm_ (make_any W a0 c0 ps.length hp4 nA dA hnA hdA (L.below hW)) ?_
  rintro e w' ⟨a,c,rfl,ho,hb⟩
  exact ⟨a,c,rfl,ho.rd,hb⟩
 have HB:Hid (∀ W a0 c0,Below w.heap.size w W→Calls Tryz.prog 33 #[.slice a0 ps.length c0,.agg #[.int .i8 (nB 0),.int .u8 (dB 0),.int .i8 (nB 1),.int .u8 (dB 1),.int .i8 (nB 2),.int .u8 (dB 2),.int .i8 (nB 3),.int .u8 (dB 3)]] W fun e w'=>∃ a c,e = .returned (.slice a ps.length c)∧Rd w' a (cellsQ (partsQ nB dB ps.length))∧Below W.heap.size W w'):=fun W a0 c0 hW=>by
  refine cm_ (make_any W a0 c0 ps.length hp4 nB dB hnB hdB (L.below hW)) ?_
  rintro e w' ⟨a,c,rfl,ho,hb⟩
  exact ⟨a,c,rfl,ho.rd,hb⟩
 have la1:=partsQ_length nA dA ps.length
 have lb1:=partsQ_length nB dB ps.length
 have sa:=partsQ_sm nA dA ps.length
 have sb:=partsQ_sm nB dB ps.length
 have ma:=partsQ_sml nA dA ps.length
 have mb:=partsQ_sml nB dB ps.length
 generalize partsQ nA dA ps.length=la at *
 generalize partsQ nB dB ps.length=lb at *
 have gab:=(Sml.comb (by decide) ma mb 1 (-1)).good (ps:=ps) (by decide) (pow_kb (by decide)) hq1 hq2
 have s30:∀ {l:List Rat},(∀ q∈l,Sm 2 q)→∀ q∈l,Sm 30 q:=fun h q hq=>(h q hq).le (by decide)
 have sd:∀ q∈difQ la lb,Sm 30 q:=fun q hq=>(combineQ_sm sa sb sm_one sm_mone q hq).le (by decide)
 have ld1:(difQ la lb).length=ps.length:=(difQ_length la lb (by omega)).trans la1
 have Hcm:Hid (∀ (W:World) (a0 a1 a2:Option Addr) (c0 c1 c2:Nat),Below w.heap.size w W→Rd W a0 (ints ps)→Rd W a1 (cellsQ la)→Rd W a2 (cellsQ lb)→Gives Tryz.prog 40 #[.slice a0 ps.length c0,.slice a1 ps.length c1,.slice a2 ps.length c2] W (.tuple #[.int .i64 (LN.sz ps (difQ la lb)),.int .i64 0])):=fun W a0 a1 a2 c0 c1 c2 hW r0 r1 r2 =>
  cmp_ok c0 c1 c2 hp0 hp2 hp100 r0 r1 r2 la1 lb1 (s30 sa) (s30 sb) gab (L.below hW)
 have Hsu:Hid (∀ (W:World) (a0 a1 a2:Option Addr) (c0 c1 c2:Nat),Below w.heap.size w W→Rd W a0 (ints ps)→Rd W a1 (cellsQ la)→Rd W a2 (cellsQ lb)→Calls Tryz.prog 39 #[.slice a0 ps.length c0,.slice a1 ps.length c1,.slice a2 ps.length c2] W fun e w'=>∃ a c,e = .returned (.tuple #[.slice a ps.length c,.int .i64 0])∧Rd w' a (cellsQ (difQ la lb))∧Below W.heap.size W w'):=fun W a0 a1 a2 c0 c1 c2 hW r0 r1 r2 =>
  AddFacts.sub (w:=W) (s:=⟨#[]⟩) (t:=⟨#[]⟩) ⟨hi,hp0,la1,lb1,sa,sb,by decide,by decide,L.below hW⟩ (Below.refl _ _) c0 c1 c2 r0 r1 r2
 obtain ⟨m,BL,hm,hBL,hdec⟩:=decide_all ps (difQ la lb) hi ld1 hp100 (fun p hp=>⟨p.toNat,hod p hp⟩) hpos hq1 sd hp0 gab
 have Hdc:Hid (∀ (W:World) (a0 a1:Option Addr) (c0 c1:Nat),Below w.heap.size w W→Rd W a0 (ints ps)→Rd W a1 (cellsQ (difQ la lb))→DecV 26 #[.slice a0 ps.length c0,.slice a1 ps.length c1] W (LN.sz ps (difQ la lb)) m BL):=fun W a0 a1 c0 c1 hW r0 r1=>hdec W a0 a1 c0 c1 r0 r1 (L.below hW)
 have Hor:Hid (∀ (W:World) (a0 a1 a2:Option Addr) (c0 c1 c2:Nat),Below w.heap.size w W→Rd W a0 (ints ps)→Rd W a1 (cellsQ la)→Rd W a2 (cellsQ lb)→DecV 27 #[.slice a0 ps.length c0,.slice a1 ps.length c1,.slice a2 ps.length c2] W (LN.sz ps (difQ la lb)) m BL):=fun W a0 a1 a2 c0 c1 c2 hW r0 r1 r2 =>
  order_ok W a0 a1 a2 c0 c1 c2 ps.length (difQ la lb) _ _ BL (fun V hV=>Hsu.out V a0 a1 a2 c0 c1 c2 (hW.trans (hV.mono hW.size)) (r0.below hV nr_) (r1.below hV nr_) (r2.below hV nr_))
   (fun V a c hV r=>Hdc.out V a0 a c0 c (hW.trans (hV.mono hW.size)) (r0.below hV nr_) r)
 have Hsa:=hd_ (fun W sg n a b c d ra rb=>same14_eq W sg n a b c d BL ra rb (Nat.le_trans hBL (by decide)))
 clear hdec L la1 lb1 sa sb ma mb gab s30 sd ld1 hpos hq1 hq2 hp0 hp2 hp4 hp100 hp1 hpn hnA hdA hnB hdB hi hod hm hBL
 unfold DecV at Hdc Hor
 unfold cmpV at Hdc Hor Hsa
 generalize LN.sz ps (difQ la lb)=sg at *
 generalize difQ la lb=ld at *
 generalize cellsB BL=cb at *
 generalize BL.length=bn at *
 generalize ps.length=n at *
 unfold pairV
 have B0:=hd_ ((Below.refl w.heap.size w).alloc nr_ (.cells #[.int .u8 pn,.int .i8 (nA 0),.int .u8 (dA 0),.int .i8 (nA 1),.int .u8 (dA 1),.int .i8 (nA 2),.int .u8 (dA 2),.int .i8 (nA 3),.int .u8 (dA 3),.int .i8 (nB 0),.int .u8 (dB 0),.int .i8 (nB 1),.int .u8 (dB 1),.int .i8 (nB 2),.int .u8 (dB 2),.int .i8 (nB 3),.int .u8 (dB 3)] 79))
 have P0:Hid ((w.alloc (.cells #[.int .u8 pn,.int .i8 (nA 0),.int .u8 (dA 0),.int .i8 (nA 1),.int .u8 (dA 1),.int .i8 (nA 2),.int .u8 (dA 2),.int .i8 (nA 3),.int .u8 (dA 3),.int .i8 (nB 0),.int .u8 (dB 0),.int .i8 (nB 1),.int .u8 (dB 1),.int .i8 (nB 2),.int .u8 (dB 2),.int .i8 (nB 3),.int .u8 (dB 3)] 79)).heap[w.heap.size]?=some (.cells #[.int .u8 pn,.int .i8 (nA 0),.int .u8 (dA 0),.int .i8 (nA 1),.int .u8 (dA 1),.int .i8 (nA 2),.int .u8 (dA 2),.int .i8 (nA 3),.int .u8 (dA 3),.int .i8 (nB 0),.int .u8 (dB 0),.int .i8 (nB 1),.int .u8 (dB 1),.int .i8 (nB 2),.int .u8 (dB 2),.int .i8 (nB 3),.int .u8 (dB 3)] 79 (0,0))):=heap_alloc_new w _
 go_enter Tryz.func6,Tryz.ntmps6
 go_wp2_with fail
 generalize w.alloc (.cells #[.int .u8 pn,.int .i8 (nA 0),.int .u8 (dA 0),.int .i8 (nA 1),.int .u8 (dA 1),.int .i8 (nA 2),.int .u8 (dA 2),.int .i8 (nA 3),.int .u8 (dA 3),.int .i8 (nB 0),.int .u8 (dB 0),.int .i8 (nB 1),.int .u8 (dB 1),.int .i8 (nB 2),.int .u8 (dB 2),.int .i8 (nB 3),.int .u8 (dB 3)] 79)=w0 at *
 refine cm_ (HK.out _ B0.out) ?_
 rintro e_ w1 ⟨rfl,hb_⟩
 have B1:=hd_ (B0.out.trans (hb_.mono B0.out.size))
 replace P0:=hd_ (heap_kept P0.out hb_ nr_)
 clear hb_ B0 HK
 have p0:w1.cell? ⟨w.heap.size,0,none⟩=some (.int .u8 pn):=by rw [cell_of_row _ _ _ _ _ _ P0.out]; rfl
 go_wp2_with fail
 clear p0
 refine cm_ (HPr.out _) ?_
 rintro e_ w2 ⟨gp,rfl,rp_,hb_⟩
 have B2:=hd_ (B1.out.trans (hb_.mono B1.out.size))
 replace P0:=hd_ (heap_kept P0.out hb_ nr_)
 have Rp:=hd_ rp_
 clear hb_ rp_ HPr B1
 have p1:w2.cell? ⟨w.heap.size,1,none⟩=some (.int .i8 (nA 0)):=by rw [cell_of_row _ _ _ _ _ _ P0.out]; rfl
 have p2:w2.cell? ⟨w.heap.size,2,none⟩=some (.int .u8 (dA 0)):=by rw [cell_of_row _ _ _ _ _ _ P0.out]; rfl
 have p3:w2.cell? ⟨w.heap.size,3,none⟩=some (.int .i8 (nA 1)):=by rw [cell_of_row _ _ _ _ _ _ P0.out]; rfl
 have p4:w2.cell? ⟨w.heap.size,4,none⟩=some (.int .u8 (dA 1)):=by rw [cell_of_row _ _ _ _ _ _ P0.out]; rfl
 have p5:w2.cell? ⟨w.heap.size,5,none⟩=some (.int .i8 (nA 2)):=by rw [cell_of_row _ _ _ _ _ _ P0.out]; rfl
 have p6:w2.cell? ⟨w.heap.size,6,none⟩=some (.int .u8 (dA 2)):=by rw [cell_of_row _ _ _ _ _ _ P0.out]; rfl
 have p7:w2.cell? ⟨w.heap.size,7,none⟩=some (.int .i8 (nA 3)):=by rw [cell_of_row _ _ _ _ _ _ P0.out]; rfl
 have p8:w2.cell? ⟨w.heap.size,8,none⟩=some (.int .u8 (dA 3)):=by rw [cell_of_row _ _ _ _ _ _ P0.out]; rfl
 have p9:w2.cell? ⟨w.heap.size,9,none⟩=some (.int .i8 (nB 0)):=by rw [cell_of_row _ _ _ _ _ _ P0.out]; rfl
 have p10:w2.cell? ⟨w.heap.size,10,none⟩=some (.int .u8 (dB 0)):=by rw [cell_of_row _ _ _ _ _ _ P0.out]; rfl
 have p11:w2.cell? ⟨w.heap.size,11,none⟩=some (.int .i8 (nB 1)):=by rw [cell_of_row _ _ _ _ _ _ P0.out]; rfl
 have p12:w2.cell? ⟨w.heap.size,12,none⟩=some (.int .u8 (dB 1)):=by rw [cell_of_row _ _ _ _ _ _ P0.out]; rfl
 have p13:w2.cell? ⟨w.heap.size,13,none⟩=some (.int .i8 (nB 2)):=by rw [cell_of_row _ _ _ _ _ _ P0.out]; rfl
 have p14:w2.cell? ⟨w.heap.size,14,none⟩=some (.int .u8 (dB 2)):=by rw [cell_of_row _ _ _ _ _ _ P0.out]; rfl
 have p15:w2.cell? ⟨w.heap.size,15,none⟩=some (.int .i8 (nB 3)):=by rw [cell_of_row _ _ _ _ _ _ P0.out]; rfl
 have p16:w2.cell? ⟨w.heap.size,16,none⟩=some (.int .u8 (dB 3)):=by rw [cell_of_row _ _ _ _ _ _ P0.out]; rfl
 have q1:=NW.cell p1
 have q2:=NW.cell p2
 have q3:=NW.cell p3
 have q4:=NW.cell p4
 have q5:=NW.cell p5
 have q6:=NW.cell p6
 have q7:=NW.cell p7
 have q8:=NW.cell p8
 have q9:=NW.cell p9
 have q10:=NW.cell p10
 have q11:=NW.cell p11
 have q12:=NW.cell p12
 have q13:=NW.cell p13
 have q14:=NW.cell p14
 have q15:=NW.cell p15
 have q16:=NW.cell p16
 have hnon:Nonempty (NW w2):=⟨⟨w2,Below.refl _ _⟩⟩
 have I:Hid (Below w2.heap.size w2 w2.drew):=(Below.refl _ _).drew
 go_wp2_with fail
 clear p1 p2 p3 p4 p5 p6 p7 p8 p9 p10 p11 p12 p13 p14 p15 p16 P0
 refine RP.wp_region_readers 9 [(1,0),(1,1),(1,2),(1,4),(1,5),(1,6),(0,3),(0,7),(0,8),(0,9)] (fun w'=>∃ p:NW w2,w'=p.w) (by kernel_rfl) (by kernel_rfl) ?_ ?_
 ·exact ⟨⟨_,I.out⟩,rfl⟩
 iterate 6 (refine RP.walkR_read ?_; simp only [dsc_,dz_,tsc_,tz_]; go_big_quiet_step (fail); refine wpQuiet_nil ?_)
 clear hnon q1 q2 q3 q4 q5 q6 q7 q8 q9 q10 q11 q12 q13 q14 q15 q16
 refine RP.walkR_move ?_
 simp only [dsc_,dz_,tsc_,tz_]
 go_wp2_with fail
 refine cm_ (HA.out _ _ _ (B2.out.drew)) ?_
 rintro e_ wa ⟨aa,ca,rfl,ra_,hb_⟩
 have Wa:Hid (Below w2.heap.size w2 wa):=(Below.refl w2.heap.size w2).drew.trans hb_
 have Ra:=hd_ ra_
 clear hb_ ra_ HA I
 go_wp2_with fail
 refine ⟨⟨⟨_,Wa.out⟩,rfl⟩,?_⟩
 refine RP.walkR_move ?_
 simp only [dsc_,dz_,tsc_,tz_]
 go_wp2_with fail
 refine cm_ (HB.out _ _ _ (B2.out.trans (Wa.out.mono B2.out.size))) ?_
 rintro e_ wb ⟨ab,cb_,rfl,rb_,hb_⟩
 have Wb:=hd_ (Wa.out.trans (hb_.mono Wa.out.size))
 have Rb:=hd_ rb_
 replace Ra:=hd_ (Ra.out.below hb_ nr_)
 clear hb_ rb_ HB Wa
 have Bb:=hd_ (B2.out.trans (Wb.out.mono B2.out.size))
 go_wp2_with fail
 refine ⟨⟨⟨_,Wb.out⟩,rfl⟩,?_⟩
 replace Rp:=hd_ (Rp.out.below Wb.out nr_)
 refine RP.walkR_move ?_
 simp only [dsc_,dz_,tsc_,tz_]
 go_wp2_with fail
 refine ⟨⟨⟨_,Wb.out⟩,rfl⟩,?_⟩
 refine RP.walkR_move ?_
 simp only [dsc_,dz_,tsc_,tz_]
 go_wp2_with fail
 simp only [RP.walkR]
 clear Wb B2
 go_wp2_with fail
 refine cm_ (Hsu.out _ _ _ _ _ _ _ Bb.out Rp.out Ra.out Rb.out) ?_
 rintro e_ w3 ⟨ad,cd,rfl,rd_,hb_⟩
 have B3:=hd_ (Bb.out.trans (hb_.mono Bb.out.size))
 have Rd:=hd_ rd_
 replace Rp:=hd_ (Rp.out.below hb_ nr_)
 replace Ra:=hd_ (Ra.out.below hb_ nr_)
 replace Rb:=hd_ (Rb.out.below hb_ nr_)
 clear hb_ rd_ Hsu Bb
 go_wp2_with fail
 refine cm_ (Hor.out _ _ _ _ _ _ _ B3.out Rp.out Ra.out Rb.out) ?_
 rintro e_ w4 ⟨ao,co,rfl,ro_,hb_⟩
 clear Hor
 have B4:=hd_ (B3.out.trans (hb_.mono B3.out.size))
 have B5:=hd_ (B4.out.alloc B4.out.size (.cells #[.int .i64 sg,.int .i64 m,.slice ao bn co] 51))
 have hal_:=(Below.refl w4.heap.size w4).alloc nr_ (.cells #[.int .i64 sg,.int .i64 m,.slice ao bn co] 51)
 replace Rp:=hd_ ((Rp.out.below hb_ nr_).below hal_ nr_)
 replace Ra:=hd_ ((Ra.out.below hb_ nr_).below hal_ nr_)
 replace Rb:=hd_ ((Rb.out.below hb_ nr_).below hal_ nr_)
 replace Rd:=hd_ ((Rd.out.below hb_ nr_).below hal_ nr_)
 have Ro:=hd_ (ro_.below hal_ nr_)
 have F1:Hid ((w4.alloc (.cells #[.int .i64 sg,.int .i64 m,.slice ao bn co] 51)).heap[w4.heap.size]?=some (.cells #[.int .i64 sg,.int .i64 m,.slice ao bn co] 51 (0,0))):=heap_alloc_new w4 _
 clear hb_ hal_ B3 B4 ro_
 go_wp2_with fail
 generalize w4.alloc (.cells #[.int .i64 sg,.int .i64 m,.slice ao bn co] 51)=w5 at *
 generalize w4.heap.size=g1 at *
 refine cm_ (Hdc.out _ _ _ _ _ B5.out Rp.out Rd.out) ?_
 rintro e_ w6 ⟨ae,ce,rfl,ro_,hb_⟩
 clear Hdc Rd
 have B4:=hd_ (B5.out.trans (hb_.mono B5.out.size))
 have B7:=hd_ (B4.out.alloc B4.out.size (.cells #[.int .i64 sg,.int .i64 m,.slice ae bn ce] 51))
 have hal_:=(Below.refl w6.heap.size w6).alloc nr_ (.cells #[.int .i64 sg,.int .i64 m,.slice ae bn ce] 51)
 replace Rp:=hd_ ((Rp.out.below hb_ nr_).below hal_ nr_)
 replace Ra:=hd_ ((Ra.out.below hb_ nr_).below hal_ nr_)
 replace Rb:=hd_ ((Rb.out.below hb_ nr_).below hal_ nr_)
 replace Ro:=hd_ ((Ro.out.below hb_ nr_).below hal_ nr_)
 have Re:=hd_ (ro_.below hal_ nr_)
 replace F1:=hd_ (heap_old (heap_kept F1.out hb_ nr_) (.cells #[.int .i64 sg,.int .i64 m,.slice ae bn ce] 51))
 have F2:Hid ((w6.alloc (.cells #[.int .i64 sg,.int .i64 m,.slice ae bn ce] 51)).heap[w6.heap.size]?=some (.cells #[.int .i64 sg,.int .i64 m,.slice ae bn ce] 51 (0,0))):=heap_alloc_new w6 _
 clear hb_ hal_ B5 B4 ro_
 go_wp2_with fail
 generalize w6.alloc (.cells #[.int .i64 sg,.int .i64 m,.slice ae bn ce] 51)=w7 at *
 generalize w6.heap.size=g2 at *
 refine cm_ (Hcm.out _ _ _ _ _ _ _ B7.out Rp.out Ra.out Rb.out) ?_
 rintro e_ w8 ⟨rfl,hb_⟩
 have B8:=hd_ (B7.out.trans (hb_.mono B7.out.size))
 replace Ro:=hd_ (Ro.out.below hb_ nr_)
 replace Re:=hd_ (Re.out.below hb_ nr_)
 replace F1:=hd_ (heap_kept F1.out hb_ nr_)
 replace F2:=hd_ (heap_kept F2.out hb_ nr_)
 clear hb_ Hcm B7 Rp Ra Rb
 obtain ⟨x0,x1,x2,-⟩:=three_cells F1.out
 obtain ⟨y0,y1,y2,-⟩:=three_cells F2.out
 go_wp2_with fail
 clear x0 x1 x2 y0 y1 y2 F2
 refine cm_ (Hsa.out _ _ _ _ _ _ _ Ro.out Re.out) ?_
 rintro e_ w9 ⟨rfl,hb_⟩
 have B9:=hd_ (B8.out.trans (hb_.mono B8.out.size))
 obtain ⟨x0,x1,x2,-⟩:=three_cells (heap_kept F1.out hb_ nr_)
 clear hb_ Hsa B8 Ro Re F1
 go_wp2_with fail
 go_ret
 exact ⟨rfl,B9.out⟩
end Go.Proofs.YtnjedhgcfeoemaaGreatDoor

namespace Go.Proofs.YtnjedhgcfeoemaaGreatDoor
open Go.ChangeShapes Go.WideShapes Go.ChangeAt Go.RowKit
theorem enclosureOrders_lifted (os:Os) (started:os.Started) (H:Type) (enc:TypeId×Value→H) :
  ReturnsInHanded {} Tryz.checked os 6 .any (fun w args=>(Rows.enclosureOrdersSpec.pre enc Tryz.prog Tryz.f6 [] false w args∧laidMetH Tryz.prog laidL w)∧sizedMet enc Tryz.prog Tryz.f6 (OpenSpec.ofChange Rows.enclosureOrdersSpec) false w args)
   (Rows.enclosureOrdersSpec.post enc Tryz.prog Tryz.f6 false true false false):=by
 refine returnsInHanded_of_change_and (C:=Tryz.checked) (X:=fun w _=>laidMetH Tryz.prog laidL w) (fun _ _ _ hh h=>h.of_heap hh) own started (by kernel_rfl) Tryz.func6
  (ChangeSpec.witness_shaped (enc:=enc) (C:=Tryz.checked) (os:=os) (X:=fun w _=>laidMetH Tryz.prog laidL w) false (World.doorLaid Tryz.prog 400 os) #[.agg #[.int .u8 0,.int .i8 0,.int .u8 0,.int .i8 0,.int .u8 0,.int .i8 0,.int .u8 0,.int .i8 0,.int .u8 0,.int .i8 0,.int .u8 0,.int .i8 0,.int .u8 0,.int .i8 0,.int .u8 0,.int .i8 0,.int .u8 0]] 8 rfl (World.shaped_of_RefB (by kernel_rfl) (by kernel_rfl)) (by kernel_rfl) (by kernel_rfl) (by kernel_rfl) (door_met os _)) ?_
 intro W base args ds gs before hval0 hW _ _ hL _
 have hval:∀ (j:Nat) t v,Tryz.f6.params[j]?=some t→args[j]?=some v→Value.okWide Tryz.prog W .any base t v:=hval0
 have hW':=hW
 obtain ⟨p,q,hA0,hV,rfl,hfz,hnd⟩:=hW
 have hA:DataW.TrodAll enc Tryz.prog W 0 (fun _=>true) true Tryz.f6.params.toList args.toList ds p:=hA0
 rw [Tryz.params6] at hA hval
 obtain ⟨v0,vs0,d0,ds0,p0,q0,hargs,rfl,rfl,h0,r0⟩:=trodAll_cons hA
 obtain ⟨rfl,rfl,rfl⟩:=trodAll_nil r0
 obtain rfl:args = #[v0]:=by cases args; simp_all
 obtain ⟨rfl,rfl⟩:=trodVars_none hV
 have k0:=h0
 have lt0:∀ x∈p0,x.block < W.heap.size:=by obtain ⟨m,hm⟩:=k0; exact DataW.trod_lt m _ _ _ hm
 obtain ⟨pn,nA,dA,nB,dB,rfl,hpn,hnA,hdA,hnB,hdB⟩:=open_pair (hval 0 79 v0 rfl rfl) h0
 clear hA0 hval0
 refine (lawEor W pn nA dA nB dB hpn hnA hdA hnB hdB (laid_of hL)).mono fun e W' ⟨he,bel⟩=>?_
 subst he
 exact ⟨_,rfl,_,_,_,[],_,[],hW',trodAll_mk1 (shut_bool Tryz.underlying4 _),(trodAll_cons_mk (Below.trod laidOut (by kernel_rfl) (of_decide_eq_true (by kernel_rfl)) k0 bel lt0) trodAll_mk0),rfl,bel.frame _,fun h=>by cases h⟩
end Go.Proofs.YtnjedhgcfeoemaaGreatDoor

namespace Go.Proofs.YtnjedhgcfeoemaaGreatDoor
open Go.ChangeShapes Go.WideShapes Go.ChangeAt Go.RowKit
theorem enclosureOrders_row:Rows.EnclosureOrdersSaid :=
 OpenClaim.holds_of_wide 6 Tryz.f6 rfl rfl rfl rfl rfl rfl rfl ⟨rfl,rfl,rfl,rfl,rfl⟩ rfl rfl rfl rfl rfl (by as_aux_lemma=>kernel_rfl) Tryz.func6 (by
   unfold joinedFacts
   simp only [Bool.and_eq_true]
   repeat' (refine And.intro ?_ ?_)
   all_goals (as_aux_lemma=>kernel_rfl))
  (by as_aux_lemma=>exact of_decide_eq_true (by kernel_rfl)) (by unfold Func.isWrapper; first | (rw [if_pos (by decide +kernel)]; kernel_rfl) | (rw [if_neg (by decide +kernel)]; exact ⟨rfl,rfl⟩))
  (fun os started H enc _=>enclosureOrders_lifted os started H enc)
end Go.Proofs.YtnjedhgcfeoemaaGreatDoor
