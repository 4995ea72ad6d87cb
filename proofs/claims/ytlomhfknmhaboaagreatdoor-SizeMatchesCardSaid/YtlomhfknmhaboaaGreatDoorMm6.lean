/- For any two intervals with exponents from -40 to 40, the size of the sum is the sum of the sizes, and the sign of a size is that of monzo.Sign; the remainder by the equave does not change if the equave is added. No condition: the statement holds for every input. -/
import Derived.Test.YtlomhfknmhaboaaGreatDoorCards
import Derived.Test.YtlomhfknmhaboaaGreatDoorTie
import Derived.SevenTiedAt
import Derived.Test.YtlomhfknmhaboaaGreatDoorMm5
namespace Go.Proofs.YtlomhfknmhaboaaGreatDoor
open Go.RowKit
theorem big_hundred:1000 < 10 ^ 100:=by decide +kernel
theorem big_hundred':1001 < 10 ^ 100:=by decide +kernel
set_option maxRecDepth 100000 in
set_option maxHeartbeats 64000000 in
theorem lawMatches (w:World) (pn:Nat) (nA:Nat→Int) (dA:Nat→Nat) (nB:Nat→Int) (dB:Nat→Nat) (hpn:pn < 256) (hnA:∀ k,-128≤nA k∧nA k≤127) (hnB:∀ k,-128≤nB k∧nB k≤127) (L:Laid w) :
  Gives Tryz.prog 9 #[.agg (pairV pn nA dA nB dB)] w (.bool true):=by
 unfold Gives
 have hp:=primesL_ok (pn % 10) (Nat.mod_lt _ (by decide))
 have hps:=primesL_small (pn % 10) (Nat.mod_lt _ (by decide))
 have HPr:=Lib.hid (fun W=>primes_any W pn hpn)
 generalize primesL (pn % 10)=ps at *
 obtain ⟨hp0,hp4,hp1,hp2⟩:=hp
 obtain ⟨hq1,hq2⟩:=hps
 have hpos:=smallP_pos hq1
 have hp100:ps.length≤100:=by omega
 have hi:I64s ps:=fun x hx=>by have:=hp2 x hx; omega
 have h97:∀ p∈ps,2≤p∧p≤97:=fun p hp=>by have:=hp2 p hp; omega
 have HK:Hid (∀ W,Below w.heap.size w W→Gives Tryz.prog 12 #[] W (.bool true)):=fun W hW=>known_ok W (L.below hW)
 have HA:Hid (∀ W a0 c0,Below w.heap.size w W→Calls Tryz.prog 42 #[.slice a0 ps.length c0,.agg #[.int .i8 (nA 0),.int .u8 (dA 0),.int .i8 (nA 1),.int .u8 (dA 1),.int .i8 (nA 2),.int .u8 (dA 2),.int .i8 (nA 3),.int .u8 (dA 3)]] W (IvlOut W nA ps.length)):=fun W a0 c0 hW=>interval_any W a0 c0 ps.length hp4 nA dA hnA (L.below hW)
 have HB:Hid (∀ W a0 c0,Below w.heap.size w W→Calls Tryz.prog 42 #[.slice a0 ps.length c0,.agg #[.int .i8 (nB 0),.int .u8 (dB 0),.int .i8 (nB 1),.int .u8 (dB 1),.int .i8 (nB 2),.int .u8 (dB 2),.int .i8 (nB 3),.int .u8 (dB 3)]] W (IvlOut W nB ps.length)):=fun W a0 c0 hW=>interval_any W a0 c0 ps.length hp4 nB dB hnB (L.below hW)
 unfold IvlOut at HA HB
 have lr:=rowI_length nA ps.length
 have lq:=rowI_length nB ps.length
 have br:=rowI_le nA ps.length
 have bq:=rowI_le nB ps.length
 generalize rowI nA ps.length=r at *
 generalize rowI nB ps.length=q at *
 have lb:(addI r q).length=ps.length:=by unfold addI; rw [List.length_zipWith]; omega
 have bb:∀ x∈addI r q,-80≤x∧x≤80:=fun x hx=>by
  unfold addI at hx
  obtain ⟨i,hi,rfl⟩:=List.mem_iff_getElem.1 hx
  rw [List.getElem_zipWith]
  have h1:=br _ (List.getElem_mem (l:=r) (n:=i) (by simp at hi; omega))
  have h2:=bq _ (List.getElem_mem (l:=q) (n:=i) (by simp at hi; omega))
  omega
 have xr:Xs r:=fun x hx=>by have:=br x hx; omega
 have xq:Xs q:=fun x hx=>by have:=bq x hx; omega
 have xb:Xs (addI r q):=fun x hx=>by have:=bb x hx; omega
 have hcast:=cast_add r q
 have la1:(castQ r).length=ps.length:=(castQ_length r).trans lr
 have lb1:(castQ q).length=ps.length:=(castQ_length q).trans lq
 have ls1:(castQ (addI r q)).length=ps.length:=(castQ_length _).trans lb
 have le1:(eqQ ps.length).length=ps.length:=by rw [eqQ_cast,castQ_length,eqI_length]
 have sa:∀ x∈castQ r,Sm 2 x:=cast_sm (by decide) fun x hx=>by have:=br x hx; omega
 have sb:∀ x∈castQ q,Sm 2 x:=cast_sm (by decide) fun x hx=>by have:=bq x hx; omega
 have ss:∀ x∈castQ (addI r q),Sm 30 x:=fun x hx=>(cast_sm (D:=2) (by decide) (fun x hx=>by have:=bb x hx; omega) x hx).le (by decide)
 have se:∀ x∈eqQ ps.length,Sm 2 x:=by rw [eqQ_cast]; exact cast_sm (by decide) fun x hx=>by have:=eqI_le _ x hx; omega
 have ma:Sml 480 12 (castQ r):=sml_cast (N:=40) fun x hx=>by have:=br x hx; omega
 have ms:Sml 960 12 (castQ (addI r q)):=sml_cast (N:=80) fun x hx=>by have:=bb x hx; omega
 have me:Sml 12 12 (eqQ ps.length):=by rw [eqQ_cast]; exact sml_cast (N:=1) (eqI_le _)
 have gs:=ms.good (ps:=ps) (by decide) (pow_kb (by decide)) hq1 hq2
 have hse:=sz_eqv hp1 fun p hp=>(hp2 p hp).1
 have hne:∃ x∈eqQ ps.length,x≠0:=by
  refine Classical.byContradiction fun hc=>?_
  have:=LN.sz_zero (ps:=ps) (l:=eqQ ps.length) hpos (fun x hx=>Classical.byContradiction fun h=>hc ⟨x,hx,h⟩)
  omega
 have hle:(castQ r).length=(eqQ ps.length).length:=la1.trans le1.symm
 have F1:=flr_small hq1 hq2 (by omega) la1 le1 (ma.le (by decide)) (me.le (by decide)) hne
 obtain ⟨z,hz⟩:=F1.exists la1 le1
 have hz2:=floor_next hle hz
 have hzb:=floor_small hp2 hp1 hp4 lr br hz
 have mh:Sml 492 12 (combineQ (castQ r) (eqQ ps.length) 1 1):=by
  have:=Sml.comb (by decide) ma me 1 1
  rw [rat_one_int] at this
  exact this.le (by decide)
 have lh1:(combineQ (castQ r) (eqQ ps.length) 1 1).length=ps.length:=(combineQ_length _ _ _ _ hle).trans la1
 have F2:=flr_small hq1 hq2 (by omega) lh1 le1 (mh.le (by decide)) (me.le (by decide)) hne
 have eU:combineQ (castQ r) (eqQ ps.length) 1 ((-z:Int):Rat)=LN.subQ z (castQ r) (eqQ ps.length):=(sub_comb z _ _).symm
 have eV:combineQ (combineQ (castQ r) (eqQ ps.length) 1 1) (eqQ ps.length) 1 ((-(z + 1):Int):Rat)=LN.subQ z (castQ r) (eqQ ps.length):=by rw [← sub_comb,sub_add z hle]
 have sz1:Sm 4 ((-z:Int):Rat):=⟨by rw [Rat.num_intCast]; omega,by rw [Rat.den_intCast]; exact Nat.one_lt_pow (by decide) (by decide)⟩
 have su:∀ x∈LN.subQ z (castQ r) (eqQ ps.length),Sm 30 x:=by
  rw [← eU]
  exact fun x hx=>(combineQ_sm sa se sm_one sz1 x hx).le (by decide)
 have sh:∀ x∈combineQ (castQ r) (eqQ ps.length) 1 1,Sm 30 x:=fun x hx=>(combineQ_sm sa se sm_one sm_one x hx).le (by decide)
 have lu1:(LN.subQ z (castQ r) (eqQ ps.length)).length=ps.length:=by rw [← eU]; exact (combineQ_length _ _ _ _ hle).trans la1
 have mu:Sml (480 + 12 * 1000) 12 (LN.subQ z (castQ r) (eqQ ps.length)):=by
  rw [← eU]
  have:=Sml.comb (by decide) ma me 1 (-z)
  rw [rat_one_int] at this
  exact this.le (by have:12 * (-z).natAbs≤12 * 1000:=Nat.mul_le_mul_left _ (by omega); omega)
 have gu:=mu.good (ps:=ps) (by decide) (pow_kb (by decide)) hq1 hq2
 have gd:=(Sml.comb (by decide) mu me 1 (-1)).good (ps:=ps) (by decide) (pow_kb (by decide)) hq1 hq2
 have hlow:0≤LN.sz ps (LN.subQ z (castQ r) (eqQ ps.length)):=by have:=hz.1; rw [hse] at this; omega
 have hhigh:LN.sz ps (difQ (LN.subQ z (castQ r) (eqQ ps.length)) (eqQ ps.length)) < 0:=by
  rw [dif_sub z hle]
  have:=hz.2; rw [hse] at this; omega
 have hc1:mcode1 ps (addI r q)=0:=mcode_one hp0 xb lb
 have s30:∀ {l:List Rat},(∀ q∈l,Sm 2 q)→∀ q∈l,Sm 30 q:=fun h q hq=>(h q hq).le (by decide)
 have HMA:Hid (∀ W a0 a1 a2 c0 c1 c2,Below w.heap.size w W→Rd W a0 (ints ps)→Rd W a1 (ints r)→Rd W a2 (ints q)→Calls Tryz.prog 43 #[.slice a0 ps.length c0,.slice a1 ps.length c1,.slice a2 ps.length c2] W fun e w'=>∃ a c,e = .returned (.tuple #[.slice a ps.length c,.int .i64 0])∧Rd w' a (ints (addI r q))∧Below W.heap.size W w'):=fun W a0 a1 a2 c0 c1 c2 hW r0 r1 r2=>monAdd_ok W ps r q a0 a1 a2 c0 c1 c2 r0 hi hp0 r1 r2 lr lq xr xq xb
 have HOf:Hid (∀ W a0 a1 c0 c1,Below w.heap.size w W→Rd W a0 (ints ps)→Rd W a1 (ints (addI r q))→Calls Tryz.prog 39 #[.slice a0 ps.length c0,.slice a1 ps.length c1] W fun e w'=>∃ a c,e = .returned (.tuple #[.slice a ps.length c,.int .i64 0])∧Rd w' a (cellsQ (castQ (addI r q)))∧Below W.heap.size W w'):=fun W a0 a1 c0 c1 hW r0 r1=>by
  have h:=of_ok W a0 a1 c0 c1 ps (addI r q) r0 hi r1 (fun x hx=>by have:=bb x hx; omega) hc1 (L.below hW)
  unfold GivesOk at h
  rw [List.length_map,lb] at h
  refine Calls.mono h ?_
  rintro e w' ⟨a,c,rfl,ho,hb⟩
  exact ⟨a,c,rfl,ho.rd,hb⟩
 have HAd:Hid (∀ W a0 a1 a2 c0 c1 c2,Below w.heap.size w W→Rd W a0 (ints ps)→Rd W a1 (cellsQ (castQ r))→Rd W a2 (cellsQ (castQ q))→Calls Tryz.prog 22 #[.slice a0 ps.length c0,.slice a1 ps.length c1,.slice a2 ps.length c2] W fun e w'=>∃ a c,e = .returned (.tuple #[.slice a ps.length c,.int .i64 0])∧Rd w' a (cellsQ (castQ (addI r q)))∧Below W.heap.size W w'):=fun W a0 a1 a2 c0 c1 c2 hW r0 r1 r2=>by rw [hcast]; exact addR_ok c0 c1 c2 hp0 hp2 r0 r1 r2 la1 lb1 sa sb (L.below hW)
 have HAe:Hid (∀ W a0 a1 a2 c0 c1 c2,Below w.heap.size w W→Rd W a0 (ints ps)→Rd W a1 (cellsQ (castQ r))→Rd W a2 (cellsQ (eqQ ps.length))→Calls Tryz.prog 22 #[.slice a0 ps.length c0,.slice a1 ps.length c1,.slice a2 ps.length c2] W fun e w'=>∃ a c,e = .returned (.tuple #[.slice a ps.length c,.int .i64 0])∧Rd w' a (cellsQ (combineQ (castQ r) (eqQ ps.length) 1 1))∧Below W.heap.size W w'):=fun W a0 a1 a2 c0 c1 c2 hW r0 r1 r2=>addR_ok c0 c1 c2 hp0 hp2 r0 r1 r2 la1 le1 sa se (L.below hW)
 have HSs:Hid (∀ W a0 a1 c0 c1,Below w.heap.size w W→Rd W a0 (ints ps)→Rd W a1 (cellsQ (castQ (addI r q)))→Gives Tryz.prog 27 #[.slice a0 ps.length c0,.slice a1 ps.length c1] W (.tuple #[.int .i64 (LN.sz ps (castQ (addI r q))),.int .i64 0])):=fun W a0 a1 c0 c1 hW r0 r1=>Sign_dec W ps a0 a1 c0 c1 _ ⟨r0,r1,ls1,hp100,h97,ss,by decide⟩ hp0 gs (L.below hW)
 have HMs:Hid (∀ W a0 a1 c0 c1,Below w.heap.size w W→Rd W a0 (ints ps)→Rd W a1 (ints (addI r q))→Gives Tryz.prog 44 #[.slice a0 ps.length c0,.slice a1 ps.length c1] W (.tuple #[.int .i64 (LN.sz ps (castQ (addI r q))),.int .i64 0])):=fun W a0 a1 c0 c1 hW r0 r1=>monSign_any W ps (addI r q) a0 a1 c0 c1 ⟨r0,r1,lb,by omega,h97,xb⟩ hc1 hpos (L.below hW)
 have HE:Hid (∀ (W:World) (a1 a2:Option Addr) (c1 c2:Nat) (lx:List Rat),lx.length=ps.length→Rd W a1 (cellsQ lx)→Rd W a2 (cellsQ lx)→Gives Tryz.prog 20 #[.slice a1 ps.length c1,.slice a2 ps.length c2] W (.bool true)):=fun W a1 a2 c1 c2 lx hx r1 r2=>by
  have h:=equal_any W a1 a2 c1 c2 lx lx r1 r2 (by omega)
  rw [hx,decide_eq_true rfl] at h
  exact h
 have HEq:Hid (∀ W a0 c0,Below w.heap.size w W→Rd W a0 (ints ps)→Calls Tryz.prog 38 #[.slice a0 ps.length c0] W fun e w'=>∃ a c,e = .returned (.tuple #[.slice a ps.length c,.int .i64 0])∧Rd w' a (cellsQ (eqQ ps.length))∧Below W.heap.size W w'):=fun W a0 c0 hW r0=>by
  have h:=equave_ok W a0 c0 ps r0 hi hp0 (L.below hW)
  unfold GivesOk at h
  rw [show ((List.replicate ps.length (0:Rat)).set 0 1)=eqQ ps.length from rfl,le1] at h
  refine Calls.mono h ?_
  rintro e w' ⟨a,c,rfl,ho,hb⟩
  exact ⟨a,c,rfl,ho.rd,hb⟩
 have hsf:∀ {l:List Rat},(∀ q∈l,Sm 30 q)→shortAll l=true:=fun h=>shortAll_sm h (by decide)
 have hnz:=tlQ_ne (ps:=ps) le1 hne
 have HR1:Hid (∀ W a0 a1 a2 c0 c1 c2,Below w.heap.size w W→Rd W a0 (ints ps)→Rd W a1 (cellsQ (castQ r))→Rd W a2 (cellsQ (eqQ ps.length))→Calls Tryz.prog 32 #[.slice a0 ps.length c0,.slice a1 ps.length c1,.slice a2 ps.length c2] W fun e w'=>∃ a c,e = .returned (.tuple #[.slice a ps.length c,.int .i64 0])∧Rd w' a (cellsQ (LN.subQ z (castQ r) (eqQ ps.length)))∧Below W.heap.size W w'):=fun W a0 a1 a2 c0 c1 c2 hW r0 r1 r2=>by
  have A1:SizeOk W ps a0 a1 (castQ r) 30:=⟨r0,r1,la1,hp100,h97,s30 sa,by decide⟩
  have B1:SizeOk W ps a0 a2 (eqQ ps.length) 30:=⟨r0,r2,le1,hp100,h97,s30 se,by decide⟩
  have h:=Remainder_ok W ps a0 a1 a2 c0 c1 c2 _ _ A1 B1 hp0 (L.below hW) hnz z (fun W' hW'=>floor_det W' ps a0 a1 a2 c0 c1 c2 30 13 _ _ (A1.below hW') (B1.below hW') (by decide) F1 (L.below (hW.trans (hW'.mono hW.size))) hz) (Nat.lt_of_le_of_lt (show z.natAbs≤1000 by omega) big_hundred) (by rw [eU]; exact hsf su)
  rw [eU] at h
  exact h
 have HR2:Hid (∀ W a0 a1 a2 c0 c1 c2,Below w.heap.size w W→Rd W a0 (ints ps)→Rd W a1 (cellsQ (combineQ (castQ r) (eqQ ps.length) 1 1))→Rd W a2 (cellsQ (eqQ ps.length))→Calls Tryz.prog 32 #[.slice a0 ps.length c0,.slice a1 ps.length c1,.slice a2 ps.length c2] W fun e w'=>∃ a c,e = .returned (.tuple #[.slice a ps.length c,.int .i64 0])∧Rd w' a (cellsQ (LN.subQ z (castQ r) (eqQ ps.length)))∧Below W.heap.size W w'):=fun W a0 a1 a2 c0 c1 c2 hW r0 r1 r2=>by
  have A1:SizeOk W ps a0 a1 (combineQ (castQ r) (eqQ ps.length) 1 1) 30:=⟨r0,r1,lh1,hp100,h97,sh,by decide⟩
  have B1:SizeOk W ps a0 a2 (eqQ ps.length) 30:=⟨r0,r2,le1,hp100,h97,s30 se,by decide⟩
  have h:=Remainder_ok W ps a0 a1 a2 c0 c1 c2 _ _ A1 B1 hp0 (L.below hW) hnz (z + 1) (fun W' hW'=>floor_det W' ps a0 a1 a2 c0 c1 c2 30 13 _ _ (A1.below hW') (B1.below hW') (by decide) F2 (L.below (hW.trans (hW'.mono hW.size))) hz2) (Nat.lt_of_le_of_lt (show (z + 1).natAbs≤1001 by omega) big_hundred') (by rw [eV]; exact hsf su)
  rw [eV] at h
  exact h
 have HSu:Hid (∀ W a0 a1 c0 c1,Below w.heap.size w W→Rd W a0 (ints ps)→Rd W a1 (cellsQ (LN.subQ z (castQ r) (eqQ ps.length)))→Gives Tryz.prog 27 #[.slice a0 ps.length c0,.slice a1 ps.length c1] W (.tuple #[.int .i64 (LN.sz ps (LN.subQ z (castQ r) (eqQ ps.length))),.int .i64 0])):=fun W a0 a1 c0 c1 hW r0 r1=>Sign_dec W ps a0 a1 c0 c1 _ ⟨r0,r1,lu1,hp100,h97,su,by decide⟩ hp0 gu (L.below hW)
 have HCu:Hid (∀ W a0 a1 a2 c0 c1 c2,Below w.heap.size w W→Rd W a0 (ints ps)→Rd W a1 (cellsQ (LN.subQ z (castQ r) (eqQ ps.length)))→Rd W a2 (cellsQ (eqQ ps.length))→Gives Tryz.prog 21 #[.slice a0 ps.length c0,.slice a1 ps.length c1,.slice a2 ps.length c2] W (.tuple #[.int .i64 (LN.sz ps (difQ (LN.subQ z (castQ r) (eqQ ps.length)) (eqQ ps.length))),.int .i64 0])):=fun W a0 a1 a2 c0 c1 c2 hW r0 r1 r2=>cmp_ok c0 c1 c2 hp0 hp2 hp100 r0 r1 r2 lu1 le1 su (s30 se) gd (L.below hW)
 have HLu:=Lib.hid lu1
 have HLs:=Lib.hid ls1
 generalize LN.sz ps (LN.subQ z (castQ r) (eqQ ps.length))=lowv at *
 generalize LN.sz ps (difQ (LN.subQ z (castQ r) (eqQ ps.length)) (eqQ ps.length))=highv at *
 generalize LN.sz ps (castQ (addI r q))=sv at *
 have hlow':¬ lowv < 0:=by omega
 clear L lr lq br bq lb bb xr xq xb hcast la1 lb1 ls1 le1 sa sb ss se ma ms me gs hse hne hle F1 hz hz2 hzb mh lh1 F2 eU eV sz1 su sh lu1 mu gu gd hc1 s30 hsf hnz hp0 hp4 hp1 hp2 hq1 hq2 hpos hp100 hi h97 hpn hnA hnB
 generalize LN.subQ z (castQ r) (eqQ ps.length)=U at *
 generalize combineQ (castQ r) (eqQ ps.length) 1 1=H at *
 generalize eqQ ps.length=E at *
 generalize castQ (addI r q)=S at *
 generalize castQ r=A at *
 generalize castQ q=Bq at *
 generalize addI r q=rq at *
 generalize ps.length=n at *
 unfold pairV
 have B0:=Lib.hid ((Below.refl w.heap.size w).alloc nr_ (.cells #[.int .u8 pn,.int .i8 (nA 0),.int .u8 (dA 0),.int .i8 (nA 1),.int .u8 (dA 1),.int .i8 (nA 2),.int .u8 (dA 2),.int .i8 (nA 3),.int .u8 (dA 3),.int .i8 (nB 0),.int .u8 (dB 0),.int .i8 (nB 1),.int .u8 (dB 1),.int .i8 (nB 2),.int .u8 (dB 2),.int .i8 (nB 3),.int .u8 (dB 3)] 50))
 have P0:=Lib.hid (heap_at w #[.int .u8 pn,.int .i8 (nA 0),.int .u8 (dA 0),.int .i8 (nA 1),.int .u8 (dA 1),.int .i8 (nA 2),.int .u8 (dA 2),.int .i8 (nA 3),.int .u8 (dA 3),.int .i8 (nB 0),.int .u8 (dB 0),.int .i8 (nB 1),.int .u8 (dB 1),.int .i8 (nB 2),.int .u8 (dB 2),.int .i8 (nB 3),.int .u8 (dB 3)] 50 _ rfl)
 go_enter Tryz.func9,Tryz.ntmps9
 go_wp2_with fail
 generalize w.alloc (.cells #[.int .u8 pn,.int .i8 (nA 0),.int .u8 (dA 0),.int .i8 (nA 1),.int .u8 (dA 1),.int .i8 (nA 2),.int .u8 (dA 2),.int .i8 (nA 3),.int .u8 (dA 3),.int .i8 (nB 0),.int .u8 (dB 0),.int .i8 (nB 1),.int .u8 (dB 1),.int .i8 (nB 2),.int .u8 (dB 2),.int .i8 (nB 3),.int .u8 (dB 3)] 50)=w0 at *
 refine Calls.mono (HK.out _ B0.out) ?_
 rintro e_ w1 ⟨rfl,hb_⟩
 have B_1:=Lib.hid (B0.out.trans (hb_.mono B0.out.size))
 replace P0:=Lib.hid (heap_kept P0.out hb_ nr_)
 clear hb_ B0 HK
 have p0:w1.cell? ⟨w.heap.size,0,none⟩=some (.int .u8 pn):=by rw [cell_of_row _ _ _ _ _ _ P0.out]; rfl
 go_wp2_with fail
 clear p0
 refine Calls.mono (HPr.out _) ?_
 rintro e_ w2 ⟨gp,rfl,rp_,hb_⟩
 have B_2:=Lib.hid (B_1.out.trans (hb_.mono B_1.out.size))
 replace P0:=Lib.hid (heap_kept P0.out hb_ nr_)
 have Rp:=Lib.hid rp_
 clear rp_
 clear hb_ B_1 HPr
 have p1:w2.cell? ⟨w.heap.size,1,none⟩=some (.int .i8 (nA 0)):=by rw [cell_of_row _ _ _ _ _ _ P0.out]; rfl
 have p2:w2.cell? ⟨w.heap.size,2,none⟩=some (.int .u8 (dA 0)):=by rw [cell_of_row _ _ _ _ _ _ P0.out]; rfl
 have p3:w2.cell? ⟨w.heap.size,3,none⟩=some (.int .i8 (nA 1)):=by rw [cell_of_row _ _ _ _ _ _ P0.out]; rfl
 have p4:w2.cell? ⟨w.heap.size,4,none⟩=some (.int .u8 (dA 1)):=by rw [cell_of_row _ _ _ _ _ _ P0.out]; rfl
 have p5:w2.cell? ⟨w.heap.size,5,none⟩=some (.int .i8 (nA 2)):=by rw [cell_of_row _ _ _ _ _ _ P0.out]; rfl
 have p6:w2.cell? ⟨w.heap.size,6,none⟩=some (.int .u8 (dA 2)):=by rw [cell_of_row _ _ _ _ _ _ P0.out]; rfl
 have p7:w2.cell? ⟨w.heap.size,7,none⟩=some (.int .i8 (nA 3)):=by rw [cell_of_row _ _ _ _ _ _ P0.out]; rfl
 have p8:w2.cell? ⟨w.heap.size,8,none⟩=some (.int .u8 (dA 3)):=by rw [cell_of_row _ _ _ _ _ _ P0.out]; rfl
 go_wp2_with fail
 clear p1 p2 p3 p4 p5 p6 p7 p8
 refine Calls.mono (HA.out _ _ _ B_2.out) ?_
 rintro e_ w3 ⟨a1,c1,a2,c2,rfl,r1_,r2_,hb_⟩
 have B_3:=Lib.hid (B_2.out.trans (hb_.mono B_2.out.size))
 replace P0:=Lib.hid (heap_kept P0.out hb_ nr_)
 replace Rp:=Lib.hid (Rp.out.below hb_ nr_)
 have Rr:=Lib.hid r1_
 clear r1_
 have RA:=Lib.hid r2_
 clear r2_
 clear hb_ B_2 HA
 have p9:w3.cell? ⟨w.heap.size,9,none⟩=some (.int .i8 (nB 0)):=by rw [cell_of_row _ _ _ _ _ _ P0.out]; rfl
 have p10:w3.cell? ⟨w.heap.size,10,none⟩=some (.int .u8 (dB 0)):=by rw [cell_of_row _ _ _ _ _ _ P0.out]; rfl
 have p11:w3.cell? ⟨w.heap.size,11,none⟩=some (.int .i8 (nB 1)):=by rw [cell_of_row _ _ _ _ _ _ P0.out]; rfl
 have p12:w3.cell? ⟨w.heap.size,12,none⟩=some (.int .u8 (dB 1)):=by rw [cell_of_row _ _ _ _ _ _ P0.out]; rfl
 have p13:w3.cell? ⟨w.heap.size,13,none⟩=some (.int .i8 (nB 2)):=by rw [cell_of_row _ _ _ _ _ _ P0.out]; rfl
 have p14:w3.cell? ⟨w.heap.size,14,none⟩=some (.int .u8 (dB 2)):=by rw [cell_of_row _ _ _ _ _ _ P0.out]; rfl
 have p15:w3.cell? ⟨w.heap.size,15,none⟩=some (.int .i8 (nB 3)):=by rw [cell_of_row _ _ _ _ _ _ P0.out]; rfl
 have p16:w3.cell? ⟨w.heap.size,16,none⟩=some (.int .u8 (dB 3)):=by rw [cell_of_row _ _ _ _ _ _ P0.out]; rfl
 go_wp2_with fail
 clear p9 p10 p11 p12 p13 p14 p15 p16
 refine Calls.mono (HB.out _ _ _ B_3.out) ?_
 rintro e_ w4 ⟨a3,c3,a4,c4,rfl,r1_,r2_,hb_⟩
 have B_4:=Lib.hid (B_3.out.trans (hb_.mono B_3.out.size))
 replace P0:=Lib.hid (heap_kept P0.out hb_ nr_)
 replace Rp:=Lib.hid (Rp.out.below hb_ nr_)
 replace Rr:=Lib.hid (Rr.out.below hb_ nr_)
 replace RA:=Lib.hid (RA.out.below hb_ nr_)
 have Rq:=Lib.hid r1_
 clear r1_
 have RB:=Lib.hid r2_
 clear r2_
 clear hb_ B_3 HB P0
 go_wp2_with fail
 refine Calls.mono (HMA.out _ _ _ _ _ _ _ B_4.out Rp.out Rr.out Rq.out) ?_
 rintro e_ w5 ⟨a5,c5,rfl,r1_,hb_⟩
 have B_5:=Lib.hid (B_4.out.trans (hb_.mono B_4.out.size))
 replace Rp:=Lib.hid (Rp.out.below hb_ nr_)
 replace Rr:=Lib.hid (Rr.out.below hb_ nr_)
 replace RA:=Lib.hid (RA.out.below hb_ nr_)
 replace Rq:=Lib.hid (Rq.out.below hb_ nr_)
 replace RB:=Lib.hid (RB.out.below hb_ nr_)
 have Rb:=Lib.hid r1_
 clear r1_
 clear hb_ B_4 HMA Rr Rq
 go_wp2_with fail
 refine Calls.mono (HOf.out _ _ _ _ _ B_5.out Rp.out Rb.out) ?_
 rintro e_ w6 ⟨a6,c6,rfl,r1_,hb_⟩
 have B_6:=Lib.hid (B_5.out.trans (hb_.mono B_5.out.size))
 replace Rp:=Lib.hid (Rp.out.below hb_ nr_)
 replace RA:=Lib.hid (RA.out.below hb_ nr_)
 replace RB:=Lib.hid (RB.out.below hb_ nr_)
 replace Rb:=Lib.hid (Rb.out.below hb_ nr_)
 have RS:=Lib.hid r1_
 clear r1_
 clear hb_ B_5 HOf
 go_wp2_with fail
 refine Calls.mono (HAd.out _ _ _ _ _ _ _ B_6.out Rp.out RA.out RB.out) ?_
 rintro e_ w7 ⟨a7,c7,rfl,r1_,hb_⟩
 have B_7:=Lib.hid (B_6.out.trans (hb_.mono B_6.out.size))
 replace Rp:=Lib.hid (Rp.out.below hb_ nr_)
 replace RA:=Lib.hid (RA.out.below hb_ nr_)
 replace RB:=Lib.hid (RB.out.below hb_ nr_)
 replace Rb:=Lib.hid (Rb.out.below hb_ nr_)
 replace RS:=Lib.hid (RS.out.below hb_ nr_)
 have RT:=Lib.hid r1_
 clear r1_
 clear hb_ B_6 HAd RB
 go_wp2_with fail
 refine Calls.mono (HSs.out _ _ _ _ _ B_7.out Rp.out RS.out) ?_
 rintro e_ w8 ⟨rfl,hb_⟩
 have B_8:=Lib.hid (B_7.out.trans (hb_.mono B_7.out.size))
 replace Rp:=Lib.hid (Rp.out.below hb_ nr_)
 replace RA:=Lib.hid (RA.out.below hb_ nr_)
 replace Rb:=Lib.hid (Rb.out.below hb_ nr_)
 replace RS:=Lib.hid (RS.out.below hb_ nr_)
 replace RT:=Lib.hid (RT.out.below hb_ nr_)
 clear hb_ B_7 HSs
 go_wp2_with fail
 refine Calls.mono (HMs.out _ _ _ _ _ B_8.out Rp.out Rb.out) ?_
 rintro e_ w9 ⟨rfl,hb_⟩
 have B_9:=Lib.hid (B_8.out.trans (hb_.mono B_8.out.size))
 replace Rp:=Lib.hid (Rp.out.below hb_ nr_)
 replace RA:=Lib.hid (RA.out.below hb_ nr_)
 replace Rb:=Lib.hid (Rb.out.below hb_ nr_)
 replace RS:=Lib.hid (RS.out.below hb_ nr_)
 replace RT:=Lib.hid (RT.out.below hb_ nr_)
 clear hb_ B_8 HMs Rb
 go_wp2_with fail
 refine Calls.mono (HE.out _ _ _ _ _ _ HLs.out RS.out RT.out) ?_
 rintro e_ w10 ⟨rfl,hb_⟩
 have B_10:=Lib.hid (B_9.out.trans (hb_.mono B_9.out.size))
 replace Rp:=Lib.hid (Rp.out.below hb_ nr_)
 replace RA:=Lib.hid (RA.out.below hb_ nr_)
 replace RS:=Lib.hid (RS.out.below hb_ nr_)
 replace RT:=Lib.hid (RT.out.below hb_ nr_)
 clear hb_ B_9 RS RT
 go_wp2_with fail
 refine Calls.mono (HEq.out _ _ _ B_10.out Rp.out) ?_
 rintro e_ w11 ⟨a8,c8,rfl,r1_,hb_⟩
 have B_11:=Lib.hid (B_10.out.trans (hb_.mono B_10.out.size))
 replace Rp:=Lib.hid (Rp.out.below hb_ nr_)
 replace RA:=Lib.hid (RA.out.below hb_ nr_)
 have RE:=Lib.hid r1_
 clear r1_
 clear hb_ B_10 HEq
 go_wp2_with fail
 refine Calls.mono (HAe.out _ _ _ _ _ _ _ B_11.out Rp.out RA.out RE.out) ?_
 rintro e_ w12 ⟨a9,c9,rfl,r1_,hb_⟩
 have B_12:=Lib.hid (B_11.out.trans (hb_.mono B_11.out.size))
 replace Rp:=Lib.hid (Rp.out.below hb_ nr_)
 replace RA:=Lib.hid (RA.out.below hb_ nr_)
 replace RE:=Lib.hid (RE.out.below hb_ nr_)
 have RH:=Lib.hid r1_
 clear r1_
 clear hb_ B_11 HAe
 go_wp2_with fail
 refine Calls.mono (HR1.out _ _ _ _ _ _ _ B_12.out Rp.out RA.out RE.out) ?_
 rintro e_ w13 ⟨a10,c10,rfl,r1_,hb_⟩
 have B_13:=Lib.hid (B_12.out.trans (hb_.mono B_12.out.size))
 replace Rp:=Lib.hid (Rp.out.below hb_ nr_)
 replace RA:=Lib.hid (RA.out.below hb_ nr_)
 replace RE:=Lib.hid (RE.out.below hb_ nr_)
 replace RH:=Lib.hid (RH.out.below hb_ nr_)
 have RU:=Lib.hid r1_
 clear r1_
 clear hb_ B_12 HR1 RA
 go_wp2_with fail
 refine Calls.mono (HR2.out _ _ _ _ _ _ _ B_13.out Rp.out RH.out RE.out) ?_
 rintro e_ w14 ⟨a11,c11,rfl,r1_,hb_⟩
 have B_14:=Lib.hid (B_13.out.trans (hb_.mono B_13.out.size))
 replace Rp:=Lib.hid (Rp.out.below hb_ nr_)
 replace RE:=Lib.hid (RE.out.below hb_ nr_)
 replace RH:=Lib.hid (RH.out.below hb_ nr_)
 replace RU:=Lib.hid (RU.out.below hb_ nr_)
 have RV:=Lib.hid r1_
 clear r1_
 clear hb_ B_13 HR2 RH
 go_wp2_with fail
 refine Calls.mono (HSu.out _ _ _ _ _ B_14.out Rp.out RU.out) ?_
 rintro e_ w15 ⟨rfl,hb_⟩
 have B_15:=Lib.hid (B_14.out.trans (hb_.mono B_14.out.size))
 replace Rp:=Lib.hid (Rp.out.below hb_ nr_)
 replace RE:=Lib.hid (RE.out.below hb_ nr_)
 replace RU:=Lib.hid (RU.out.below hb_ nr_)
 replace RV:=Lib.hid (RV.out.below hb_ nr_)
 clear hb_ B_14 HSu
 go_wp2_with fail
 refine Calls.mono (HCu.out _ _ _ _ _ _ _ B_15.out Rp.out RU.out RE.out) ?_
 rintro e_ w16 ⟨rfl,hb_⟩
 have B_16:=Lib.hid (B_15.out.trans (hb_.mono B_15.out.size))
 replace Rp:=Lib.hid (Rp.out.below hb_ nr_)
 replace RE:=Lib.hid (RE.out.below hb_ nr_)
 replace RU:=Lib.hid (RU.out.below hb_ nr_)
 replace RV:=Lib.hid (RV.out.below hb_ nr_)
 clear hb_ B_15 HCu RE Rp
 go_wp2_with fail
 refine Calls.mono (HE.out _ _ _ _ _ _ HLu.out RU.out RV.out) ?_
 rintro e_ w17 ⟨rfl,hb_⟩
 have B_17:=Lib.hid (B_16.out.trans (hb_.mono B_16.out.size))
 replace RU:=Lib.hid (RU.out.below hb_ nr_)
 replace RV:=Lib.hid (RV.out.below hb_ nr_)
 clear hb_ B_16 HE RU RV
 go_wp2_with fail
 go_ret
 exact ⟨rfl,B_17.out⟩
end Go.Proofs.YtlomhfknmhaboaaGreatDoor

namespace Go.Proofs.YtlomhfknmhaboaaGreatDoor
open Go.ChangeShapes Go.WideShapes Go.ChangeAt Go.RowKit
set_option maxRecDepth 100000 in
theorem sizeMatches_lifted (os:Os) (started:os.Started) (H:Type) (enc:TypeId×Value→H) :
  ReturnsInHanded {} Tryz.checked os 9 .any (fun w args=>(Rows.sizeMatchesSpec.pre enc Tryz.prog Tryz.f9 [] false w args∧laidMetH Tryz.prog laidL w)∧sizedMet enc Tryz.prog Tryz.f9 (OpenSpec.ofChange Rows.sizeMatchesSpec) false w args)
   (Rows.sizeMatchesSpec.post enc Tryz.prog Tryz.f9 false true false false):=by
 refine returnsInHanded_of_change_and (C:=Tryz.checked) (X:=fun w _=>laidMetH Tryz.prog laidL w) (fun _ _ _ hh h=>h.of_heap hh) own started (by kernel_rfl) Tryz.func9
  (ChangeSpec.witness_shaped (enc:=enc) (C:=Tryz.checked) (os:=os) (X:=fun w _=>laidMetH Tryz.prog laidL w) false (World.doorLaid Tryz.prog 400 os) #[.agg #[.int .u8 0,.int .i8 0,.int .u8 0,.int .i8 0,.int .u8 0,.int .i8 0,.int .u8 0,.int .i8 0,.int .u8 0,.int .i8 0,.int .u8 0,.int .i8 0,.int .u8 0,.int .i8 0,.int .u8 0,.int .i8 0,.int .u8 0]] 8 rfl (World.shaped_of_RefB (by kernel_rfl) (by kernel_rfl)) (by kernel_rfl) (by kernel_rfl) (by kernel_rfl) (door_met os _)) ?_
 intro W base args ds gs before hval0 hW _ _ hL _
 have hval:∀ (j:Nat) t v,Tryz.f9.params[j]?=some t→args[j]?=some v→Value.okWide Tryz.prog W .any base t v:=hval0
 have hW':=hW
 obtain ⟨p,q,hA0,hV,rfl,hfz,hnd⟩:=hW
 have hA:DataW.TrodAll enc Tryz.prog W 0 (fun _=>true) true Tryz.f9.params.toList args.toList ds p:=hA0
 rw [Tryz.params9] at hA hval
 obtain ⟨v0,vs0,d0,ds0,p0,q0,hargs,rfl,rfl,h0,r0⟩:=trodAll_cons hA
 obtain ⟨rfl,rfl,rfl⟩:=trodAll_nil r0
 obtain rfl:args = #[v0]:=by cases args; simp_all
 obtain ⟨rfl,rfl⟩:=trodVars_none hV
 have k0:=h0
 have lt0:∀ x∈p0,x.block < W.heap.size:=by obtain ⟨m,hm⟩:=k0; exact DataW.trod_lt m _ _ _ hm
 obtain ⟨pn,nA,dA,nB,dB,rfl,hpn,hnA,hdA,hnB,hdB⟩:=open_pair (hval 0 50 v0 rfl rfl) h0
 clear hA0 hval0
 refine (lawMatches W pn nA dA nB dB hpn hnA hnB (laid_of hL)).mono fun e W' ⟨he,bel⟩=>?_
 subst he
 exact ⟨_,rfl,_,_,_,[],_,[],hW',trodAll_mk1 (shut_bool Tryz.underlying4 _),(trodAll_cons_mk (Below.trod laidOut (by kernel_rfl) (of_decide_eq_true (by kernel_rfl)) k0 bel lt0) trodAll_mk0),rfl,bel.frame _,fun h=>by cases h⟩
theorem sizeMatches_row:Rows.SizeMatchesSaid :=
 OpenClaim.holds_of_wide 9 Tryz.f9 rfl rfl rfl rfl rfl rfl rfl ⟨rfl,rfl,rfl,rfl,rfl⟩ rfl rfl rfl rfl rfl (by kernel_rfl) Tryz.func9 (by kernel_rfl)
  (of_decide_eq_true (by kernel_rfl)) (by unfold Func.isWrapper; first | (rw [if_pos (by decide +kernel)]; kernel_rfl) | (rw [if_neg (by decide +kernel)]; exact ⟨rfl,rfl⟩))
  (fun os started H enc _=>sizeMatches_lifted os started H enc)
theorem sizeMatches_holds:Rows.SizeMatchesCardSaid :=
 Claim7.holds_tied_plain_at .later [] [.data, .data, .data, .sentinel, .sentinel] true (true, "9d0d2a1671fb7254a0d6cd7f535de0290e91414b206b40d6b5ae62423c22e5c1") true
  sizeMatches_row (fun _ h=>by cases h) (by kernel_rfl) (fun _ h=>by cases h) sizeMatches_row_tie rfl ⟨rfl,rfl⟩ (by kernel_rfl) rfl
  (fun f fn hf hfn=>by
   obtain rfl : f = 9 := Option.some.inj ((show Tryz.prog.funcNamed "schisma/schismalaw13.SizeMatches" = some 9 by kernel_rfl).symm.trans hf) |>.symm
   obtain rfl:fn=Tryz.f9:=(Option.some.inj (Tryz.func9.symm.trans hfn)).symm
   exact ⟨by kernel_rfl,fun j t ht=>by
    rw [Tryz.params9] at ht
    have hm:t∈[50]:=by simpa using Array.mem_of_getElem? ht
    have hall:([50].all fun u => !Tryz.prog.wantsStandIn u)=true:=by kernel_rfl
    exact (show Tryz.prog.wantsStandIn t=false by simpa using List.all_eq_true.1 hall t hm)⟩)
  (by kernel_rfl)
#print axioms sizeMatches_holds
end Go.Proofs.YtlomhfknmhaboaaGreatDoor
