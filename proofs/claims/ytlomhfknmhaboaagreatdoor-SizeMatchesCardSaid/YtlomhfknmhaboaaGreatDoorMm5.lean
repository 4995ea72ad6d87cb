/- Lemmas for the laws of this seat, part 5. -/
import Derived.Maps.AppendAt
import Derived.StillTail
import Derived.Lib.QuietBelow
import Derived.BigQuiet
import Derived.Test.YtlomhfknmhaboaaGreatDoorMm4
namespace Go.Proofs.YtlomhfknmhaboaaGreatDoor
open Go.RowKit
theorem prod_le5 {k a:Int} (hk : -100000≤k∧k≤100000) (ha:0≤a∧a≤469762049) : -46976204900000≤k * a∧k * a≤46976204900000:=by
 have h:(k * a).natAbs≤100000 * 469762049:=by rw [Int.natAbs_mul]; exact Nat.mul_le_mul (by omega) (by omega)
 omega
theorem sums_le5:∀ (l:List (Int×Int)),(∀ x∈l,okT 100000 x)→(∀ x∈l,2≤x.1∧x.1≤97) →
  (-((l.length:Int) * 46976204900000)≤lowT l∧lowT l≤(l.length:Int) * 46976204900000)∧(-((l.length:Int) * 46976204900000)≤highT l∧highT l≤(l.length:Int) * 46976204900000)
 | [],_,_=>⟨⟨Int.le_refl _,Int.le_refl _⟩,⟨Int.le_refl _,Int.le_refl _⟩⟩
 | x :: l,h,hp=>by
  have ih:=sums_le5 l (fun y hy=>h y (List.mem_cons_of_mem _ hy)) (fun y hy=>hp y (List.mem_cons_of_mem _ hy))
  have hx:=(h x List.mem_cons_self).1
  have hq:=hp x List.mem_cons_self
  have ha:=lgA_le x.1 hq.1 hq.2
  have t1:=prod_le5 hx (show 0≤lgA x.1∧lgA x.1≤469762049 by omega)
  have t2:=prod_le5 hx (show 0≤lgB x.1∧lgB x.1≤469762049 by unfold lgB; split <;> omega)
  have e1:lowT (x :: l)=min (x.2 * lgA x.1) (x.2 * lgB x.1) + lowT l:=by simp [lowT]
  have e2:highT (x :: l)=max (x.2 * lgA x.1) (x.2 * lgB x.1) + highT l:=by simp [highT]
  rw [e1,e2,List.length_cons]
  omega
theorem lowT_le:∀ l:List (Int×Int),lowT l≤highT l
 | []=>Int.le_refl _
 | x :: l=>by
  have ih:=lowT_le l
  have e1:lowT (x :: l)=min (x.2 * lgA x.1) (x.2 * lgB x.1) + lowT l:=by simp [lowT]
  have e2:highT (x :: l)=max (x.2 * lgA x.1) (x.2 * lgB x.1) + highT l:=by simp [highT]
  rw [e1,e2]
  omega
structure QuoT (tx ty:List (Int×Int)) (d g:Nat) (q:Int):Prop where
 okx:∀ x∈tx,okT 100000 x
 oky:∀ x∈ty,okT 100000 x
 r:(0 < lowT ty∧LN.quoL (lowT tx) (lowT ty) (highT ty) g d=q∧LN.quoH (highT tx) (lowT ty) (highT ty) g d=q) ∨
   (highT ty < 0∧LN.quoL (-highT tx) (-highT ty) (-lowT ty) g d=q∧LN.quoH (-lowT tx) (-highT ty) (-lowT ty) g d=q)
 lo : -4000000000000000000≤q
 hi:q≤4000000000000000000
theorem near_says (w:World) (b1 b2:Option Addr) (d1 d2 D:Nat) (tl:List (Int×Int)) (T:TermsAt w tl b1 b2) (hl:tl.length≤6) :
  ∃ (a h:Int) (b:Bool),(b=true→(∀ x∈tl,okT 100000 x)∧a=lowT tl∧h=highT tl)∧(-300000000000000≤a∧a≤300000000000000)∧(-300000000000000≤h∧h≤300000000000000) ∧
   ∀ W,Below w.heap.size w W→Laid W→Gives Tryz.prog 134 #[.agg (tcells b1 d1 b2 d2 tl.length D),.int .i64 100000] W (.tuple #[.int .i64 a,.int .i64 h,.bool b]):=by
 by_cases ho:∀ x∈tl,okT 100000 x
 ·have hs:=sums_le5 tl ho T.p
  refine ⟨lowT tl,highT tl,true,fun _=>⟨ho,rfl,rfl⟩,by omega,by omega,fun W hW LW=>?_⟩
  have:=near_any W b1 b2 d1 d2 D tl 100000 (by decide) (by decide) T.len (T.below hW).r1 (T.below hW).r2 T.p T.z LW
  unfold nearV at this
  rw [if_pos ho] at this
  exact this
 ·refine ⟨0,0,false,fun h=>(by cases h),by decide,by decide,fun W hW LW=>?_⟩
  have:=near_any W b1 b2 d1 d2 D tl 100000 (by decide) (by decide) T.len (T.below hW).r1 (T.below hW).r2 T.p T.z LW
  unfold nearV at this
  rw [if_neg ho] at this
  exact this
theorem small_says (d:Nat) (hd:Num d):∃ (a:Int) (b:Bool),(b=true→a=d)∧0≤a∧a≤9223372036854775807∧∀ W,Laid W→Gives Tryz.prog 110 #[.string (dec d)] W (.tuple #[.int .i64 a,.bool b]):=by
 by_cases h : -9223372036854775808≤(d:Int)∧(d:Int)≤9223372036854775807
 ·refine ⟨d,true,fun _=>rfl,by omega,h.2,fun W LW=>?_⟩
  have:=smallz_any W (d:Int) hd LW
  rw [if_pos h,itx_nat] at this
  exact this
 ·refine ⟨0,false,fun h=>(by cases h),by decide,by decide,fun W LW=>?_⟩
  have:=smallz_any W (d:Int) hd LW
  rw [if_neg h,itx_nat] at this
  exact this
set_option maxRecDepth 100000 in
set_option maxHeartbeats 64000000 in
theorem quotient_any (w:World) (x1 x2 y1 y2:Option Addr) (e1 e2 g1 g2 d g:Nat) (tx ty:List (Int×Int)) (X:TermsAt w tx x1 x2) (Y:TermsAt w ty y1 y2) (hlx:tx.length≤6) (hly:ty.length≤6) (hd:Num d) (hg:Num g) (hd0:0 < d) (hg0:0 < g) (L:Laid w) :
  Calls Tryz.prog 116 #[.agg (tcells x1 e1 x2 e2 tx.length d),.agg (tcells y1 g1 y2 g2 ty.length g)] w fun e w'=>∃ q b,e = .returned (.tuple #[.int .i64 q,.bool b])∧(b=true→QuoT tx ty d g q)∧Below w.heap.size w w':=by
 obtain ⟨X1,X2,bx,hX,hX1,hX2,NX⟩:=near_says w x1 x2 e1 e2 d tx X hlx
 obtain ⟨Y1,Y2,by_,hY,hY1,hY2,NY⟩:=near_says w y1 y2 g1 g2 g ty Y hly
 obtain ⟨D,bd,hD,hD0,hD1,ND⟩:=small_says d hd
 obtain ⟨G,bg,hG,hG0,hG1,NG⟩:=small_says g hg
 have Hnx:Hid (∀ W,Below w.heap.size w W→Gives Tryz.prog 134 #[.agg (tcells x1 e1 x2 e2 tx.length d),.int .i64 100000] W (.tuple #[.int .i64 X1,.int .i64 X2,.bool bx])):=fun W hW=>NX W hW (L.below hW)
 have Hny:Hid (∀ W,Below w.heap.size w W→Gives Tryz.prog 134 #[.agg (tcells y1 g1 y2 g2 ty.length g),.int .i64 100000] W (.tuple #[.int .i64 Y1,.int .i64 Y2,.bool by_])):=fun W hW=>NY W hW (L.below hW)
 have Hsd:Hid (∀ W,Below w.heap.size w W→Gives Tryz.prog 110 #[.string (dec d)] W (.tuple #[.int .i64 D,.bool bd])):=fun W hW=>ND W (L.below hW)
 have Hsg:Hid (∀ W,Below w.heap.size w W→Gives Tryz.prog 110 #[.string (dec g)] W (.tuple #[.int .i64 G,.bool bg])):=fun W hW=>NG W (L.below hW)
 have R1:Hid (((w.alloc (.cells (tcells x1 e1 x2 e2 tx.length d) 103)).alloc (.cells (tcells y1 g1 y2 g2 ty.length g) 103)).heap[w.heap.size]?=some (.cells #[.slice x1 tx.length e1,.slice x2 tx.length e2,.string (dec d)] 103 (0,0))):=heap_old (heap_at w _ _ _ rfl) _
 have R2:Hid (((w.alloc (.cells (tcells x1 e1 x2 e2 tx.length d) 103)).alloc (.cells (tcells y1 g1 y2 g2 ty.length g) 103)).heap[w.heap.size + 1]?=some (.cells #[.slice y1 ty.length g1,.slice y2 ty.length g2,.string (dec g)] 103 (0,0))):=heap_at _ _ _ _ (by show (w.heap.push _).size=_; exact Array.size_push ..)
 have B0:Hid (Below w.heap.size w ((w.alloc (.cells (tcells x1 e1 x2 e2 tx.length d) 103)).alloc (.cells (tcells y1 g1 y2 g2 ty.length g) 103))):=by
  show Below _ _ _
  have b1:=(Below.refl w.heap.size w).alloc nr_ (.cells (tcells x1 e1 x2 e2 tx.length d) 103)
  exact b1.alloc b1.size _
 have HX:=Lib.hid hX
 have HY:=Lib.hid hY
 have HD:=Lib.hid hD
 have HG:=Lib.hid hG
 clear NX NY ND NG hX hY hD hG X Y L hlx hly hd hg
 generalize tx.length=n at *
 generalize ty.length=m at *
 cases bx with
 | false =>
  go_enter Tryz.func116,Tryz.ntmps116
  go_wp2_with fail
  generalize (w.alloc (.cells (tcells x1 e1 x2 e2 n d) 103)).alloc (.cells (tcells y1 g1 y2 g2 m g) 103)=W0 at *
  refine Calls.mono (Hnx.out _ B0.out) ?_
  rintro e W1 ⟨rfl,hb⟩
  have B1:=Lib.hid (B0.out.trans (hb.mono B0.out.size))
  have R3:=Lib.hid (heap_kept R1.out hb nr_)
  have R4:=Lib.hid (heap_kept R2.out hb nr_)
  clear hb B0 R1 R2 Hnx
  obtain ⟨k0,k1,k2,-⟩:=obj_cells3 R3.out
  obtain ⟨m0,m1,m2,-⟩:=obj_cells3 R4.out
  go_wp2_with fail
  refine Calls.mono (Hny.out _ B1.out) ?_
  rintro e W2 ⟨rfl,hb⟩
  have B2:=Lib.hid (B1.out.trans (hb.mono B1.out.size))
  have R5:=Lib.hid (heap_kept R3.out hb nr_)
  have R6:=Lib.hid (heap_kept R4.out hb nr_)
  clear hb B1 R3 R4 Hny k0 k1 k2 m0 m1 m2
  obtain ⟨k0,k1,k2,-⟩:=obj_cells3 R5.out
  go_wp2_with fail
  refine Calls.mono (Hsd.out _ B2.out) ?_
  rintro e W3 ⟨rfl,hb⟩
  have B3:=Lib.hid (B2.out.trans (hb.mono B2.out.size))
  have R8:=Lib.hid (heap_kept R6.out hb nr_)
  clear hb B2 R5 R6 Hsd k0 k1 k2
  obtain ⟨m0,m1,m2,-⟩:=obj_cells3 R8.out
  go_wp2_with fail
  refine Calls.mono (Hsg.out _ B3.out) ?_
  rintro e W4 ⟨rfl,hb⟩
  have B4:=Lib.hid (B3.out.trans (hb.mono B3.out.size))
  clear hb B3 R8 Hsg m0 m1 m2
  go_wp2_with fail
  go_ret2
  exact ⟨0,false,rfl,fun h=>(by cases h),B4.out⟩
 | true =>
  cases by_ with
  | false =>
   go_enter Tryz.func116,Tryz.ntmps116
   go_wp2_with fail
   generalize (w.alloc (.cells (tcells x1 e1 x2 e2 n d) 103)).alloc (.cells (tcells y1 g1 y2 g2 m g) 103)=W0 at *
   refine Calls.mono (Hnx.out _ B0.out) ?_
   rintro e W1 ⟨rfl,hb⟩
   have B1:=Lib.hid (B0.out.trans (hb.mono B0.out.size))
   have R3:=Lib.hid (heap_kept R1.out hb nr_)
   have R4:=Lib.hid (heap_kept R2.out hb nr_)
   clear hb B0 R1 R2 Hnx
   obtain ⟨k0,k1,k2,-⟩:=obj_cells3 R3.out
   obtain ⟨m0,m1,m2,-⟩:=obj_cells3 R4.out
   go_wp2_with fail
   refine Calls.mono (Hny.out _ B1.out) ?_
   rintro e W2 ⟨rfl,hb⟩
   have B2:=Lib.hid (B1.out.trans (hb.mono B1.out.size))
   have R5:=Lib.hid (heap_kept R3.out hb nr_)
   have R6:=Lib.hid (heap_kept R4.out hb nr_)
   clear hb B1 R3 R4 Hny k0 k1 k2 m0 m1 m2
   obtain ⟨k0,k1,k2,-⟩:=obj_cells3 R5.out
   go_wp2_with fail
   refine Calls.mono (Hsd.out _ B2.out) ?_
   rintro e W3 ⟨rfl,hb⟩
   have B3:=Lib.hid (B2.out.trans (hb.mono B2.out.size))
   have R8:=Lib.hid (heap_kept R6.out hb nr_)
   clear hb B2 R5 R6 Hsd k0 k1 k2
   obtain ⟨m0,m1,m2,-⟩:=obj_cells3 R8.out
   go_wp2_with fail
   refine Calls.mono (Hsg.out _ B3.out) ?_
   rintro e W4 ⟨rfl,hb⟩
   have B4:=Lib.hid (B3.out.trans (hb.mono B3.out.size))
   clear hb B3 R8 Hsg m0 m1 m2
   go_wp2_with fail
   go_ret2
   exact ⟨0,false,rfl,fun h=>(by cases h),B4.out⟩
  | true =>
   cases bd with
   | false =>
    go_enter Tryz.func116,Tryz.ntmps116
    go_wp2_with fail
    generalize (w.alloc (.cells (tcells x1 e1 x2 e2 n d) 103)).alloc (.cells (tcells y1 g1 y2 g2 m g) 103)=W0 at *
    refine Calls.mono (Hnx.out _ B0.out) ?_
    rintro e W1 ⟨rfl,hb⟩
    have B1:=Lib.hid (B0.out.trans (hb.mono B0.out.size))
    have R3:=Lib.hid (heap_kept R1.out hb nr_)
    have R4:=Lib.hid (heap_kept R2.out hb nr_)
    clear hb B0 R1 R2 Hnx
    obtain ⟨k0,k1,k2,-⟩:=obj_cells3 R3.out
    obtain ⟨m0,m1,m2,-⟩:=obj_cells3 R4.out
    go_wp2_with fail
    refine Calls.mono (Hny.out _ B1.out) ?_
    rintro e W2 ⟨rfl,hb⟩
    have B2:=Lib.hid (B1.out.trans (hb.mono B1.out.size))
    have R5:=Lib.hid (heap_kept R3.out hb nr_)
    have R6:=Lib.hid (heap_kept R4.out hb nr_)
    clear hb B1 R3 R4 Hny k0 k1 k2 m0 m1 m2
    obtain ⟨k0,k1,k2,-⟩:=obj_cells3 R5.out
    go_wp2_with fail
    refine Calls.mono (Hsd.out _ B2.out) ?_
    rintro e W3 ⟨rfl,hb⟩
    have B3:=Lib.hid (B2.out.trans (hb.mono B2.out.size))
    have R8:=Lib.hid (heap_kept R6.out hb nr_)
    clear hb B2 R5 R6 Hsd k0 k1 k2
    obtain ⟨m0,m1,m2,-⟩:=obj_cells3 R8.out
    go_wp2_with fail
    refine Calls.mono (Hsg.out _ B3.out) ?_
    rintro e W4 ⟨rfl,hb⟩
    have B4:=Lib.hid (B3.out.trans (hb.mono B3.out.size))
    clear hb B3 R8 Hsg m0 m1 m2
    go_wp2_with fail
    go_ret2
    exact ⟨0,false,rfl,fun h=>(by cases h),B4.out⟩
   | true =>
    cases bg with
    | false =>
     go_enter Tryz.func116,Tryz.ntmps116
     go_wp2_with fail
     generalize (w.alloc (.cells (tcells x1 e1 x2 e2 n d) 103)).alloc (.cells (tcells y1 g1 y2 g2 m g) 103)=W0 at *
     refine Calls.mono (Hnx.out _ B0.out) ?_
     rintro e W1 ⟨rfl,hb⟩
     have B1:=Lib.hid (B0.out.trans (hb.mono B0.out.size))
     have R3:=Lib.hid (heap_kept R1.out hb nr_)
     have R4:=Lib.hid (heap_kept R2.out hb nr_)
     clear hb B0 R1 R2 Hnx
     obtain ⟨k0,k1,k2,-⟩:=obj_cells3 R3.out
     obtain ⟨m0,m1,m2,-⟩:=obj_cells3 R4.out
     go_wp2_with fail
     refine Calls.mono (Hny.out _ B1.out) ?_
     rintro e W2 ⟨rfl,hb⟩
     have B2:=Lib.hid (B1.out.trans (hb.mono B1.out.size))
     have R5:=Lib.hid (heap_kept R3.out hb nr_)
     have R6:=Lib.hid (heap_kept R4.out hb nr_)
     clear hb B1 R3 R4 Hny k0 k1 k2 m0 m1 m2
     obtain ⟨k0,k1,k2,-⟩:=obj_cells3 R5.out
     go_wp2_with fail
     refine Calls.mono (Hsd.out _ B2.out) ?_
     rintro e W3 ⟨rfl,hb⟩
     have B3:=Lib.hid (B2.out.trans (hb.mono B2.out.size))
     have R8:=Lib.hid (heap_kept R6.out hb nr_)
     clear hb B2 R5 R6 Hsd k0 k1 k2
     obtain ⟨m0,m1,m2,-⟩:=obj_cells3 R8.out
     go_wp2_with fail
     refine Calls.mono (Hsg.out _ B3.out) ?_
     rintro e W4 ⟨rfl,hb⟩
     have B4:=Lib.hid (B3.out.trans (hb.mono B3.out.size))
     clear hb B3 R8 Hsg m0 m1 m2
     go_wp2_with fail
     go_ret2
     exact ⟨0,false,rfl,fun h=>(by cases h),B4.out⟩
    | true =>
     have hDd:=HD.out rfl
     have hGg:=HG.out rfl
     have hXx:=HX.out rfl
     have hYy:=HY.out rfl
     by_cases hD2:(10000:Int) < D
     ·clear hDd hGg hXx hYy HX HY HD HG
      go_enter Tryz.func116,Tryz.ntmps116
      go_wp2_with fail
      generalize (w.alloc (.cells (tcells x1 e1 x2 e2 n d) 103)).alloc (.cells (tcells y1 g1 y2 g2 m g) 103)=W0 at *
      refine Calls.mono (Hnx.out _ B0.out) ?_
      rintro e W1 ⟨rfl,hb⟩
      have B1:=Lib.hid (B0.out.trans (hb.mono B0.out.size))
      have R3:=Lib.hid (heap_kept R1.out hb nr_)
      have R4:=Lib.hid (heap_kept R2.out hb nr_)
      clear hb B0 R1 R2 Hnx
      obtain ⟨k0,k1,k2,-⟩:=obj_cells3 R3.out
      obtain ⟨m0,m1,m2,-⟩:=obj_cells3 R4.out
      go_wp2_with fail
      refine Calls.mono (Hny.out _ B1.out) ?_
      rintro e W2 ⟨rfl,hb⟩
      have B2:=Lib.hid (B1.out.trans (hb.mono B1.out.size))
      have R5:=Lib.hid (heap_kept R3.out hb nr_)
      have R6:=Lib.hid (heap_kept R4.out hb nr_)
      clear hb B1 R3 R4 Hny k0 k1 k2 m0 m1 m2
      obtain ⟨k0,k1,k2,-⟩:=obj_cells3 R5.out
      go_wp2_with fail
      refine Calls.mono (Hsd.out _ B2.out) ?_
      rintro e W3 ⟨rfl,hb⟩
      have B3:=Lib.hid (B2.out.trans (hb.mono B2.out.size))
      have R8:=Lib.hid (heap_kept R6.out hb nr_)
      clear hb B2 R5 R6 Hsd k0 k1 k2
      obtain ⟨m0,m1,m2,-⟩:=obj_cells3 R8.out
      go_wp2_with fail
      refine Calls.mono (Hsg.out _ B3.out) ?_
      rintro e W4 ⟨rfl,hb⟩
      have B4:=Lib.hid (B3.out.trans (hb.mono B3.out.size))
      clear hb B3 R8 Hsg m0 m1 m2
      go_wp2_with fail
      go_ret2
      exact ⟨0,false,rfl,fun h=>(by cases h),B4.out⟩
     by_cases hG2:(10000:Int) < G
     ·clear hDd hGg hXx hYy HX HY HD HG
      go_enter Tryz.func116,Tryz.ntmps116
      go_wp2_with fail
      generalize (w.alloc (.cells (tcells x1 e1 x2 e2 n d) 103)).alloc (.cells (tcells y1 g1 y2 g2 m g) 103)=W0 at *
      refine Calls.mono (Hnx.out _ B0.out) ?_
      rintro e W1 ⟨rfl,hb⟩
      have B1:=Lib.hid (B0.out.trans (hb.mono B0.out.size))
      have R3:=Lib.hid (heap_kept R1.out hb nr_)
      have R4:=Lib.hid (heap_kept R2.out hb nr_)
      clear hb B0 R1 R2 Hnx
      obtain ⟨k0,k1,k2,-⟩:=obj_cells3 R3.out
      obtain ⟨m0,m1,m2,-⟩:=obj_cells3 R4.out
      go_wp2_with fail
      refine Calls.mono (Hny.out _ B1.out) ?_
      rintro e W2 ⟨rfl,hb⟩
      have B2:=Lib.hid (B1.out.trans (hb.mono B1.out.size))
      have R5:=Lib.hid (heap_kept R3.out hb nr_)
      have R6:=Lib.hid (heap_kept R4.out hb nr_)
      clear hb B1 R3 R4 Hny k0 k1 k2 m0 m1 m2
      obtain ⟨k0,k1,k2,-⟩:=obj_cells3 R5.out
      go_wp2_with fail
      refine Calls.mono (Hsd.out _ B2.out) ?_
      rintro e W3 ⟨rfl,hb⟩
      have B3:=Lib.hid (B2.out.trans (hb.mono B2.out.size))
      have R8:=Lib.hid (heap_kept R6.out hb nr_)
      clear hb B2 R5 R6 Hsd k0 k1 k2
      obtain ⟨m0,m1,m2,-⟩:=obj_cells3 R8.out
      go_wp2_with fail
      refine Calls.mono (Hsg.out _ B3.out) ?_
      rintro e W4 ⟨rfl,hb⟩
      have B4:=Lib.hid (B3.out.trans (hb.mono B3.out.size))
      clear hb B3 R8 Hsg m0 m1 m2
      go_wp2_with fail
      go_ret2
      exact ⟨0,false,rfl,fun h=>(by cases h),B4.out⟩
     have HXx:=Lib.hid hXx
     have HYy:=Lib.hid hYy
     have HDd:=Lib.hid hDd
     have HGg:=Lib.hid hGg
     have hD3:0 < D:=by omega
     have hG3:0 < G:=by omega
     clear hXx hYy hDd hGg HX HY HD HG hd0 hg0
     by_cases hy:Y2≤0
     ·have wn1:IntKind.i64.wrap (-X1) = -X1:=IntWalk.i64_in _ (by omega)
      have wn2:IntKind.i64.wrap (-X2) = -X2:=IntWalk.i64_in _ (by omega)
      have wn3:IntKind.i64.wrap (-Y1) = -Y1:=IntWalk.i64_in _ (by omega)
      have wn4:IntKind.i64.wrap (-Y2) = -Y2:=IntWalk.i64_in _ (by omega)
      by_cases hy2 : -Y2≤0
      ·clear HXx HYy HDd HGg
       go_enter Tryz.func116,Tryz.ntmps116
       go_wp2_with fail
       generalize (w.alloc (.cells (tcells x1 e1 x2 e2 n d) 103)).alloc (.cells (tcells y1 g1 y2 g2 m g) 103)=W0 at *
       refine Calls.mono (Hnx.out _ B0.out) ?_
       rintro e W1 ⟨rfl,hb⟩
       have B1:=Lib.hid (B0.out.trans (hb.mono B0.out.size))
       have R3:=Lib.hid (heap_kept R1.out hb nr_)
       have R4:=Lib.hid (heap_kept R2.out hb nr_)
       clear hb B0 R1 R2 Hnx
       obtain ⟨k0,k1,k2,-⟩:=obj_cells3 R3.out
       obtain ⟨m0,m1,m2,-⟩:=obj_cells3 R4.out
       go_wp2_with fail
       refine Calls.mono (Hny.out _ B1.out) ?_
       rintro e W2 ⟨rfl,hb⟩
       have B2:=Lib.hid (B1.out.trans (hb.mono B1.out.size))
       have R5:=Lib.hid (heap_kept R3.out hb nr_)
       have R6:=Lib.hid (heap_kept R4.out hb nr_)
       clear hb B1 R3 R4 Hny k0 k1 k2 m0 m1 m2
       obtain ⟨k0,k1,k2,-⟩:=obj_cells3 R5.out
       go_wp2_with fail
       refine Calls.mono (Hsd.out _ B2.out) ?_
       rintro e W3 ⟨rfl,hb⟩
       have B3:=Lib.hid (B2.out.trans (hb.mono B2.out.size))
       have R8:=Lib.hid (heap_kept R6.out hb nr_)
       clear hb B2 R5 R6 Hsd k0 k1 k2
       obtain ⟨m0,m1,m2,-⟩:=obj_cells3 R8.out
       go_wp2_with fail
       refine Calls.mono (Hsg.out _ B3.out) ?_
       rintro e W4 ⟨rfl,hb⟩
       have B4:=Lib.hid (B3.out.trans (hb.mono B3.out.size))
       clear hb B3 R8 Hsg m0 m1 m2
       go_wp2_with fail
       go_ret2
       exact ⟨0,false,rfl,fun h=>(by cases h),B4.out⟩
      ·have hle : -Y2 ≤ -Y1:=by
        obtain ⟨u1,u2,u3⟩:=HYy.out
        rw [u2,u3]
        have:=lowT_le ty
        omega
       by_cases hx1:(-X2) < 0
       ·by_cases hx2:(-X1) < 0
        ·skip
         have r1:((-X2) * G).natAbs≤300000000000000 * 10000:=by rw [Int.natAbs_mul]; exact Nat.mul_le_mul (by omega) (by omega)
         have r2:((-X1) * G).natAbs≤300000000000000 * 10000:=by rw [Int.natAbs_mul]; exact Nat.mul_le_mul (by omega) (by omega)
         have r3:((-Y2) * D).natAbs≤300000000000000 * 10000:=by rw [Int.natAbs_mul]; exact Nat.mul_le_mul (by omega) (by omega)
         have r4:((-Y1) * D).natAbs≤300000000000000 * 10000:=by rw [Int.natAbs_mul]; exact Nat.mul_le_mul (by omega) (by omega)
         have p3:0 < (-Y2) * D:=Int.mul_pos (by omega) hD3
         have p4:0 < (-Y1) * D:=Int.mul_pos (by omega) hD3
         have w1:IntKind.i64.wrap ((-X2) * G)=(-X2) * G:=IntWalk.i64_in _ (by omega)
         have w2:IntKind.i64.wrap ((-X1) * G)=(-X1) * G:=IntWalk.i64_in _ (by omega)
         have w3:IntKind.i64.wrap ((-Y2) * D)=(-Y2) * D:=IntWalk.i64_in _ (by omega)
         have w4:IntKind.i64.wrap ((-Y1) * D)=(-Y1) * D:=IntWalk.i64_in _ (by omega)
         have D1:Hid (∀ W,Gives Tryz.prog 140 #[.int .i64 ((-X2) * G),.int .i64 ((-Y2) * D)] W (.int .i64 ((-X2) * G / ((-Y2) * D)))):=fun W=>downward_any W _ _ (by omega) p3 (by omega)
         have D2:Hid (∀ W,Gives Tryz.prog 140 #[.int .i64 ((-X1) * G),.int .i64 ((-Y1) * D)] W (.int .i64 ((-X1) * G / ((-Y1) * D)))):=fun W=>downward_any W _ _ (by omega) p4 (by omega)
         have q5:(((-X2) * G / ((-Y2) * D)).natAbs:Int)≤4000000000000000000:=by
          have:=Int.natAbs_ediv_le_natAbs ((-X2) * G) ((-Y2) * D)
          omega
         have Hq:Hid ((-X2) * G / ((-Y2) * D)=(-X1) * G / ((-Y1) * D)→QuoT tx ty d g ((-X2) * G / ((-Y2) * D))):=fun h=>by
          obtain ⟨o1,o2,o3⟩:=HXx.out
          obtain ⟨u1,u2,u3⟩:=HYy.out
          refine ⟨o1,u1,?_,by omega,by omega⟩
          rw [← o2,← o3,← u2,← u3,← HDd.out,← HGg.out]
          refine .inr ⟨by omega,?_,?_⟩
          ·unfold LN.quoL
           rw [if_pos (by omega)]
          ·unfold LN.quoH
           rw [if_pos (by omega)]
           exact h.symm
         clear r1 r2 r3 r4 p3 p4 q5 HXx HYy HDd HGg
         obtain ⟨q1,hq1⟩:∃ q,(-X2) * G / ((-Y2) * D)=q:=⟨_,rfl⟩
         obtain ⟨q2,hq2⟩:∃ q,(-X1) * G / ((-Y1) * D)=q:=⟨_,rfl⟩
         rw [hq1] at D1 Hq
         rw [hq2] at D2 Hq
         clear hq1 hq2
         go_enter Tryz.func116,Tryz.ntmps116
         go_wp2_with fail
         generalize (w.alloc (.cells (tcells x1 e1 x2 e2 n d) 103)).alloc (.cells (tcells y1 g1 y2 g2 m g) 103)=W0 at *
         refine Calls.mono (Hnx.out _ B0.out) ?_
         rintro e W1 ⟨rfl,hb⟩
         have B1:=Lib.hid (B0.out.trans (hb.mono B0.out.size))
         have R3:=Lib.hid (heap_kept R1.out hb nr_)
         have R4:=Lib.hid (heap_kept R2.out hb nr_)
         clear hb B0 R1 R2 Hnx
         obtain ⟨k0,k1,k2,-⟩:=obj_cells3 R3.out
         obtain ⟨m0,m1,m2,-⟩:=obj_cells3 R4.out
         go_wp2_with fail
         refine Calls.mono (Hny.out _ B1.out) ?_
         rintro e W2 ⟨rfl,hb⟩
         have B2:=Lib.hid (B1.out.trans (hb.mono B1.out.size))
         have R5:=Lib.hid (heap_kept R3.out hb nr_)
         have R6:=Lib.hid (heap_kept R4.out hb nr_)
         clear hb B1 R3 R4 Hny k0 k1 k2 m0 m1 m2
         obtain ⟨k0,k1,k2,-⟩:=obj_cells3 R5.out
         go_wp2_with fail
         refine Calls.mono (Hsd.out _ B2.out) ?_
         rintro e W3 ⟨rfl,hb⟩
         have B3:=Lib.hid (B2.out.trans (hb.mono B2.out.size))
         have R8:=Lib.hid (heap_kept R6.out hb nr_)
         clear hb B2 R5 R6 Hsd k0 k1 k2
         obtain ⟨m0,m1,m2,-⟩:=obj_cells3 R8.out
         go_wp2_with fail
         refine Calls.mono (Hsg.out _ B3.out) ?_
         rintro e W4 ⟨rfl,hb⟩
         have B4:=Lib.hid (B3.out.trans (hb.mono B3.out.size))
         clear hb B3 R8 Hsg m0 m1 m2
         go_wp2_with fail
         refine Calls.mono (D1.out _) ?_
         rintro e W5 ⟨rfl,hb⟩
         have B5:=Lib.hid (B4.out.trans (hb.mono B4.out.size))
         clear hb B4
         go_wp2_with fail
         refine Calls.mono (D2.out _) ?_
         rintro e W6 ⟨rfl,hb⟩
         have B6:=Lib.hid (B5.out.trans (hb.mono B5.out.size))
         clear hb B5
         go_wp2_with fail
         go_ret2
         exact ⟨q1,q1 == q2,rfl,fun h=>Hq.out (by simpa using h),B6.out⟩
        ·skip
         have r1:((-X2) * G).natAbs≤300000000000000 * 10000:=by rw [Int.natAbs_mul]; exact Nat.mul_le_mul (by omega) (by omega)
         have r2:((-X1) * G).natAbs≤300000000000000 * 10000:=by rw [Int.natAbs_mul]; exact Nat.mul_le_mul (by omega) (by omega)
         have r3:((-Y2) * D).natAbs≤300000000000000 * 10000:=by rw [Int.natAbs_mul]; exact Nat.mul_le_mul (by omega) (by omega)
         have r4:((-Y2) * D).natAbs≤300000000000000 * 10000:=by rw [Int.natAbs_mul]; exact Nat.mul_le_mul (by omega) (by omega)
         have p3:0 < (-Y2) * D:=Int.mul_pos (by omega) hD3
         have p4:0 < (-Y2) * D:=Int.mul_pos (by omega) hD3
         have w1:IntKind.i64.wrap ((-X2) * G)=(-X2) * G:=IntWalk.i64_in _ (by omega)
         have w2:IntKind.i64.wrap ((-X1) * G)=(-X1) * G:=IntWalk.i64_in _ (by omega)
         have w3:IntKind.i64.wrap ((-Y2) * D)=(-Y2) * D:=IntWalk.i64_in _ (by omega)
         have w4:IntKind.i64.wrap ((-Y2) * D)=(-Y2) * D:=IntWalk.i64_in _ (by omega)
         have D1:Hid (∀ W,Gives Tryz.prog 140 #[.int .i64 ((-X2) * G),.int .i64 ((-Y2) * D)] W (.int .i64 ((-X2) * G / ((-Y2) * D)))):=fun W=>downward_any W _ _ (by omega) p3 (by omega)
         have D2:Hid (∀ W,Gives Tryz.prog 140 #[.int .i64 ((-X1) * G),.int .i64 ((-Y2) * D)] W (.int .i64 ((-X1) * G / ((-Y2) * D)))):=fun W=>downward_any W _ _ (by omega) p4 (by omega)
         have q5:(((-X2) * G / ((-Y2) * D)).natAbs:Int)≤4000000000000000000:=by
          have:=Int.natAbs_ediv_le_natAbs ((-X2) * G) ((-Y2) * D)
          omega
         have Hq:Hid ((-X2) * G / ((-Y2) * D)=(-X1) * G / ((-Y2) * D)→QuoT tx ty d g ((-X2) * G / ((-Y2) * D))):=fun h=>by
          obtain ⟨o1,o2,o3⟩:=HXx.out
          obtain ⟨u1,u2,u3⟩:=HYy.out
          refine ⟨o1,u1,?_,by omega,by omega⟩
          rw [← o2,← o3,← u2,← u3,← HDd.out,← HGg.out]
          refine .inr ⟨by omega,?_,?_⟩
          ·unfold LN.quoL
           rw [if_pos (by omega)]
          ·unfold LN.quoH
           rw [if_neg (by omega)]
           exact h.symm
         clear r1 r2 r3 r4 p3 p4 q5 HXx HYy HDd HGg
         obtain ⟨q1,hq1⟩:∃ q,(-X2) * G / ((-Y2) * D)=q:=⟨_,rfl⟩
         obtain ⟨q2,hq2⟩:∃ q,(-X1) * G / ((-Y2) * D)=q:=⟨_,rfl⟩
         rw [hq1] at D1 Hq
         rw [hq2] at D2 Hq
         clear hq1 hq2
         go_enter Tryz.func116,Tryz.ntmps116
         go_wp2_with fail
         generalize (w.alloc (.cells (tcells x1 e1 x2 e2 n d) 103)).alloc (.cells (tcells y1 g1 y2 g2 m g) 103)=W0 at *
         refine Calls.mono (Hnx.out _ B0.out) ?_
         rintro e W1 ⟨rfl,hb⟩
         have B1:=Lib.hid (B0.out.trans (hb.mono B0.out.size))
         have R3:=Lib.hid (heap_kept R1.out hb nr_)
         have R4:=Lib.hid (heap_kept R2.out hb nr_)
         clear hb B0 R1 R2 Hnx
         obtain ⟨k0,k1,k2,-⟩:=obj_cells3 R3.out
         obtain ⟨m0,m1,m2,-⟩:=obj_cells3 R4.out
         go_wp2_with fail
         refine Calls.mono (Hny.out _ B1.out) ?_
         rintro e W2 ⟨rfl,hb⟩
         have B2:=Lib.hid (B1.out.trans (hb.mono B1.out.size))
         have R5:=Lib.hid (heap_kept R3.out hb nr_)
         have R6:=Lib.hid (heap_kept R4.out hb nr_)
         clear hb B1 R3 R4 Hny k0 k1 k2 m0 m1 m2
         obtain ⟨k0,k1,k2,-⟩:=obj_cells3 R5.out
         go_wp2_with fail
         refine Calls.mono (Hsd.out _ B2.out) ?_
         rintro e W3 ⟨rfl,hb⟩
         have B3:=Lib.hid (B2.out.trans (hb.mono B2.out.size))
         have R8:=Lib.hid (heap_kept R6.out hb nr_)
         clear hb B2 R5 R6 Hsd k0 k1 k2
         obtain ⟨m0,m1,m2,-⟩:=obj_cells3 R8.out
         go_wp2_with fail
         refine Calls.mono (Hsg.out _ B3.out) ?_
         rintro e W4 ⟨rfl,hb⟩
         have B4:=Lib.hid (B3.out.trans (hb.mono B3.out.size))
         clear hb B3 R8 Hsg m0 m1 m2
         go_wp2_with fail
         refine Calls.mono (D1.out _) ?_
         rintro e W5 ⟨rfl,hb⟩
         have B5:=Lib.hid (B4.out.trans (hb.mono B4.out.size))
         clear hb B4
         go_wp2_with fail
         refine Calls.mono (D2.out _) ?_
         rintro e W6 ⟨rfl,hb⟩
         have B6:=Lib.hid (B5.out.trans (hb.mono B5.out.size))
         clear hb B5
         go_wp2_with fail
         go_ret2
         exact ⟨q1,q1 == q2,rfl,fun h=>Hq.out (by simpa using h),B6.out⟩
       ·by_cases hx2:(-X1) < 0
        ·skip
         have r1:((-X2) * G).natAbs≤300000000000000 * 10000:=by rw [Int.natAbs_mul]; exact Nat.mul_le_mul (by omega) (by omega)
         have r2:((-X1) * G).natAbs≤300000000000000 * 10000:=by rw [Int.natAbs_mul]; exact Nat.mul_le_mul (by omega) (by omega)
         have r3:((-Y1) * D).natAbs≤300000000000000 * 10000:=by rw [Int.natAbs_mul]; exact Nat.mul_le_mul (by omega) (by omega)
         have r4:((-Y1) * D).natAbs≤300000000000000 * 10000:=by rw [Int.natAbs_mul]; exact Nat.mul_le_mul (by omega) (by omega)
         have p3:0 < (-Y1) * D:=Int.mul_pos (by omega) hD3
         have p4:0 < (-Y1) * D:=Int.mul_pos (by omega) hD3
         have w1:IntKind.i64.wrap ((-X2) * G)=(-X2) * G:=IntWalk.i64_in _ (by omega)
         have w2:IntKind.i64.wrap ((-X1) * G)=(-X1) * G:=IntWalk.i64_in _ (by omega)
         have w3:IntKind.i64.wrap ((-Y1) * D)=(-Y1) * D:=IntWalk.i64_in _ (by omega)
         have w4:IntKind.i64.wrap ((-Y1) * D)=(-Y1) * D:=IntWalk.i64_in _ (by omega)
         have D1:Hid (∀ W,Gives Tryz.prog 140 #[.int .i64 ((-X2) * G),.int .i64 ((-Y1) * D)] W (.int .i64 ((-X2) * G / ((-Y1) * D)))):=fun W=>downward_any W _ _ (by omega) p3 (by omega)
         have D2:Hid (∀ W,Gives Tryz.prog 140 #[.int .i64 ((-X1) * G),.int .i64 ((-Y1) * D)] W (.int .i64 ((-X1) * G / ((-Y1) * D)))):=fun W=>downward_any W _ _ (by omega) p4 (by omega)
         have q5:(((-X2) * G / ((-Y1) * D)).natAbs:Int)≤4000000000000000000:=by
          have:=Int.natAbs_ediv_le_natAbs ((-X2) * G) ((-Y1) * D)
          omega
         have Hq:Hid ((-X2) * G / ((-Y1) * D)=(-X1) * G / ((-Y1) * D)→QuoT tx ty d g ((-X2) * G / ((-Y1) * D))):=fun h=>by
          obtain ⟨o1,o2,o3⟩:=HXx.out
          obtain ⟨u1,u2,u3⟩:=HYy.out
          refine ⟨o1,u1,?_,by omega,by omega⟩
          rw [← o2,← o3,← u2,← u3,← HDd.out,← HGg.out]
          refine .inr ⟨by omega,?_,?_⟩
          ·unfold LN.quoL
           rw [if_neg (by omega)]
          ·unfold LN.quoH
           rw [if_pos (by omega)]
           exact h.symm
         clear r1 r2 r3 r4 p3 p4 q5 HXx HYy HDd HGg
         obtain ⟨q1,hq1⟩:∃ q,(-X2) * G / ((-Y1) * D)=q:=⟨_,rfl⟩
         obtain ⟨q2,hq2⟩:∃ q,(-X1) * G / ((-Y1) * D)=q:=⟨_,rfl⟩
         rw [hq1] at D1 Hq
         rw [hq2] at D2 Hq
         clear hq1 hq2
         go_enter Tryz.func116,Tryz.ntmps116
         go_wp2_with fail
         generalize (w.alloc (.cells (tcells x1 e1 x2 e2 n d) 103)).alloc (.cells (tcells y1 g1 y2 g2 m g) 103)=W0 at *
         refine Calls.mono (Hnx.out _ B0.out) ?_
         rintro e W1 ⟨rfl,hb⟩
         have B1:=Lib.hid (B0.out.trans (hb.mono B0.out.size))
         have R3:=Lib.hid (heap_kept R1.out hb nr_)
         have R4:=Lib.hid (heap_kept R2.out hb nr_)
         clear hb B0 R1 R2 Hnx
         obtain ⟨k0,k1,k2,-⟩:=obj_cells3 R3.out
         obtain ⟨m0,m1,m2,-⟩:=obj_cells3 R4.out
         go_wp2_with fail
         refine Calls.mono (Hny.out _ B1.out) ?_
         rintro e W2 ⟨rfl,hb⟩
         have B2:=Lib.hid (B1.out.trans (hb.mono B1.out.size))
         have R5:=Lib.hid (heap_kept R3.out hb nr_)
         have R6:=Lib.hid (heap_kept R4.out hb nr_)
         clear hb B1 R3 R4 Hny k0 k1 k2 m0 m1 m2
         obtain ⟨k0,k1,k2,-⟩:=obj_cells3 R5.out
         go_wp2_with fail
         refine Calls.mono (Hsd.out _ B2.out) ?_
         rintro e W3 ⟨rfl,hb⟩
         have B3:=Lib.hid (B2.out.trans (hb.mono B2.out.size))
         have R8:=Lib.hid (heap_kept R6.out hb nr_)
         clear hb B2 R5 R6 Hsd k0 k1 k2
         obtain ⟨m0,m1,m2,-⟩:=obj_cells3 R8.out
         go_wp2_with fail
         refine Calls.mono (Hsg.out _ B3.out) ?_
         rintro e W4 ⟨rfl,hb⟩
         have B4:=Lib.hid (B3.out.trans (hb.mono B3.out.size))
         clear hb B3 R8 Hsg m0 m1 m2
         go_wp2_with fail
         refine Calls.mono (D1.out _) ?_
         rintro e W5 ⟨rfl,hb⟩
         have B5:=Lib.hid (B4.out.trans (hb.mono B4.out.size))
         clear hb B4
         go_wp2_with fail
         refine Calls.mono (D2.out _) ?_
         rintro e W6 ⟨rfl,hb⟩
         have B6:=Lib.hid (B5.out.trans (hb.mono B5.out.size))
         clear hb B5
         go_wp2_with fail
         go_ret2
         exact ⟨q1,q1 == q2,rfl,fun h=>Hq.out (by simpa using h),B6.out⟩
        ·skip
         have r1:((-X2) * G).natAbs≤300000000000000 * 10000:=by rw [Int.natAbs_mul]; exact Nat.mul_le_mul (by omega) (by omega)
         have r2:((-X1) * G).natAbs≤300000000000000 * 10000:=by rw [Int.natAbs_mul]; exact Nat.mul_le_mul (by omega) (by omega)
         have r3:((-Y1) * D).natAbs≤300000000000000 * 10000:=by rw [Int.natAbs_mul]; exact Nat.mul_le_mul (by omega) (by omega)
         have r4:((-Y2) * D).natAbs≤300000000000000 * 10000:=by rw [Int.natAbs_mul]; exact Nat.mul_le_mul (by omega) (by omega)
         have p3:0 < (-Y1) * D:=Int.mul_pos (by omega) hD3
         have p4:0 < (-Y2) * D:=Int.mul_pos (by omega) hD3
         have w1:IntKind.i64.wrap ((-X2) * G)=(-X2) * G:=IntWalk.i64_in _ (by omega)
         have w2:IntKind.i64.wrap ((-X1) * G)=(-X1) * G:=IntWalk.i64_in _ (by omega)
         have w3:IntKind.i64.wrap ((-Y1) * D)=(-Y1) * D:=IntWalk.i64_in _ (by omega)
         have w4:IntKind.i64.wrap ((-Y2) * D)=(-Y2) * D:=IntWalk.i64_in _ (by omega)
         have D1:Hid (∀ W,Gives Tryz.prog 140 #[.int .i64 ((-X2) * G),.int .i64 ((-Y1) * D)] W (.int .i64 ((-X2) * G / ((-Y1) * D)))):=fun W=>downward_any W _ _ (by omega) p3 (by omega)
         have D2:Hid (∀ W,Gives Tryz.prog 140 #[.int .i64 ((-X1) * G),.int .i64 ((-Y2) * D)] W (.int .i64 ((-X1) * G / ((-Y2) * D)))):=fun W=>downward_any W _ _ (by omega) p4 (by omega)
         have q5:(((-X2) * G / ((-Y1) * D)).natAbs:Int)≤4000000000000000000:=by
          have:=Int.natAbs_ediv_le_natAbs ((-X2) * G) ((-Y1) * D)
          omega
         have Hq:Hid ((-X2) * G / ((-Y1) * D)=(-X1) * G / ((-Y2) * D)→QuoT tx ty d g ((-X2) * G / ((-Y1) * D))):=fun h=>by
          obtain ⟨o1,o2,o3⟩:=HXx.out
          obtain ⟨u1,u2,u3⟩:=HYy.out
          refine ⟨o1,u1,?_,by omega,by omega⟩
          rw [← o2,← o3,← u2,← u3,← HDd.out,← HGg.out]
          refine .inr ⟨by omega,?_,?_⟩
          ·unfold LN.quoL
           rw [if_neg (by omega)]
          ·unfold LN.quoH
           rw [if_neg (by omega)]
           exact h.symm
         clear r1 r2 r3 r4 p3 p4 q5 HXx HYy HDd HGg
         obtain ⟨q1,hq1⟩:∃ q,(-X2) * G / ((-Y1) * D)=q:=⟨_,rfl⟩
         obtain ⟨q2,hq2⟩:∃ q,(-X1) * G / ((-Y2) * D)=q:=⟨_,rfl⟩
         rw [hq1] at D1 Hq
         rw [hq2] at D2 Hq
         clear hq1 hq2
         go_enter Tryz.func116,Tryz.ntmps116
         go_wp2_with fail
         generalize (w.alloc (.cells (tcells x1 e1 x2 e2 n d) 103)).alloc (.cells (tcells y1 g1 y2 g2 m g) 103)=W0 at *
         refine Calls.mono (Hnx.out _ B0.out) ?_
         rintro e W1 ⟨rfl,hb⟩
         have B1:=Lib.hid (B0.out.trans (hb.mono B0.out.size))
         have R3:=Lib.hid (heap_kept R1.out hb nr_)
         have R4:=Lib.hid (heap_kept R2.out hb nr_)
         clear hb B0 R1 R2 Hnx
         obtain ⟨k0,k1,k2,-⟩:=obj_cells3 R3.out
         obtain ⟨m0,m1,m2,-⟩:=obj_cells3 R4.out
         go_wp2_with fail
         refine Calls.mono (Hny.out _ B1.out) ?_
         rintro e W2 ⟨rfl,hb⟩
         have B2:=Lib.hid (B1.out.trans (hb.mono B1.out.size))
         have R5:=Lib.hid (heap_kept R3.out hb nr_)
         have R6:=Lib.hid (heap_kept R4.out hb nr_)
         clear hb B1 R3 R4 Hny k0 k1 k2 m0 m1 m2
         obtain ⟨k0,k1,k2,-⟩:=obj_cells3 R5.out
         go_wp2_with fail
         refine Calls.mono (Hsd.out _ B2.out) ?_
         rintro e W3 ⟨rfl,hb⟩
         have B3:=Lib.hid (B2.out.trans (hb.mono B2.out.size))
         have R8:=Lib.hid (heap_kept R6.out hb nr_)
         clear hb B2 R5 R6 Hsd k0 k1 k2
         obtain ⟨m0,m1,m2,-⟩:=obj_cells3 R8.out
         go_wp2_with fail
         refine Calls.mono (Hsg.out _ B3.out) ?_
         rintro e W4 ⟨rfl,hb⟩
         have B4:=Lib.hid (B3.out.trans (hb.mono B3.out.size))
         clear hb B3 R8 Hsg m0 m1 m2
         go_wp2_with fail
         refine Calls.mono (D1.out _) ?_
         rintro e W5 ⟨rfl,hb⟩
         have B5:=Lib.hid (B4.out.trans (hb.mono B4.out.size))
         clear hb B4
         go_wp2_with fail
         refine Calls.mono (D2.out _) ?_
         rintro e W6 ⟨rfl,hb⟩
         have B6:=Lib.hid (B5.out.trans (hb.mono B5.out.size))
         clear hb B5
         go_wp2_with fail
         go_ret2
         exact ⟨q1,q1 == q2,rfl,fun h=>Hq.out (by simpa using h),B6.out⟩
     ·by_cases hy2:Y1≤0
      ·clear HXx HYy HDd HGg
       go_enter Tryz.func116,Tryz.ntmps116
       go_wp2_with fail
       generalize (w.alloc (.cells (tcells x1 e1 x2 e2 n d) 103)).alloc (.cells (tcells y1 g1 y2 g2 m g) 103)=W0 at *
       refine Calls.mono (Hnx.out _ B0.out) ?_
       rintro e W1 ⟨rfl,hb⟩
       have B1:=Lib.hid (B0.out.trans (hb.mono B0.out.size))
       have R3:=Lib.hid (heap_kept R1.out hb nr_)
       have R4:=Lib.hid (heap_kept R2.out hb nr_)
       clear hb B0 R1 R2 Hnx
       obtain ⟨k0,k1,k2,-⟩:=obj_cells3 R3.out
       obtain ⟨m0,m1,m2,-⟩:=obj_cells3 R4.out
       go_wp2_with fail
       refine Calls.mono (Hny.out _ B1.out) ?_
       rintro e W2 ⟨rfl,hb⟩
       have B2:=Lib.hid (B1.out.trans (hb.mono B1.out.size))
       have R5:=Lib.hid (heap_kept R3.out hb nr_)
       have R6:=Lib.hid (heap_kept R4.out hb nr_)
       clear hb B1 R3 R4 Hny k0 k1 k2 m0 m1 m2
       obtain ⟨k0,k1,k2,-⟩:=obj_cells3 R5.out
       go_wp2_with fail
       refine Calls.mono (Hsd.out _ B2.out) ?_
       rintro e W3 ⟨rfl,hb⟩
       have B3:=Lib.hid (B2.out.trans (hb.mono B2.out.size))
       have R8:=Lib.hid (heap_kept R6.out hb nr_)
       clear hb B2 R5 R6 Hsd k0 k1 k2
       obtain ⟨m0,m1,m2,-⟩:=obj_cells3 R8.out
       go_wp2_with fail
       refine Calls.mono (Hsg.out _ B3.out) ?_
       rintro e W4 ⟨rfl,hb⟩
       have B4:=Lib.hid (B3.out.trans (hb.mono B3.out.size))
       clear hb B3 R8 Hsg m0 m1 m2
       go_wp2_with fail
       go_ret2
       exact ⟨0,false,rfl,fun h=>(by cases h),B4.out⟩
      ·skip
       by_cases hx1:X1 < 0
       ·by_cases hx2:X2 < 0
        ·skip
         have r1:(X1 * G).natAbs≤300000000000000 * 10000:=by rw [Int.natAbs_mul]; exact Nat.mul_le_mul (by omega) (by omega)
         have r2:(X2 * G).natAbs≤300000000000000 * 10000:=by rw [Int.natAbs_mul]; exact Nat.mul_le_mul (by omega) (by omega)
         have r3:(Y1 * D).natAbs≤300000000000000 * 10000:=by rw [Int.natAbs_mul]; exact Nat.mul_le_mul (by omega) (by omega)
         have r4:(Y2 * D).natAbs≤300000000000000 * 10000:=by rw [Int.natAbs_mul]; exact Nat.mul_le_mul (by omega) (by omega)
         have p3:0 < Y1 * D:=Int.mul_pos (by omega) hD3
         have p4:0 < Y2 * D:=Int.mul_pos (by omega) hD3
         have w1:IntKind.i64.wrap (X1 * G)=X1 * G:=IntWalk.i64_in _ (by omega)
         have w2:IntKind.i64.wrap (X2 * G)=X2 * G:=IntWalk.i64_in _ (by omega)
         have w3:IntKind.i64.wrap (Y1 * D)=Y1 * D:=IntWalk.i64_in _ (by omega)
         have w4:IntKind.i64.wrap (Y2 * D)=Y2 * D:=IntWalk.i64_in _ (by omega)
         have D1:Hid (∀ W,Gives Tryz.prog 140 #[.int .i64 (X1 * G),.int .i64 (Y1 * D)] W (.int .i64 (X1 * G / (Y1 * D)))):=fun W=>downward_any W _ _ (by omega) p3 (by omega)
         have D2:Hid (∀ W,Gives Tryz.prog 140 #[.int .i64 (X2 * G),.int .i64 (Y2 * D)] W (.int .i64 (X2 * G / (Y2 * D)))):=fun W=>downward_any W _ _ (by omega) p4 (by omega)
         have q5:((X1 * G / (Y1 * D)).natAbs:Int)≤4000000000000000000:=by
          have:=Int.natAbs_ediv_le_natAbs (X1 * G) (Y1 * D)
          omega
         have Hq:Hid (X1 * G / (Y1 * D)=X2 * G / (Y2 * D)→QuoT tx ty d g (X1 * G / (Y1 * D))):=fun h=>by
          obtain ⟨o1,o2,o3⟩:=HXx.out
          obtain ⟨u1,u2,u3⟩:=HYy.out
          refine ⟨o1,u1,?_,by omega,by omega⟩
          rw [← o2,← o3,← u2,← u3,← HDd.out,← HGg.out]
          refine .inl ⟨by omega,?_,?_⟩
          ·unfold LN.quoL
           rw [if_pos (by omega)]
          ·unfold LN.quoH
           rw [if_pos (by omega)]
           exact h.symm
         clear r1 r2 r3 r4 p3 p4 q5 HXx HYy HDd HGg
         obtain ⟨q1,hq1⟩:∃ q,X1 * G / (Y1 * D)=q:=⟨_,rfl⟩
         obtain ⟨q2,hq2⟩:∃ q,X2 * G / (Y2 * D)=q:=⟨_,rfl⟩
         rw [hq1] at D1 Hq
         rw [hq2] at D2 Hq
         clear hq1 hq2
         go_enter Tryz.func116,Tryz.ntmps116
         go_wp2_with fail
         generalize (w.alloc (.cells (tcells x1 e1 x2 e2 n d) 103)).alloc (.cells (tcells y1 g1 y2 g2 m g) 103)=W0 at *
         refine Calls.mono (Hnx.out _ B0.out) ?_
         rintro e W1 ⟨rfl,hb⟩
         have B1:=Lib.hid (B0.out.trans (hb.mono B0.out.size))
         have R3:=Lib.hid (heap_kept R1.out hb nr_)
         have R4:=Lib.hid (heap_kept R2.out hb nr_)
         clear hb B0 R1 R2 Hnx
         obtain ⟨k0,k1,k2,-⟩:=obj_cells3 R3.out
         obtain ⟨m0,m1,m2,-⟩:=obj_cells3 R4.out
         go_wp2_with fail
         refine Calls.mono (Hny.out _ B1.out) ?_
         rintro e W2 ⟨rfl,hb⟩
         have B2:=Lib.hid (B1.out.trans (hb.mono B1.out.size))
         have R5:=Lib.hid (heap_kept R3.out hb nr_)
         have R6:=Lib.hid (heap_kept R4.out hb nr_)
         clear hb B1 R3 R4 Hny k0 k1 k2 m0 m1 m2
         obtain ⟨k0,k1,k2,-⟩:=obj_cells3 R5.out
         go_wp2_with fail
         refine Calls.mono (Hsd.out _ B2.out) ?_
         rintro e W3 ⟨rfl,hb⟩
         have B3:=Lib.hid (B2.out.trans (hb.mono B2.out.size))
         have R8:=Lib.hid (heap_kept R6.out hb nr_)
         clear hb B2 R5 R6 Hsd k0 k1 k2
         obtain ⟨m0,m1,m2,-⟩:=obj_cells3 R8.out
         go_wp2_with fail
         refine Calls.mono (Hsg.out _ B3.out) ?_
         rintro e W4 ⟨rfl,hb⟩
         have B4:=Lib.hid (B3.out.trans (hb.mono B3.out.size))
         clear hb B3 R8 Hsg m0 m1 m2
         go_wp2_with fail
         refine Calls.mono (D1.out _) ?_
         rintro e W5 ⟨rfl,hb⟩
         have B5:=Lib.hid (B4.out.trans (hb.mono B4.out.size))
         clear hb B4
         go_wp2_with fail
         refine Calls.mono (D2.out _) ?_
         rintro e W6 ⟨rfl,hb⟩
         have B6:=Lib.hid (B5.out.trans (hb.mono B5.out.size))
         clear hb B5
         go_wp2_with fail
         go_ret2
         exact ⟨q1,q1 == q2,rfl,fun h=>Hq.out (by simpa using h),B6.out⟩
        ·skip
         have r1:(X1 * G).natAbs≤300000000000000 * 10000:=by rw [Int.natAbs_mul]; exact Nat.mul_le_mul (by omega) (by omega)
         have r2:(X2 * G).natAbs≤300000000000000 * 10000:=by rw [Int.natAbs_mul]; exact Nat.mul_le_mul (by omega) (by omega)
         have r3:(Y1 * D).natAbs≤300000000000000 * 10000:=by rw [Int.natAbs_mul]; exact Nat.mul_le_mul (by omega) (by omega)
         have r4:(Y1 * D).natAbs≤300000000000000 * 10000:=by rw [Int.natAbs_mul]; exact Nat.mul_le_mul (by omega) (by omega)
         have p3:0 < Y1 * D:=Int.mul_pos (by omega) hD3
         have p4:0 < Y1 * D:=Int.mul_pos (by omega) hD3
         have w1:IntKind.i64.wrap (X1 * G)=X1 * G:=IntWalk.i64_in _ (by omega)
         have w2:IntKind.i64.wrap (X2 * G)=X2 * G:=IntWalk.i64_in _ (by omega)
         have w3:IntKind.i64.wrap (Y1 * D)=Y1 * D:=IntWalk.i64_in _ (by omega)
         have w4:IntKind.i64.wrap (Y1 * D)=Y1 * D:=IntWalk.i64_in _ (by omega)
         have D1:Hid (∀ W,Gives Tryz.prog 140 #[.int .i64 (X1 * G),.int .i64 (Y1 * D)] W (.int .i64 (X1 * G / (Y1 * D)))):=fun W=>downward_any W _ _ (by omega) p3 (by omega)
         have D2:Hid (∀ W,Gives Tryz.prog 140 #[.int .i64 (X2 * G),.int .i64 (Y1 * D)] W (.int .i64 (X2 * G / (Y1 * D)))):=fun W=>downward_any W _ _ (by omega) p4 (by omega)
         have q5:((X1 * G / (Y1 * D)).natAbs:Int)≤4000000000000000000:=by
          have:=Int.natAbs_ediv_le_natAbs (X1 * G) (Y1 * D)
          omega
         have Hq:Hid (X1 * G / (Y1 * D)=X2 * G / (Y1 * D)→QuoT tx ty d g (X1 * G / (Y1 * D))):=fun h=>by
          obtain ⟨o1,o2,o3⟩:=HXx.out
          obtain ⟨u1,u2,u3⟩:=HYy.out
          refine ⟨o1,u1,?_,by omega,by omega⟩
          rw [← o2,← o3,← u2,← u3,← HDd.out,← HGg.out]
          refine .inl ⟨by omega,?_,?_⟩
          ·unfold LN.quoL
           rw [if_pos (by omega)]
          ·unfold LN.quoH
           rw [if_neg (by omega)]
           exact h.symm
         clear r1 r2 r3 r4 p3 p4 q5 HXx HYy HDd HGg
         obtain ⟨q1,hq1⟩:∃ q,X1 * G / (Y1 * D)=q:=⟨_,rfl⟩
         obtain ⟨q2,hq2⟩:∃ q,X2 * G / (Y1 * D)=q:=⟨_,rfl⟩
         rw [hq1] at D1 Hq
         rw [hq2] at D2 Hq
         clear hq1 hq2
         go_enter Tryz.func116,Tryz.ntmps116
         go_wp2_with fail
         generalize (w.alloc (.cells (tcells x1 e1 x2 e2 n d) 103)).alloc (.cells (tcells y1 g1 y2 g2 m g) 103)=W0 at *
         refine Calls.mono (Hnx.out _ B0.out) ?_
         rintro e W1 ⟨rfl,hb⟩
         have B1:=Lib.hid (B0.out.trans (hb.mono B0.out.size))
         have R3:=Lib.hid (heap_kept R1.out hb nr_)
         have R4:=Lib.hid (heap_kept R2.out hb nr_)
         clear hb B0 R1 R2 Hnx
         obtain ⟨k0,k1,k2,-⟩:=obj_cells3 R3.out
         obtain ⟨m0,m1,m2,-⟩:=obj_cells3 R4.out
         go_wp2_with fail
         refine Calls.mono (Hny.out _ B1.out) ?_
         rintro e W2 ⟨rfl,hb⟩
         have B2:=Lib.hid (B1.out.trans (hb.mono B1.out.size))
         have R5:=Lib.hid (heap_kept R3.out hb nr_)
         have R6:=Lib.hid (heap_kept R4.out hb nr_)
         clear hb B1 R3 R4 Hny k0 k1 k2 m0 m1 m2
         obtain ⟨k0,k1,k2,-⟩:=obj_cells3 R5.out
         go_wp2_with fail
         refine Calls.mono (Hsd.out _ B2.out) ?_
         rintro e W3 ⟨rfl,hb⟩
         have B3:=Lib.hid (B2.out.trans (hb.mono B2.out.size))
         have R8:=Lib.hid (heap_kept R6.out hb nr_)
         clear hb B2 R5 R6 Hsd k0 k1 k2
         obtain ⟨m0,m1,m2,-⟩:=obj_cells3 R8.out
         go_wp2_with fail
         refine Calls.mono (Hsg.out _ B3.out) ?_
         rintro e W4 ⟨rfl,hb⟩
         have B4:=Lib.hid (B3.out.trans (hb.mono B3.out.size))
         clear hb B3 R8 Hsg m0 m1 m2
         go_wp2_with fail
         refine Calls.mono (D1.out _) ?_
         rintro e W5 ⟨rfl,hb⟩
         have B5:=Lib.hid (B4.out.trans (hb.mono B4.out.size))
         clear hb B4
         go_wp2_with fail
         refine Calls.mono (D2.out _) ?_
         rintro e W6 ⟨rfl,hb⟩
         have B6:=Lib.hid (B5.out.trans (hb.mono B5.out.size))
         clear hb B5
         go_wp2_with fail
         go_ret2
         exact ⟨q1,q1 == q2,rfl,fun h=>Hq.out (by simpa using h),B6.out⟩
       ·by_cases hx2:X2 < 0
        ·skip
         have r1:(X1 * G).natAbs≤300000000000000 * 10000:=by rw [Int.natAbs_mul]; exact Nat.mul_le_mul (by omega) (by omega)
         have r2:(X2 * G).natAbs≤300000000000000 * 10000:=by rw [Int.natAbs_mul]; exact Nat.mul_le_mul (by omega) (by omega)
         have r3:(Y2 * D).natAbs≤300000000000000 * 10000:=by rw [Int.natAbs_mul]; exact Nat.mul_le_mul (by omega) (by omega)
         have r4:(Y2 * D).natAbs≤300000000000000 * 10000:=by rw [Int.natAbs_mul]; exact Nat.mul_le_mul (by omega) (by omega)
         have p3:0 < Y2 * D:=Int.mul_pos (by omega) hD3
         have p4:0 < Y2 * D:=Int.mul_pos (by omega) hD3
         have w1:IntKind.i64.wrap (X1 * G)=X1 * G:=IntWalk.i64_in _ (by omega)
         have w2:IntKind.i64.wrap (X2 * G)=X2 * G:=IntWalk.i64_in _ (by omega)
         have w3:IntKind.i64.wrap (Y2 * D)=Y2 * D:=IntWalk.i64_in _ (by omega)
         have w4:IntKind.i64.wrap (Y2 * D)=Y2 * D:=IntWalk.i64_in _ (by omega)
         have D1:Hid (∀ W,Gives Tryz.prog 140 #[.int .i64 (X1 * G),.int .i64 (Y2 * D)] W (.int .i64 (X1 * G / (Y2 * D)))):=fun W=>downward_any W _ _ (by omega) p3 (by omega)
         have D2:Hid (∀ W,Gives Tryz.prog 140 #[.int .i64 (X2 * G),.int .i64 (Y2 * D)] W (.int .i64 (X2 * G / (Y2 * D)))):=fun W=>downward_any W _ _ (by omega) p4 (by omega)
         have q5:((X1 * G / (Y2 * D)).natAbs:Int)≤4000000000000000000:=by
          have:=Int.natAbs_ediv_le_natAbs (X1 * G) (Y2 * D)
          omega
         have Hq:Hid (X1 * G / (Y2 * D)=X2 * G / (Y2 * D)→QuoT tx ty d g (X1 * G / (Y2 * D))):=fun h=>by
          obtain ⟨o1,o2,o3⟩:=HXx.out
          obtain ⟨u1,u2,u3⟩:=HYy.out
          refine ⟨o1,u1,?_,by omega,by omega⟩
          rw [← o2,← o3,← u2,← u3,← HDd.out,← HGg.out]
          refine .inl ⟨by omega,?_,?_⟩
          ·unfold LN.quoL
           rw [if_neg (by omega)]
          ·unfold LN.quoH
           rw [if_pos (by omega)]
           exact h.symm
         clear r1 r2 r3 r4 p3 p4 q5 HXx HYy HDd HGg
         obtain ⟨q1,hq1⟩:∃ q,X1 * G / (Y2 * D)=q:=⟨_,rfl⟩
         obtain ⟨q2,hq2⟩:∃ q,X2 * G / (Y2 * D)=q:=⟨_,rfl⟩
         rw [hq1] at D1 Hq
         rw [hq2] at D2 Hq
         clear hq1 hq2
         go_enter Tryz.func116,Tryz.ntmps116
         go_wp2_with fail
         generalize (w.alloc (.cells (tcells x1 e1 x2 e2 n d) 103)).alloc (.cells (tcells y1 g1 y2 g2 m g) 103)=W0 at *
         refine Calls.mono (Hnx.out _ B0.out) ?_
         rintro e W1 ⟨rfl,hb⟩
         have B1:=Lib.hid (B0.out.trans (hb.mono B0.out.size))
         have R3:=Lib.hid (heap_kept R1.out hb nr_)
         have R4:=Lib.hid (heap_kept R2.out hb nr_)
         clear hb B0 R1 R2 Hnx
         obtain ⟨k0,k1,k2,-⟩:=obj_cells3 R3.out
         obtain ⟨m0,m1,m2,-⟩:=obj_cells3 R4.out
         go_wp2_with fail
         refine Calls.mono (Hny.out _ B1.out) ?_
         rintro e W2 ⟨rfl,hb⟩
         have B2:=Lib.hid (B1.out.trans (hb.mono B1.out.size))
         have R5:=Lib.hid (heap_kept R3.out hb nr_)
         have R6:=Lib.hid (heap_kept R4.out hb nr_)
         clear hb B1 R3 R4 Hny k0 k1 k2 m0 m1 m2
         obtain ⟨k0,k1,k2,-⟩:=obj_cells3 R5.out
         go_wp2_with fail
         refine Calls.mono (Hsd.out _ B2.out) ?_
         rintro e W3 ⟨rfl,hb⟩
         have B3:=Lib.hid (B2.out.trans (hb.mono B2.out.size))
         have R8:=Lib.hid (heap_kept R6.out hb nr_)
         clear hb B2 R5 R6 Hsd k0 k1 k2
         obtain ⟨m0,m1,m2,-⟩:=obj_cells3 R8.out
         go_wp2_with fail
         refine Calls.mono (Hsg.out _ B3.out) ?_
         rintro e W4 ⟨rfl,hb⟩
         have B4:=Lib.hid (B3.out.trans (hb.mono B3.out.size))
         clear hb B3 R8 Hsg m0 m1 m2
         go_wp2_with fail
         refine Calls.mono (D1.out _) ?_
         rintro e W5 ⟨rfl,hb⟩
         have B5:=Lib.hid (B4.out.trans (hb.mono B4.out.size))
         clear hb B4
         go_wp2_with fail
         refine Calls.mono (D2.out _) ?_
         rintro e W6 ⟨rfl,hb⟩
         have B6:=Lib.hid (B5.out.trans (hb.mono B5.out.size))
         clear hb B5
         go_wp2_with fail
         go_ret2
         exact ⟨q1,q1 == q2,rfl,fun h=>Hq.out (by simpa using h),B6.out⟩
        ·skip
         have r1:(X1 * G).natAbs≤300000000000000 * 10000:=by rw [Int.natAbs_mul]; exact Nat.mul_le_mul (by omega) (by omega)
         have r2:(X2 * G).natAbs≤300000000000000 * 10000:=by rw [Int.natAbs_mul]; exact Nat.mul_le_mul (by omega) (by omega)
         have r3:(Y2 * D).natAbs≤300000000000000 * 10000:=by rw [Int.natAbs_mul]; exact Nat.mul_le_mul (by omega) (by omega)
         have r4:(Y1 * D).natAbs≤300000000000000 * 10000:=by rw [Int.natAbs_mul]; exact Nat.mul_le_mul (by omega) (by omega)
         have p3:0 < Y2 * D:=Int.mul_pos (by omega) hD3
         have p4:0 < Y1 * D:=Int.mul_pos (by omega) hD3
         have w1:IntKind.i64.wrap (X1 * G)=X1 * G:=IntWalk.i64_in _ (by omega)
         have w2:IntKind.i64.wrap (X2 * G)=X2 * G:=IntWalk.i64_in _ (by omega)
         have w3:IntKind.i64.wrap (Y2 * D)=Y2 * D:=IntWalk.i64_in _ (by omega)
         have w4:IntKind.i64.wrap (Y1 * D)=Y1 * D:=IntWalk.i64_in _ (by omega)
         have D1:Hid (∀ W,Gives Tryz.prog 140 #[.int .i64 (X1 * G),.int .i64 (Y2 * D)] W (.int .i64 (X1 * G / (Y2 * D)))):=fun W=>downward_any W _ _ (by omega) p3 (by omega)
         have D2:Hid (∀ W,Gives Tryz.prog 140 #[.int .i64 (X2 * G),.int .i64 (Y1 * D)] W (.int .i64 (X2 * G / (Y1 * D)))):=fun W=>downward_any W _ _ (by omega) p4 (by omega)
         have q5:((X1 * G / (Y2 * D)).natAbs:Int)≤4000000000000000000:=by
          have:=Int.natAbs_ediv_le_natAbs (X1 * G) (Y2 * D)
          omega
         have Hq:Hid (X1 * G / (Y2 * D)=X2 * G / (Y1 * D)→QuoT tx ty d g (X1 * G / (Y2 * D))):=fun h=>by
          obtain ⟨o1,o2,o3⟩:=HXx.out
          obtain ⟨u1,u2,u3⟩:=HYy.out
          refine ⟨o1,u1,?_,by omega,by omega⟩
          rw [← o2,← o3,← u2,← u3,← HDd.out,← HGg.out]
          refine .inl ⟨by omega,?_,?_⟩
          ·unfold LN.quoL
           rw [if_neg (by omega)]
          ·unfold LN.quoH
           rw [if_neg (by omega)]
           exact h.symm
         clear r1 r2 r3 r4 p3 p4 q5 HXx HYy HDd HGg
         obtain ⟨q1,hq1⟩:∃ q,X1 * G / (Y2 * D)=q:=⟨_,rfl⟩
         obtain ⟨q2,hq2⟩:∃ q,X2 * G / (Y1 * D)=q:=⟨_,rfl⟩
         rw [hq1] at D1 Hq
         rw [hq2] at D2 Hq
         clear hq1 hq2
         go_enter Tryz.func116,Tryz.ntmps116
         go_wp2_with fail
         generalize (w.alloc (.cells (tcells x1 e1 x2 e2 n d) 103)).alloc (.cells (tcells y1 g1 y2 g2 m g) 103)=W0 at *
         refine Calls.mono (Hnx.out _ B0.out) ?_
         rintro e W1 ⟨rfl,hb⟩
         have B1:=Lib.hid (B0.out.trans (hb.mono B0.out.size))
         have R3:=Lib.hid (heap_kept R1.out hb nr_)
         have R4:=Lib.hid (heap_kept R2.out hb nr_)
         clear hb B0 R1 R2 Hnx
         obtain ⟨k0,k1,k2,-⟩:=obj_cells3 R3.out
         obtain ⟨m0,m1,m2,-⟩:=obj_cells3 R4.out
         go_wp2_with fail
         refine Calls.mono (Hny.out _ B1.out) ?_
         rintro e W2 ⟨rfl,hb⟩
         have B2:=Lib.hid (B1.out.trans (hb.mono B1.out.size))
         have R5:=Lib.hid (heap_kept R3.out hb nr_)
         have R6:=Lib.hid (heap_kept R4.out hb nr_)
         clear hb B1 R3 R4 Hny k0 k1 k2 m0 m1 m2
         obtain ⟨k0,k1,k2,-⟩:=obj_cells3 R5.out
         go_wp2_with fail
         refine Calls.mono (Hsd.out _ B2.out) ?_
         rintro e W3 ⟨rfl,hb⟩
         have B3:=Lib.hid (B2.out.trans (hb.mono B2.out.size))
         have R8:=Lib.hid (heap_kept R6.out hb nr_)
         clear hb B2 R5 R6 Hsd k0 k1 k2
         obtain ⟨m0,m1,m2,-⟩:=obj_cells3 R8.out
         go_wp2_with fail
         refine Calls.mono (Hsg.out _ B3.out) ?_
         rintro e W4 ⟨rfl,hb⟩
         have B4:=Lib.hid (B3.out.trans (hb.mono B3.out.size))
         clear hb B3 R8 Hsg m0 m1 m2
         go_wp2_with fail
         refine Calls.mono (D1.out _) ?_
         rintro e W5 ⟨rfl,hb⟩
         have B5:=Lib.hid (B4.out.trans (hb.mono B4.out.size))
         clear hb B4
         go_wp2_with fail
         refine Calls.mono (D2.out _) ?_
         rintro e W6 ⟨rfl,hb⟩
         have B6:=Lib.hid (B5.out.trans (hb.mono B5.out.size))
         clear hb B5
         go_wp2_with fail
         go_ret2
         exact ⟨q1,q1 == q2,rfl,fun h=>Hq.out (by simpa using h),B6.out⟩
end Go.Proofs.YtlomhfknmhaboaaGreatDoor

namespace Go.Proofs.YtlomhfknmhaboaaGreatDoor
open Go.RowKit
def flE (xl xh yl yh g d:Int):Option Int:=if yl≤0 then none else if LN.quoL xl yl yh g d=LN.quoH xh yl yh g d then some (LN.quoL xl yl yh g d) else none
def flS (xl xh yl yh g d:Int):Option Int:=if yh≤0 then flE (-xh) (-xl) (-yh) (-yl) g d else flE xl xh yl yh g d
def flAt (n:Nat) (tx ty:List (Int×Int)) (d g:Nat):Option Int:=flS (LN.eLo (lf n) tx) (LN.eHi (lf n) tx) (LN.eLo (lf n) ty) (LN.eHi (lf n) ty) g d
theorem eLo_le (f:Int→Nat):∀ l:List (Int×Int),LN.eLo f l≤LN.eHi f l
 | []=>Int.le_refl _
 | x :: l=>by
  have ih:=eLo_le f l
  have e1:LN.eLo f (x :: l)=(if x.2 < 0 then x.2 * (LN.hiL f x.1:Int) else x.2 * (f x.1:Int)) + LN.eLo f l:=by simp [LN.eLo]
  have e2:LN.eHi f (x :: l)=(if x.2 < 0 then x.2 * (f x.1:Int) else x.2 * (LN.hiL f x.1:Int)) + LN.eHi f l:=by simp [LN.eHi]
  have hle:f x.1≤LN.hiL f x.1:=by unfold LN.hiL; split <;> omega
  rw [e1,e2]
  by_cases hk:x.2 < 0
  ·have h1:x.2 * (LN.hiL f x.1:Int)≤x.2 * (f x.1:Int):=Int.mul_le_mul_of_nonpos_left (by omega) (by omega)
   rw [if_pos hk,if_pos hk]; omega
  ·have h1:x.2 * (f x.1:Int)≤x.2 * (LN.hiL f x.1:Int):=Int.mul_le_mul_of_nonneg_left (by omega) (by omega)
   rw [if_neg hk,if_neg hk]; omega
theorem flE_some {xl xh yl yh g d q:Int} (h:flE xl xh yl yh g d=some q):0 < yl∧LN.quoL xl yl yh g d=q∧LN.quoH xh yl yh g d=q:=by
 unfold flE at h
 split at h
 ·cases h
 ·rename_i h1
  split at h
  ·rename_i h2
   have h3:LN.quoL xl yl yh g d=q:=by simpa using h
   exact ⟨by omega,h3,by rw [← h2]; exact h3⟩
  ·cases h
theorem smallP_log {ps:List Int} (h:∀ p∈ps,p∈smallP) {n:Nat} (hn:n≤1056):∀ p∈ps,LN.LogAt n p (lf n p):=fun p hp=>by
 obtain ⟨q,rfl,hq⟩:=smallP_pr (h p hp)
 exact lgN_at hq hn
theorem smallP_pos' {ps:List Int} (h:∀ p∈ps,p∈smallP):∀ p∈ps,0 < p:=fun p hp=>by
 have key:∀ q∈smallP,0 < q:=by decide
 exact key p (h p hp)
theorem flAt_floor {ps:List Int} {la lb:List Rat} (h:∀ p∈ps,p∈smallP) (hl:la.length=lb.length) {n:Nat} (hn:n≤1056) {q:Int} (hq:flAt n (tlQ ps la) (tlQ ps lb) (tden la) (tden lb)=some q):LN.FloorOf ps la lb q:=by
 unfold flAt flS at hq
 have hy:=eLo_le (lf n) (tlQ ps lb)
 split at hq
 ·obtain ⟨h1,h2,h3⟩:=flE_some hq
  exact LN.floor_neg (smallP_pos' h) hl (smallP_log h hn) rfl rfl rfl rfl (by show LN.eHi (lf n) (tlQ ps lb) < 0; omega) hy h2 h3
 ·obtain ⟨h1,h2,h3⟩:=flE_some hq
  exact LN.floor_pos (smallP_pos' h) hl (smallP_log h hn) rfl rfl rfl rfl h1 hy h2 h3
theorem quoT_floor {ps:List Int} {la lb:List Rat} (h:∀ p∈ps,p∈smallP) (hl:la.length=lb.length) {q:Int} (hq:QuoT (tlQ ps la) (tlQ ps lb) (tden la) (tden lb) q):LN.FloorOf ps la lb q:=by
 have pa:PrT (tlQ ps la):=fun x hx=>smallP_pr (h _ (tlist_mem hx).1)
 have pb:PrT (tlQ ps lb):=fun x hx=>smallP_pr (h _ (tlist_mem hx).1)
 obtain ⟨a1,a2⟩:=lowT_eq _ pa hq.okx
 obtain ⟨b1,b2⟩:=lowT_eq _ pb hq.oky
 have hr:=hq.r
 rw [a1,a2,b1,b2] at hr
 have hy:=eLo_le (lf 26) (tlQ ps lb)
 rcases hr with ⟨h1,h2,h3⟩ | ⟨h1,h2,h3⟩
 ·exact LN.floor_pos (smallP_pos' h) hl (smallP_log h (by decide)) rfl rfl rfl rfl h1 hy h2 h3
 ·exact LN.floor_neg (smallP_pos' h) hl (smallP_log h (by decide)) rfl rfl rfl rfl h1 hy h2 h3
theorem ratio_floor {ps:List Int} {la lb:List Rat} (h:∀ p∈ps,p∈smallP) (h1:la.length=ps.length) (h2:lb.length=ps.length) {k:Rat} (hr:ratioB la lb ps.length k=true) (h0:LN.sz ps lb≠0):LN.FloorOf ps la lb k.floor:=by
 refine LN.floor_mult (smallP_pos' h) (k:=k) ?_ h0
 have hr':=of_decide_eq_true hr
 refine List.ext_getElem (by simp; omega) fun i i1 i2=>?_
 have:=hr' i (by omega)
 rw [List.getElem_map]
 rw [List.getD_eq_getElem?_getD,List.getD_eq_getElem?_getD,List.getElem?_eq_getElem (by omega),List.getElem?_eq_getElem i1] at this
 exact this.symm
theorem divZ (w:World) (a b:Int) (K:Nat) (hK:K < 90000) (ha:a.natAbs < 2 ^ K) (hb:b.natAbs < 2 ^ K) (h0:0 < b) (L:Laid w):Gives Tryz.prog 107 #[.string (itx a),.string (itx b)] w (.tuple #[.string (itx (a / b)),.string (itx (a % b)),.int .i64 0]):=by
 obtain ⟨n,rfl⟩:=Int.eq_ofNat_of_zero_le (Int.le_of_lt h0)
 have hs:Num (a.natAbs + 1):=num_two (K:=K + 1) (by rw [Nat.pow_succ]; omega) (by omega)
 have:=divmodz_any w a n (num_two ha (by omega)) (num_two hb (by omega)) (by omega) hs L
 rw [itx_nat]
 exact this
theorem same_itx (a b:Int):((itx a).toList == (itx b).toList)=decide (a=b):=by
 by_cases h:a=b
 ·subst h; simp
 ·rw [decide_eq_false h,beq_eq_false_iff_ne]
  intro e
  rw [toList_lb,toList_lb] at e
  exact h (itx_inj (by
   have h1:(itx a).data.toList=(itx b).data.toList:=e
   exact ByteArray.ext (Array.toList_inj.1 h1)))
def FlrPost (ps:List Int) (la lb:List Rat) (e:Ending):Prop:=∃ q,e = .returned (.string (itx q))∧LN.FloorOf ps la lb q
structure FlrOk (ps:List Int) (la lb:List Rat) (E:Nat):Prop where
 pr:∀ p∈ps,p∈smallP
 n6:ps.length≤6
 kx:∀ x∈tlQ ps la,x.2.natAbs < 2 ^ E
 ky:∀ x∈tlQ ps lb,x.2.natAbs < 2 ^ E
 d:tden la < 2 ^ E
 g:tden lb < 2 ^ E
 e:E≤3000
 nz:LN.sz ps lb≠0
 dec:ratioB la lb ps.length (ratioK la lb ps.length)=false→flAt 1024 (tlQ ps la) (tlQ ps lb) (tden la) (tden lb)≠none
set_option maxRecDepth 100000 in
set_option maxHeartbeats 64000000 in
theorem floor_any (w:World) (ps:List Int) (a0 a1 a2:Option Addr) (c0 c1 c2 D E:Nat) (la lb:List Rat) (A:SizeOk w ps a0 a1 la D) (B:SizeOk w ps a0 a2 lb D) (hD0:0 < D) (F:FlrOk ps la lb E) (L:Laid w) :
  Calls Tryz.prog 75 #[.slice a0 ps.length c0,.slice a1 la.length c1,.slice a2 lb.length c2] w fun e w'=>FlrPost ps la lb e∧Below w.heap.size w w':=by
 cases hr:ratioB la lb ps.length (ratioK la lb ps.length) with
 | true =>
  refine Calls.mono (floor_ratio w ps a0 a1 a2 c0 c1 c2 D la lb A B hD0 L hr) ?_
  rintro e w' ⟨rfl,hb⟩
  exact ⟨⟨_,rfl,ratio_floor F.pr A.len B.len hr F.nz⟩,hb⟩
 | false =>
  have hn:=A.n
  have hdd:=A.d
  have HL:=Lib.hid L
  have HF:=Lib.hid F
  have Hdec:=Lib.hid (F.dec hr)
  have Hra:=Lib.hid (ratio_any w a1 a2 c1 c2 ps.length D la lb A.rl B.rl A.len B.len A.sm B.sm (by omega) hD0 hdd L)
  rw [hr] at Hra
  have Ht1:Hid (∀ W,Below w.heap.size w W→Calls Tryz.prog 66 #[.slice a0 ps.length c0,.slice a1 ps.length c1] W fun e w'=>∃ b1 d1 b2 d2,e = .returned (.agg (tcells b1 d1 b2 d2 (tlQ ps la).length (tden la)))∧TermsAt w' (tlQ ps la) b1 b2∧Below W.heap.size W w'):=fun W hW=>by
   have:=terms_ok (c0:=c0) (c:=c1) (A.below hW) (L.below hW)
   rw [A.len] at this
   exact this
  have Ht2:Hid (∀ W,Below w.heap.size w W→Calls Tryz.prog 66 #[.slice a0 ps.length c0,.slice a2 ps.length c2] W fun e w'=>∃ b1 d1 b2 d2,e = .returned (.agg (tcells b1 d1 b2 d2 (tlQ ps lb).length (tden lb)))∧TermsAt w' (tlQ ps lb) b1 b2∧Below W.heap.size W w'):=fun W hW=>by
   have:=terms_ok (c0:=c0) (c:=c2) (B.below hW) (L.below hW)
   rw [B.len] at this
   exact this
  have hE:=F.e
  have lx:(tlQ ps la).length≤6:=Nat.le_trans (by have:=(tlist_fst (tden la) ps la).length_le; rw [List.length_map] at this; exact this) F.n6
  have ly:(tlQ ps lb).length≤6:=Nat.le_trans (by have:=(tlist_fst (tden lb) ps lb).length_le; rw [List.length_map] at this; exact this) F.n6
  have hd0:=LN.tden_pos' la
  have hg0:=LN.tden_pos' lb
  have px:PrT (tlQ ps la):=fun x hx=>smallP_pr (F.pr _ (tlist_mem hx).1)
  have py:PrT (tlQ ps lb):=fun x hx=>smallP_pr (F.pr _ (tlist_mem hx).1)
  have hll:la.length=lb.length:=A.len.trans B.len.symm
  have Hqu:Hid (∀ W x1 x2 y1 y2 e1 e2 g1 g2,TermsAt W (tlQ ps la) x1 x2→TermsAt W (tlQ ps lb) y1 y2→Laid W→Calls Tryz.prog 116 #[.agg (tcells x1 e1 x2 e2 (tlQ ps la).length (tden la)),.agg (tcells y1 g1 y2 g2 (tlQ ps lb).length (tden lb))] W fun e w'=>∃ q b,e = .returned (.tuple #[.int .i64 q,.bool b])∧(b=true→QuoT (tlQ ps la) (tlQ ps lb) (tden la) (tden lb) q)∧Below W.heap.size W w'):=fun W x1 x2 y1 y2 e1 e2 g1 g2 X Y LW =>
   quotient_any W x1 x2 y1 y2 e1 e2 g1 g2 _ _ _ _ X Y lx ly (num_two F.d (by omega)) (num_two F.g (by omega)) hd0 hg0 LW
  have Hof:Hid (∀ W q,-9223372036854775808≤q→q≤9223372036854775807→Below w.heap.size w W→Gives Tryz.prog 97 #[.int .i64 q] W (.string (itx q))):=fun W q h1 h2 hW=>ofz_any W q h1 h2 (L.below hW)
  have HqF:Hid (∀ q,QuoT (tlQ ps la) (tlQ ps lb) (tden la) (tden lb) q→LN.FloorOf ps la lb q):=fun q h=>quoT_floor F.pr hll h
  have HfF:Hid (∀ n q,n≤1056→flAt n (tlQ ps la) (tlQ ps lb) (tden la) (tden lb)=some q→LN.FloorOf ps la lb q):=fun n q hn h=>flAt_floor F.pr hll hn h
  have Hen1:Hid (∀ (n:Nat) W x1 x2 e1 e2,n≤1056→TermsAt W (tlQ ps la) x1 x2→Laid W→Gives Tryz.prog 109 #[.agg (tcells x1 e1 x2 e2 (tlQ ps la).length (tden la)),.int .i64 n] W (.tuple #[.string (itx (LN.eLo (lf n) (tlQ ps la))),.string (itx (LN.eHi (lf n) (tlQ ps la)))])):=fun n W x1 x2 e1 e2 hn T LW =>
   ends_any W x1 x2 e1 e2 _ n E _ T px (by omega) F.kx hn LW
  have Hen2:Hid (∀ (n:Nat) W x1 x2 e1 e2,n≤1056→TermsAt W (tlQ ps lb) x1 x2→Laid W→Gives Tryz.prog 109 #[.agg (tcells x1 e1 x2 e2 (tlQ ps lb).length (tden lb)),.int .i64 n] W (.tuple #[.string (itx (LN.eLo (lf n) (tlQ ps lb))),.string (itx (LN.eHi (lf n) (tlQ ps lb)))])):=fun n W x1 x2 e1 e2 hn T LW =>
   ends_any W x1 x2 e1 e2 _ n E _ T py (by omega) F.ky hn LW
  obtain ⟨K,hK⟩:∃ K:Nat,K=E + 1060 + 10:=⟨_,rfl⟩
  have Hbx:Hid (∀ n:Nat,n≤1024→(LN.eLo (lf n) (tlQ ps la)).natAbs < 2 ^ K∧(LN.eHi (lf n) (tlQ ps la)).natAbs < 2 ^ K):=fun n hn=>by
   obtain ⟨h1,h2⟩:=eSum_num (n:=n) (E:=E) (by omega) (tlQ ps la) (by omega) px F.kx
   exact ⟨Nat.lt_of_lt_of_le h1 (Nat.pow_le_pow_right (by decide) (by omega)),Nat.lt_of_lt_of_le h2 (Nat.pow_le_pow_right (by decide) (by omega))⟩
  have Hby:Hid (∀ n:Nat,n≤1024→(LN.eLo (lf n) (tlQ ps lb)).natAbs < 2 ^ K∧(LN.eHi (lf n) (tlQ ps lb)).natAbs < 2 ^ K):=fun n hn=>by
   obtain ⟨h1,h2⟩:=eSum_num (n:=n) (E:=E) (by omega) (tlQ ps lb) (by omega) py F.ky
   exact ⟨Nat.lt_of_lt_of_le h1 (Nat.pow_le_pow_right (by decide) (by omega)),Nat.lt_of_lt_of_le h2 (Nat.pow_le_pow_right (by decide) (by omega))⟩
  have hKK:K + K < 90000:=by omega
  have hdK:tden la < 2 ^ K:=Nat.lt_of_lt_of_le F.d (Nat.pow_le_pow_right (by decide) (by omega))
  have hgK:tden lb < 2 ^ K:=Nat.lt_of_lt_of_le F.g (Nat.pow_le_pow_right (by decide) (by omega))
  have HS:Hid (∀ (z:Int) W,Gives Tryz.prog 54 #[.string (itx z)] W (.int .i64 z.sign)):=fun z W=>sign_any W z
  have HN:Hid (∀ (z:Int) W,z.natAbs < 2 ^ K→Gives Tryz.prog 34 #[.string (itx z)] W (.string (itx (-z)))):=fun z W hz=>neg_any W z (num_two hz (by omega))
  have HMd:Hid (∀ (a:Int) W,a.natAbs < 2 ^ K→Below w.heap.size w W→Gives Tryz.prog 82 #[.string (itx a),.string (dec (tden la))] W (.string (itx (a * (tden la:Int))))):=fun a W ha hW=>by
   have:=mulZ W a (tden la:Int) K K hKK ha (by rw [Int.natAbs_natCast]; exact hdK) (L.below hW)
   rw [itx_nat] at this; exact this
  have HMg:Hid (∀ (a:Int) W,a.natAbs < 2 ^ K→Below w.heap.size w W→Gives Tryz.prog 82 #[.string (itx a),.string (dec (tden lb))] W (.string (itx (a * (tden lb:Int))))):=fun a W ha hW=>by
   have:=mulZ W a (tden lb:Int) K K hKK ha (by rw [Int.natAbs_natCast]; exact hgK) (L.below hW)
   rw [itx_nat] at this; exact this
  have HDv:Hid (∀ (a b:Int) W,a.natAbs < 2 ^ K→b.natAbs < 2 ^ K→0 < b→Below w.heap.size w W→Gives Tryz.prog 107 #[.string (itx (a * (tden lb:Int))),.string (itx (b * (tden la:Int)))] W (.tuple #[.string (itx (a * (tden lb:Int) / (b * (tden la:Int)))),.string (itx (a * (tden lb:Int) % (b * (tden la:Int)))),.int .i64 0])):=fun a b W ha hb hb0 hW =>
   divZ W _ _ (K + K) hKK (abs_mul_lt ha hgK) (abs_mul_lt hb hdK) (Int.mul_pos hb0 (by omega)) (L.below hW)
  have Hfl:Hid (∀ n,flAt n (tlQ ps la) (tlQ ps lb) (tden la) (tden lb)=flS (LN.eLo (lf n) (tlQ ps la)) (LN.eHi (lf n) (tlQ ps la)) (LN.eLo (lf n) (tlQ ps lb)) (LN.eHi (lf n) (tlQ ps lb)) (tden lb) (tden la)):=fun n=>rfl
  unfold fr fv at Hra
  rw [A.len,B.len]
  clear A B L hr F hn hdd hE lx ly hd0 hg0 px py hll hK hKK hdK hgK hD0
  generalize ratioK la lb ps.length=k at *
  generalize tlQ ps la=tx at *
  generalize tlQ ps lb=ty at *
  generalize tden la=dx at *
  generalize tden lb=dy at *
  go_enter Tryz.func75,Tryz.ntmps75
  go_wp2_with fail
  refine Calls.mono Hra.out ?_
  rintro e w1 ⟨rfl,hb⟩
  have B2:=Lib.hid (hb.alloc hb.size (.cells #[.string (itx k.num),.string (dec k.den)] 30))
  clear hb Hra
  go_wp2_with fail
  generalize w1.alloc (.cells #[.string (itx k.num),.string (dec k.den)] 30)=w2 at *
  refine Calls.mono (Ht1.out _ B2.out) ?_
  rintro e w3 ⟨b1,d1,b2,d2,rfl,X,hb⟩
  have B3:=Lib.hid (B2.out.trans (hb.mono B2.out.size))
  have HX:=Lib.hid X
  clear hb Ht1 X B2
  go_wp2_with fail
  refine Calls.mono (Ht2.out _ B3.out) ?_
  rintro e w4 ⟨b3,d3,b4,d4,rfl,Y,hb⟩
  have B4:=Lib.hid (B3.out.trans (hb.mono B3.out.size))
  have HX4:=Lib.hid (HX.out.below hb)
  have HY:=Lib.hid Y
  clear hb Ht2 Y B3 HX
  go_wp2_with fail
  have Bx:=Lib.hid (((Below.refl w4.heap.size w4).alloc nr_ (.cells #[.slice b1 tx.length d1,.slice b2 tx.length d2,.string (dec dx)] 103)).alloc ((Below.refl w4.heap.size w4).alloc nr_ (.cells #[.slice b1 tx.length d1,.slice b2 tx.length d2,.string (dec dx)] 103)).size (.cells #[.slice b3 ty.length d3,.slice b4 ty.length d4,.string (dec dy)] 103))
  have S1:=Lib.hid (heap_old (heap_at w4 #[.slice b1 tx.length d1,.slice b2 tx.length d2,.string (dec dx)] 103 _ rfl) (.cells #[.slice b3 ty.length d3,.slice b4 ty.length d4,.string (dec dy)] 103))
  have S2:=Lib.hid (heap_at (w4.alloc (.cells #[.slice b1 tx.length d1,.slice b2 tx.length d2,.string (dec dx)] 103)) #[.slice b3 ty.length d3,.slice b4 ty.length d4,.string (dec dy)] 103 (w4.heap.size + 1) (by show (w4.heap.push _).size=_; exact Array.size_push ..))
  have HX5:=Lib.hid (HX4.out.below Bx.out)
  have HY5:=Lib.hid (HY.out.below Bx.out)
  have B5:=Lib.hid (B4.out.trans (Bx.out.mono B4.out.size))
  clear HX4 HY Bx
  generalize hN:w4.heap.size=N9 at *
  generalize (w4.alloc (.cells #[.slice b1 tx.length d1,.slice b2 tx.length d2,.string (dec dx)] 103)).alloc (.cells #[.slice b3 ty.length d3,.slice b4 ty.length d4,.string (dec dy)] 103)=w5 at *
  clear hN B4
  refine Calls.mono (Hqu.out _ _ _ _ _ d1 d2 d3 d4 HX5.out HY5.out (HL.out.below B5.out)) ?_
  rintro e w6 ⟨q0,bq,rfl,hq0,hb⟩
  have B6:=Lib.hid (B5.out.trans (hb.mono B5.out.size))
  have T1:=Lib.hid (heap_kept S1.out hb nr_)
  have T2:=Lib.hid (heap_kept S2.out hb nr_)
  have HX6:=Lib.hid (HX5.out.below hb)
  have HY6:=Lib.hid (HY5.out.below hb)
  have Hq0:=Lib.hid hq0
  clear hb Hqu HX5 HY5 S1 S2 B5 hq0
  cases bq with
  | true =>
   have hqt:=Hq0.out rfl
   have Hfo:=Lib.hid (HqF.out q0 hqt)
   have Hoq:=Lib.hid (Hof.out w6 q0 (by have:=hqt.lo; omega) (by have:=hqt.hi; omega) B6.out)
   clear hqt
   go_wp2_with fail
   refine Calls.mono Hoq.out ?_
   rintro e w7 ⟨rfl,hb⟩
   have B7:=Lib.hid (B6.out.trans (hb.mono B6.out.size))
   clear hb Hoq
   go_wp2_with fail
   go_ret
   exact ⟨⟨q0,rfl,Hfo.out⟩,B7.out⟩
  | false =>
   clear Hq0 HqF Hof
   go_wp2_with fail
   go_loopw [13] (fun a wr=>∃ (n:Nat),Hid (Pw n)∧n≤1024∧a = .int .i64 n∧Hid (Below w.heap.size w wr)∧Hid (wr.heap[N9]?=some (.cells #[.slice b1 tx.length d1,.slice b2 tx.length d2,.string (dec dx)] 103 (0,0)))∧Hid (wr.heap[N9 + 1]?=some (.cells #[.slice b3 ty.length d3,.slice b4 ty.length d4,.string (dec dy)] 103 (0,0)))∧Hid (TermsAt wr tx b1 b2)∧Hid (TermsAt wr ty b3 b4)) (fun a _=>1024 - (intOf a).toNat)
   case atStart=>exact ⟨64,.inl rfl,by decide,rfl,B6,T1,T2,HX6,HY6⟩
   case round =>
    clear B6 T1 T2 HX6 HY6
    obtain ⟨n,Hp,hn,rfl,B1,T1,T2,HX,HY⟩:=hrel
    obtain ⟨vx1,vx2⟩:=Hbx.out n hn
    obtain ⟨vy1,vy2⟩:=Hby.out n hn
    have HE1:=Lib.hid (Hen1.out n wr b1 b2 d1 d2 (by omega) HX.out (HL.out.below B1.out))
    have HE2:Hid (∀ W,Below wr.heap.size wr W→Gives Tryz.prog 109 #[.agg (tcells b3 d3 b4 d4 ty.length dy),.int .i64 n] W (.tuple #[.string (itx (LN.eLo (lf n) ty)),.string (itx (LN.eHi (lf n) ty))])):=fun W hW=>Hen2.out n W b3 b4 d3 d4 (by omega) (HY.out.below hW) (HL.out.below (B1.out.trans (hW.mono B1.out.size)))
    have Hf:=Lib.hid (Hfl.out n)
    have Hspec:Hid (∀ q,flAt n tx ty dx dy=some q→LN.FloorOf ps la lb q):=fun q h=>HfF.out n q (by omega) h
    have hn0:0 < n:=by rcases Hp.out with h | h | h | h | h <;> omega
    have Hnx:Hid (flAt n tx ty dx dy=none→n * 2≤1024∧Pw (n * 2)):=fun h=>by
     rcases Hp.out with e | e | e | e | e
     ·subst e; exact ⟨by decide,.inr (.inl rfl)⟩
     ·subst e; exact ⟨by decide,.inr (.inr (.inl rfl))⟩
     ·subst e; exact ⟨by decide,.inr (.inr (.inr (.inl rfl)))⟩
     ·subst e; exact ⟨by decide,.inr (.inr (.inr (.inr rfl)))⟩
     ·subst e; exact absurd h Hdec.out
    clear Hen1 Hen2 Hfl HfF Hdec Hbx Hby
    have hyy:=eLo_le (lf n) ty
    generalize flAt n tx ty dx dy=fl at *
    generalize LN.eLo (lf n) tx=xl at *
    generalize LN.eHi (lf n) tx=xh at *
    generalize LN.eLo (lf n) ty=yl at *
    generalize LN.eHi (lf n) ty=yh at *
    have hwn:IntKind.i64.wrap ((n:Int) * 2)=((n * 2:Nat):Int):=by rw [show (n:Int) * 2=((n * 2:Nat):Int) by omega]; exact IntWalk.i64_in _ (by omega)
    obtain ⟨m0,m1,m2,-⟩:=obj_cells3 T1.out
    go_wp2_with fail
    refine Calls.mono HE1.out ?_
    rintro e_ w2 ⟨rfl,hb⟩
    replace HE2:=Lib.hid (HE2.out w2 hb)
    have B2:=Lib.hid (B1.out.trans (hb.mono B1.out.size))
    replace T1:=Lib.hid (heap_kept T1.out hb nr_)
    replace T2:=Lib.hid (heap_kept T2.out hb nr_)
    replace HX:=Lib.hid (HX.out.below hb)
    replace HY:=Lib.hid (HY.out.below hb)
    clear hb HE1 B1 m0 m1 m2
    obtain ⟨m0,m1,m2,-⟩:=obj_cells3 T2.out
    go_wp2_with fail
    clear m0 m1 m2
    refine Calls.mono (HE2.out) ?_
    rintro e_ w3 ⟨rfl,hb⟩
    have B3:=Lib.hid (B2.out.trans (hb.mono B2.out.size))
    replace T1:=Lib.hid (heap_kept T1.out hb nr_)
    replace T2:=Lib.hid (heap_kept T2.out hb nr_)
    replace HX:=Lib.hid (HX.out.below hb)
    replace HY:=Lib.hid (HY.out.below hb)
    clear hb B2
    clear HE2
    go_wp2_with fail
    refine Calls.mono (HS.out yh _) ?_
    rintro e_ w4 ⟨rfl,hb⟩
    have B4:=Lib.hid (B3.out.trans (hb.mono B3.out.size))
    replace T1:=Lib.hid (heap_kept T1.out hb nr_)
    replace T2:=Lib.hid (heap_kept T2.out hb nr_)
    replace HX:=Lib.hid (HX.out.below hb)
    replace HY:=Lib.hid (HY.out.below hb)
    clear hb B3
    by_cases hyh:yh≤0
    ·have hsg0:yh.sign≤0:=by have:=sign_cases yh; omega
     generalize yh.sign=sg0 at *
     go_wp2_with fail
     refine Calls.mono (HN.out xh _ (by omega)) ?_
     rintro e_ w5 ⟨rfl,hb⟩
     have B5:=Lib.hid (B4.out.trans (hb.mono B4.out.size))
     replace T1:=Lib.hid (heap_kept T1.out hb nr_)
     replace T2:=Lib.hid (heap_kept T2.out hb nr_)
     replace HX:=Lib.hid (HX.out.below hb)
     replace HY:=Lib.hid (HY.out.below hb)
     clear hb B4
     go_wp2_with fail
     refine Calls.mono (HN.out xl _ (by omega)) ?_
     rintro e_ w6 ⟨rfl,hb⟩
     have B6:=Lib.hid (B5.out.trans (hb.mono B5.out.size))
     replace T1:=Lib.hid (heap_kept T1.out hb nr_)
     replace T2:=Lib.hid (heap_kept T2.out hb nr_)
     replace HX:=Lib.hid (HX.out.below hb)
     replace HY:=Lib.hid (HY.out.below hb)
     clear hb B5
     go_wp2_with fail
     refine Calls.mono (HN.out yh _ (by omega)) ?_
     rintro e_ w7 ⟨rfl,hb⟩
     have B7:=Lib.hid (B6.out.trans (hb.mono B6.out.size))
     replace T1:=Lib.hid (heap_kept T1.out hb nr_)
     replace T2:=Lib.hid (heap_kept T2.out hb nr_)
     replace HX:=Lib.hid (HX.out.below hb)
     replace HY:=Lib.hid (HY.out.below hb)
     clear hb B6
     go_wp2_with fail
     refine Calls.mono (HN.out yl _ (by omega)) ?_
     rintro e_ w8 ⟨rfl,hb⟩
     have B8:=Lib.hid (B7.out.trans (hb.mono B7.out.size))
     replace T1:=Lib.hid (heap_kept T1.out hb nr_)
     replace T2:=Lib.hid (heap_kept T2.out hb nr_)
     replace HX:=Lib.hid (HX.out.below hb)
     replace HY:=Lib.hid (HY.out.below hb)
     clear hb B7
     go_wp2_with fail
     refine Calls.mono (HS.out (-yh) _) ?_
     rintro e_ w9 ⟨rfl,hb⟩
     have B9:=Lib.hid (B8.out.trans (hb.mono B8.out.size))
     replace T1:=Lib.hid (heap_kept T1.out hb nr_)
     replace T2:=Lib.hid (heap_kept T2.out hb nr_)
     replace HX:=Lib.hid (HX.out.below hb)
     replace HY:=Lib.hid (HY.out.below hb)
     clear hb B8
     by_cases hyl2:(-yh)≤0
     ·have hsg:(-yh).sign≤0:=by have:=sign_cases (-yh); omega
      have hfl:fl=none:=by
       rw [Hf.out]
       unfold flS
       rw [if_pos (by omega)]
       unfold flE
       rw [if_pos (by omega)]
      obtain ⟨hn2,hp2⟩:=Hnx.out hfl
      have Hp2:=Lib.hid hp2
      clear hfl Hspec Hnx hp2 Hf
      generalize (-yh).sign=sg at *
      go_wp2_with fail
      go_roundw
      case rel=>exact ⟨n * 2,Hp2,hn2,rfl,B9,T1,T2,HX,HY⟩
      case measure=>simp [intOf]; omega
     ·have hsg:0 < (-yh).sign:=by have:=sign_cases (-yh); omega
      generalize (-yh).sign=sg at *
      go_wp2_with fail
      clear hsg
      refine Calls.mono (HS.out (-xh) _) ?_
      rintro e_ w10 ⟨rfl,hb⟩
      have B10:=Lib.hid (B9.out.trans (hb.mono B9.out.size))
      replace T1:=Lib.hid (heap_kept T1.out hb nr_)
      replace T2:=Lib.hid (heap_kept T2.out hb nr_)
      replace HX:=Lib.hid (HX.out.below hb)
      replace HY:=Lib.hid (HY.out.below hb)
      clear hb B9
      by_cases hx1:(-xh) < 0
      ·have hsg:(-xh).sign < 0:=by have:=sign_cases (-xh); omega
       generalize (-xh).sign=sg at *
       go_wp2_with fail
       clear hsg
       refine Calls.mono (HS.out (-xl) _) ?_
       rintro e_ w11 ⟨rfl,hb⟩
       have B11:=Lib.hid (B10.out.trans (hb.mono B10.out.size))
       replace T1:=Lib.hid (heap_kept T1.out hb nr_)
       replace T2:=Lib.hid (heap_kept T2.out hb nr_)
       replace HX:=Lib.hid (HX.out.below hb)
       replace HY:=Lib.hid (HY.out.below hb)
       clear hb B10
       by_cases hx2:(-xl) < 0
       ·have hsg:(-xl).sign < 0:=by have:=sign_cases (-xl); omega
        generalize (-xl).sign=sg at *
        obtain ⟨k0,k1,k2,-⟩:=obj_cells3 T1.out
        obtain ⟨m0,m1,m2,-⟩:=obj_cells3 T2.out
        have s2:=BW.cell k2
        have r2:=BW.cell m2
        have hnon:Nonempty (BW w11):=⟨⟨w11,Below.refl _ _⟩⟩
        have I:Hid (Below w11.heap.size w11 w11.drew):=(Below.refl _ _).drew
        go_wp2_with fail
        clear k0 k1 k2 m0 m1 m2
        refine RX.wp_region_readers 15 [(1,0),(1,1),(1,2),(1,4),(1,5),(1,6),(0,3),(0,7),(0,8),(2,9),(2,10),(2,11),(2,12),(0,13),(0,14),(0,15)] (fun w'=>∃ p:BW w11,w'=p.w) (by kernel_rfl) (by kernel_rfl) ?_ ?_
        ·exact ⟨⟨_,I.out⟩,rfl⟩
        iterate 6 (refine RX.walkR_read ?_; simp only [dsc_,dz_,tsc_,tz_]; go_big_quiet_step (fail); refine wpQuiet_nil ?_)
        clear hnon s2 r2
        refine RX.walkR_move ?_
        simp only [dsc_,dz_,tsc_,tz_]
        go_wp2_with fail
        refine Calls.mono (HMg.out (-xh) _ (by omega) (B11.out.drew)) ?_
        rintro e_ wa ⟨rfl,hb⟩
        have Wa:Hid (Below w11.heap.size w11 wa):=(Below.refl w11.heap.size w11).drew.trans hb
        clear hb I
        go_wp2_with fail
        refine ⟨⟨⟨_,Wa.out⟩,rfl⟩,?_⟩
        refine RX.walkR_move ?_
        simp only [dsc_,dz_,tsc_,tz_]
        go_wp2_with fail
        refine Calls.mono (HMd.out (-yh) _ (by omega) (B11.out.trans (Wa.out.mono B11.out.size))) ?_
        rintro e_ wb ⟨rfl,hb⟩
        have Wb:=Lib.hid (Wa.out.trans (hb.mono Wa.out.size))
        clear hb Wa
        go_wp2_with fail
        refine ⟨⟨⟨_,Wb.out⟩,rfl⟩,?_⟩
        refine RX.walkR_move ?_
        simp only [dsc_,dz_,tsc_,tz_]
        go_wp2_with fail
        refine Calls.mono (HDv.out (-xh) (-yh) _ (by omega) (by omega) (by omega) (B11.out.trans (Wb.out.mono B11.out.size))) ?_
        rintro e_ wc ⟨rfl,hb⟩
        have Wc:=Lib.hid (Wb.out.trans (hb.mono Wb.out.size))
        clear hb Wb
        go_wp2_with fail
        refine ⟨⟨⟨_,Wc.out⟩,rfl⟩,?_⟩
        refine RX.walkR_any ?_
        simp only [dsc_,dz_,tsc_,tz_]
        go_big_quiet_step (fail)
        refine wpQuiet_nil ?_
        refine RX.walkR_any ?_
        simp only [dsc_,dz_,tsc_,tz_]
        go_big_quiet_step (fail)
        refine wpQuiet_nil ?_
        refine RX.walkR_any ?_
        simp only [dsc_,dz_,tsc_,tz_]
        go_big_quiet_step (fail)
        refine wpQuiet_nil ?_
        refine RX.walkR_any ?_
        simp only [dsc_,dz_,tsc_,tz_]
        go_big_quiet_step (fail)
        refine wpQuiet_nil ?_
        refine RX.walkR_move ?_
        simp only [dsc_,dz_,tsc_,tz_]
        go_wp2_with fail
        refine ⟨⟨⟨_,Wc.out⟩,rfl⟩,?_⟩
        refine RX.walkR_move ?_
        simp only [dsc_,dz_,tsc_,tz_]
        go_wp2_with fail
        refine ⟨⟨⟨_,Wc.out⟩,rfl⟩,?_⟩
        refine RX.walkR_move ?_
        simp only [dsc_,dz_,tsc_,tz_]
        go_wp2_with fail
        simp only [RX.walkR]
        have hb:=Wc.out
        have B12:=Lib.hid (B11.out.trans (hb.mono B11.out.size))
        replace T1:=Lib.hid (heap_kept T1.out hb nr_)
        replace T2:=Lib.hid (heap_kept T2.out hb nr_)
        replace HX:=Lib.hid (HX.out.below hb)
        replace HY:=Lib.hid (HY.out.below hb)
        clear hb Wc B11
        generalize wc=w12 at *
        go_wp2_with fail
        obtain ⟨k0,k1,k2,-⟩:=obj_cells3 T1.out
        obtain ⟨m0,m1,m2,-⟩:=obj_cells3 T2.out
        have s2:=BW.cell k2
        have r2:=BW.cell m2
        have hnon:Nonempty (BW w12):=⟨⟨w12,Below.refl _ _⟩⟩
        have I:Hid (Below w12.heap.size w12 w12.drew):=(Below.refl _ _).drew
        go_wp2_with fail
        clear k0 k1 k2 m0 m1 m2
        refine RX.wp_region_readers 15 [(1,0),(1,1),(1,2),(1,4),(1,5),(1,6),(0,3),(0,7),(0,8),(2,9),(2,10),(2,11),(2,12),(0,13),(0,14),(0,15)] (fun w'=>∃ p:BW w12,w'=p.w) (by kernel_rfl) (by kernel_rfl) ?_ ?_
        ·exact ⟨⟨_,I.out⟩,rfl⟩
        iterate 6 (refine RX.walkR_read ?_; simp only [dsc_,dz_,tsc_,tz_]; go_big_quiet_step (fail); refine wpQuiet_nil ?_)
        clear hnon s2 r2
        refine RX.walkR_move ?_
        simp only [dsc_,dz_,tsc_,tz_]
        go_wp2_with fail
        refine Calls.mono (HMg.out (-xl) _ (by omega) (B12.out.drew)) ?_
        rintro e_ wa ⟨rfl,hb⟩
        have Wa:Hid (Below w12.heap.size w12 wa):=(Below.refl w12.heap.size w12).drew.trans hb
        clear hb I
        go_wp2_with fail
        refine ⟨⟨⟨_,Wa.out⟩,rfl⟩,?_⟩
        refine RX.walkR_move ?_
        simp only [dsc_,dz_,tsc_,tz_]
        go_wp2_with fail
        refine Calls.mono (HMd.out (-yl) _ (by omega) (B12.out.trans (Wa.out.mono B12.out.size))) ?_
        rintro e_ wb ⟨rfl,hb⟩
        have Wb:=Lib.hid (Wa.out.trans (hb.mono Wa.out.size))
        clear hb Wa
        go_wp2_with fail
        refine ⟨⟨⟨_,Wb.out⟩,rfl⟩,?_⟩
        refine RX.walkR_move ?_
        simp only [dsc_,dz_,tsc_,tz_]
        go_wp2_with fail
        refine Calls.mono (HDv.out (-xl) (-yl) _ (by omega) (by omega) (by omega) (B12.out.trans (Wb.out.mono B12.out.size))) ?_
        rintro e_ wc ⟨rfl,hb⟩
        have Wc:=Lib.hid (Wb.out.trans (hb.mono Wb.out.size))
        clear hb Wb
        go_wp2_with fail
        refine ⟨⟨⟨_,Wc.out⟩,rfl⟩,?_⟩
        refine RX.walkR_any ?_
        simp only [dsc_,dz_,tsc_,tz_]
        go_big_quiet_step (fail)
        refine wpQuiet_nil ?_
        refine RX.walkR_any ?_
        simp only [dsc_,dz_,tsc_,tz_]
        go_big_quiet_step (fail)
        refine wpQuiet_nil ?_
        refine RX.walkR_any ?_
        simp only [dsc_,dz_,tsc_,tz_]
        go_big_quiet_step (fail)
        refine wpQuiet_nil ?_
        refine RX.walkR_any ?_
        simp only [dsc_,dz_,tsc_,tz_]
        go_big_quiet_step (fail)
        refine wpQuiet_nil ?_
        refine RX.walkR_move ?_
        simp only [dsc_,dz_,tsc_,tz_]
        go_wp2_with fail
        refine ⟨⟨⟨_,Wc.out⟩,rfl⟩,?_⟩
        refine RX.walkR_move ?_
        simp only [dsc_,dz_,tsc_,tz_]
        go_wp2_with fail
        refine ⟨⟨⟨_,Wc.out⟩,rfl⟩,?_⟩
        refine RX.walkR_move ?_
        simp only [dsc_,dz_,tsc_,tz_]
        go_wp2_with fail
        simp only [RX.walkR]
        have hb:=Wc.out
        have B13:=Lib.hid (B12.out.trans (hb.mono B12.out.size))
        replace T1:=Lib.hid (heap_kept T1.out hb nr_)
        replace T2:=Lib.hid (heap_kept T2.out hb nr_)
        replace HX:=Lib.hid (HX.out.below hb)
        replace HY:=Lib.hid (HY.out.below hb)
        clear hb Wc B12
        generalize wc=w13 at *
        have hfl:fl=if (-xh) * (dy:Int) / ((-yh) * (dx:Int))=(-xl) * (dy:Int) / ((-yl) * (dx:Int)) then some ((-xh) * (dy:Int) / ((-yh) * (dx:Int))) else none:=by
         rw [Hf.out]
         unfold flS
         rw [if_pos (show yh≤0 by omega)]
         unfold flE LN.quoL LN.quoH
         rw [if_neg (show ¬ (-yh)≤0 by omega),if_pos (show (-xh) < 0 by omega),if_pos (show (-xl) < 0 by omega)]
        have hsame:=same_itx ((-xh) * (dy:Int) / ((-yh) * (dx:Int))) ((-xl) * (dy:Int) / ((-yl) * (dx:Int)))
        clear Hf
        generalize (-xh) * (dy:Int) / ((-yh) * (dx:Int))=q1 at *
        generalize (-xl) * (dy:Int) / ((-yl) * (dx:Int))=q2 at *
        by_cases hqq:q1=q2
        ·rw [if_pos hqq] at hfl
         rw [decide_eq_true hqq] at hsame
         have Hans:=Lib.hid (Hspec.out _ hfl)
         clear hfl hqq Hspec Hnx
         go_wp2_with fail
         go_ret
         exact ⟨⟨q1,rfl,Hans.out⟩,B13.out⟩
        ·rw [if_neg hqq] at hfl
         rw [decide_eq_false hqq] at hsame
         obtain ⟨hn2,hp2⟩:=Hnx.out hfl
         have Hp2:=Lib.hid hp2
         clear hfl hqq Hspec Hnx hp2
         go_wp2_with fail
         go_roundw
         case rel=>exact ⟨n * 2,Hp2,hn2,rfl,B13,T1,T2,HX,HY⟩
         case measure=>simp [intOf]; omega
       ·have hsg:¬ (-xl).sign < 0:=by have:=sign_cases (-xl); omega
        generalize (-xl).sign=sg at *
        obtain ⟨k0,k1,k2,-⟩:=obj_cells3 T1.out
        obtain ⟨m0,m1,m2,-⟩:=obj_cells3 T2.out
        have s2:=BW.cell k2
        have r2:=BW.cell m2
        have hnon:Nonempty (BW w11):=⟨⟨w11,Below.refl _ _⟩⟩
        have I:Hid (Below w11.heap.size w11 w11.drew):=(Below.refl _ _).drew
        go_wp2_with fail
        clear k0 k1 k2 m0 m1 m2
        refine RX.wp_region_readers 15 [(1,0),(1,1),(1,2),(1,4),(1,5),(1,6),(0,3),(0,7),(0,8),(2,9),(2,10),(2,11),(2,12),(0,13),(0,14),(0,15)] (fun w'=>∃ p:BW w11,w'=p.w) (by kernel_rfl) (by kernel_rfl) ?_ ?_
        ·exact ⟨⟨_,I.out⟩,rfl⟩
        iterate 6 (refine RX.walkR_read ?_; simp only [dsc_,dz_,tsc_,tz_]; go_big_quiet_step (fail); refine wpQuiet_nil ?_)
        clear hnon s2 r2
        refine RX.walkR_move ?_
        simp only [dsc_,dz_,tsc_,tz_]
        go_wp2_with fail
        refine Calls.mono (HMg.out (-xh) _ (by omega) (B11.out.drew)) ?_
        rintro e_ wa ⟨rfl,hb⟩
        have Wa:Hid (Below w11.heap.size w11 wa):=(Below.refl w11.heap.size w11).drew.trans hb
        clear hb I
        go_wp2_with fail
        refine ⟨⟨⟨_,Wa.out⟩,rfl⟩,?_⟩
        refine RX.walkR_move ?_
        simp only [dsc_,dz_,tsc_,tz_]
        go_wp2_with fail
        refine Calls.mono (HMd.out (-yh) _ (by omega) (B11.out.trans (Wa.out.mono B11.out.size))) ?_
        rintro e_ wb ⟨rfl,hb⟩
        have Wb:=Lib.hid (Wa.out.trans (hb.mono Wa.out.size))
        clear hb Wa
        go_wp2_with fail
        refine ⟨⟨⟨_,Wb.out⟩,rfl⟩,?_⟩
        refine RX.walkR_move ?_
        simp only [dsc_,dz_,tsc_,tz_]
        go_wp2_with fail
        refine Calls.mono (HDv.out (-xh) (-yh) _ (by omega) (by omega) (by omega) (B11.out.trans (Wb.out.mono B11.out.size))) ?_
        rintro e_ wc ⟨rfl,hb⟩
        have Wc:=Lib.hid (Wb.out.trans (hb.mono Wb.out.size))
        clear hb Wb
        go_wp2_with fail
        refine ⟨⟨⟨_,Wc.out⟩,rfl⟩,?_⟩
        refine RX.walkR_any ?_
        simp only [dsc_,dz_,tsc_,tz_]
        go_big_quiet_step (fail)
        refine wpQuiet_nil ?_
        refine RX.walkR_any ?_
        simp only [dsc_,dz_,tsc_,tz_]
        go_big_quiet_step (fail)
        refine wpQuiet_nil ?_
        refine RX.walkR_any ?_
        simp only [dsc_,dz_,tsc_,tz_]
        go_big_quiet_step (fail)
        refine wpQuiet_nil ?_
        refine RX.walkR_any ?_
        simp only [dsc_,dz_,tsc_,tz_]
        go_big_quiet_step (fail)
        refine wpQuiet_nil ?_
        refine RX.walkR_move ?_
        simp only [dsc_,dz_,tsc_,tz_]
        go_wp2_with fail
        refine ⟨⟨⟨_,Wc.out⟩,rfl⟩,?_⟩
        refine RX.walkR_move ?_
        simp only [dsc_,dz_,tsc_,tz_]
        go_wp2_with fail
        refine ⟨⟨⟨_,Wc.out⟩,rfl⟩,?_⟩
        refine RX.walkR_move ?_
        simp only [dsc_,dz_,tsc_,tz_]
        go_wp2_with fail
        simp only [RX.walkR]
        have hb:=Wc.out
        have B12:=Lib.hid (B11.out.trans (hb.mono B11.out.size))
        replace T1:=Lib.hid (heap_kept T1.out hb nr_)
        replace T2:=Lib.hid (heap_kept T2.out hb nr_)
        replace HX:=Lib.hid (HX.out.below hb)
        replace HY:=Lib.hid (HY.out.below hb)
        clear hb Wc B11
        generalize wc=w12 at *
        go_wp2_with fail
        obtain ⟨k0,k1,k2,-⟩:=obj_cells3 T1.out
        obtain ⟨m0,m1,m2,-⟩:=obj_cells3 T2.out
        have s2:=BW.cell k2
        have r2:=BW.cell m2
        have hnon:Nonempty (BW w12):=⟨⟨w12,Below.refl _ _⟩⟩
        have I:Hid (Below w12.heap.size w12 w12.drew):=(Below.refl _ _).drew
        go_wp2_with fail
        clear k0 k1 k2 m0 m1 m2
        refine RX.wp_region_readers 15 [(1,0),(1,1),(1,2),(1,4),(1,5),(1,6),(0,3),(0,7),(0,8),(2,9),(2,10),(2,11),(2,12),(0,13),(0,14),(0,15)] (fun w'=>∃ p:BW w12,w'=p.w) (by kernel_rfl) (by kernel_rfl) ?_ ?_
        ·exact ⟨⟨_,I.out⟩,rfl⟩
        iterate 6 (refine RX.walkR_read ?_; simp only [dsc_,dz_,tsc_,tz_]; go_big_quiet_step (fail); refine wpQuiet_nil ?_)
        clear hnon s2 r2
        refine RX.walkR_move ?_
        simp only [dsc_,dz_,tsc_,tz_]
        go_wp2_with fail
        refine Calls.mono (HMg.out (-xl) _ (by omega) (B12.out.drew)) ?_
        rintro e_ wa ⟨rfl,hb⟩
        have Wa:Hid (Below w12.heap.size w12 wa):=(Below.refl w12.heap.size w12).drew.trans hb
        clear hb I
        go_wp2_with fail
        refine ⟨⟨⟨_,Wa.out⟩,rfl⟩,?_⟩
        refine RX.walkR_move ?_
        simp only [dsc_,dz_,tsc_,tz_]
        go_wp2_with fail
        refine Calls.mono (HMd.out (-yh) _ (by omega) (B12.out.trans (Wa.out.mono B12.out.size))) ?_
        rintro e_ wb ⟨rfl,hb⟩
        have Wb:=Lib.hid (Wa.out.trans (hb.mono Wa.out.size))
        clear hb Wa
        go_wp2_with fail
        refine ⟨⟨⟨_,Wb.out⟩,rfl⟩,?_⟩
        refine RX.walkR_move ?_
        simp only [dsc_,dz_,tsc_,tz_]
        go_wp2_with fail
        refine Calls.mono (HDv.out (-xl) (-yh) _ (by omega) (by omega) (by omega) (B12.out.trans (Wb.out.mono B12.out.size))) ?_
        rintro e_ wc ⟨rfl,hb⟩
        have Wc:=Lib.hid (Wb.out.trans (hb.mono Wb.out.size))
        clear hb Wb
        go_wp2_with fail
        refine ⟨⟨⟨_,Wc.out⟩,rfl⟩,?_⟩
        refine RX.walkR_any ?_
        simp only [dsc_,dz_,tsc_,tz_]
        go_big_quiet_step (fail)
        refine wpQuiet_nil ?_
        refine RX.walkR_any ?_
        simp only [dsc_,dz_,tsc_,tz_]
        go_big_quiet_step (fail)
        refine wpQuiet_nil ?_
        refine RX.walkR_any ?_
        simp only [dsc_,dz_,tsc_,tz_]
        go_big_quiet_step (fail)
        refine wpQuiet_nil ?_
        refine RX.walkR_any ?_
        simp only [dsc_,dz_,tsc_,tz_]
        go_big_quiet_step (fail)
        refine wpQuiet_nil ?_
        refine RX.walkR_move ?_
        simp only [dsc_,dz_,tsc_,tz_]
        go_wp2_with fail
        refine ⟨⟨⟨_,Wc.out⟩,rfl⟩,?_⟩
        refine RX.walkR_move ?_
        simp only [dsc_,dz_,tsc_,tz_]
        go_wp2_with fail
        refine ⟨⟨⟨_,Wc.out⟩,rfl⟩,?_⟩
        refine RX.walkR_move ?_
        simp only [dsc_,dz_,tsc_,tz_]
        go_wp2_with fail
        simp only [RX.walkR]
        have hb:=Wc.out
        have B13:=Lib.hid (B12.out.trans (hb.mono B12.out.size))
        replace T1:=Lib.hid (heap_kept T1.out hb nr_)
        replace T2:=Lib.hid (heap_kept T2.out hb nr_)
        replace HX:=Lib.hid (HX.out.below hb)
        replace HY:=Lib.hid (HY.out.below hb)
        clear hb Wc B12
        generalize wc=w13 at *
        have hfl:fl=if (-xh) * (dy:Int) / ((-yh) * (dx:Int))=(-xl) * (dy:Int) / ((-yh) * (dx:Int)) then some ((-xh) * (dy:Int) / ((-yh) * (dx:Int))) else none:=by
         rw [Hf.out]
         unfold flS
         rw [if_pos (show yh≤0 by omega)]
         unfold flE LN.quoL LN.quoH
         rw [if_neg (show ¬ (-yh)≤0 by omega),if_pos (show (-xh) < 0 by omega),if_neg (show ¬ (-xl) < 0 by omega)]
        have hsame:=same_itx ((-xh) * (dy:Int) / ((-yh) * (dx:Int))) ((-xl) * (dy:Int) / ((-yh) * (dx:Int)))
        clear Hf
        generalize (-xh) * (dy:Int) / ((-yh) * (dx:Int))=q1 at *
        generalize (-xl) * (dy:Int) / ((-yh) * (dx:Int))=q2 at *
        by_cases hqq:q1=q2
        ·rw [if_pos hqq] at hfl
         rw [decide_eq_true hqq] at hsame
         have Hans:=Lib.hid (Hspec.out _ hfl)
         clear hfl hqq Hspec Hnx
         go_wp2_with fail
         go_ret
         exact ⟨⟨q1,rfl,Hans.out⟩,B13.out⟩
        ·rw [if_neg hqq] at hfl
         rw [decide_eq_false hqq] at hsame
         obtain ⟨hn2,hp2⟩:=Hnx.out hfl
         have Hp2:=Lib.hid hp2
         clear hfl hqq Hspec Hnx hp2
         go_wp2_with fail
         go_roundw
         case rel=>exact ⟨n * 2,Hp2,hn2,rfl,B13,T1,T2,HX,HY⟩
         case measure=>simp [intOf]; omega
      ·have hsg:¬ (-xh).sign < 0:=by have:=sign_cases (-xh); omega
       generalize (-xh).sign=sg at *
       go_wp2_with fail
       clear hsg
       refine Calls.mono (HS.out (-xl) _) ?_
       rintro e_ w11 ⟨rfl,hb⟩
       have B11:=Lib.hid (B10.out.trans (hb.mono B10.out.size))
       replace T1:=Lib.hid (heap_kept T1.out hb nr_)
       replace T2:=Lib.hid (heap_kept T2.out hb nr_)
       replace HX:=Lib.hid (HX.out.below hb)
       replace HY:=Lib.hid (HY.out.below hb)
       clear hb B10
       by_cases hx2:(-xl) < 0
       ·have hsg:(-xl).sign < 0:=by have:=sign_cases (-xl); omega
        generalize (-xl).sign=sg at *
        obtain ⟨k0,k1,k2,-⟩:=obj_cells3 T1.out
        obtain ⟨m0,m1,m2,-⟩:=obj_cells3 T2.out
        have s2:=BW.cell k2
        have r2:=BW.cell m2
        have hnon:Nonempty (BW w11):=⟨⟨w11,Below.refl _ _⟩⟩
        have I:Hid (Below w11.heap.size w11 w11.drew):=(Below.refl _ _).drew
        go_wp2_with fail
        clear k0 k1 k2 m0 m1 m2
        refine RX.wp_region_readers 15 [(1,0),(1,1),(1,2),(1,4),(1,5),(1,6),(0,3),(0,7),(0,8),(2,9),(2,10),(2,11),(2,12),(0,13),(0,14),(0,15)] (fun w'=>∃ p:BW w11,w'=p.w) (by kernel_rfl) (by kernel_rfl) ?_ ?_
        ·exact ⟨⟨_,I.out⟩,rfl⟩
        iterate 6 (refine RX.walkR_read ?_; simp only [dsc_,dz_,tsc_,tz_]; go_big_quiet_step (fail); refine wpQuiet_nil ?_)
        clear hnon s2 r2
        refine RX.walkR_move ?_
        simp only [dsc_,dz_,tsc_,tz_]
        go_wp2_with fail
        refine Calls.mono (HMg.out (-xh) _ (by omega) (B11.out.drew)) ?_
        rintro e_ wa ⟨rfl,hb⟩
        have Wa:Hid (Below w11.heap.size w11 wa):=(Below.refl w11.heap.size w11).drew.trans hb
        clear hb I
        go_wp2_with fail
        refine ⟨⟨⟨_,Wa.out⟩,rfl⟩,?_⟩
        refine RX.walkR_move ?_
        simp only [dsc_,dz_,tsc_,tz_]
        go_wp2_with fail
        refine Calls.mono (HMd.out (-yl) _ (by omega) (B11.out.trans (Wa.out.mono B11.out.size))) ?_
        rintro e_ wb ⟨rfl,hb⟩
        have Wb:=Lib.hid (Wa.out.trans (hb.mono Wa.out.size))
        clear hb Wa
        go_wp2_with fail
        refine ⟨⟨⟨_,Wb.out⟩,rfl⟩,?_⟩
        refine RX.walkR_move ?_
        simp only [dsc_,dz_,tsc_,tz_]
        go_wp2_with fail
        refine Calls.mono (HDv.out (-xh) (-yl) _ (by omega) (by omega) (by omega) (B11.out.trans (Wb.out.mono B11.out.size))) ?_
        rintro e_ wc ⟨rfl,hb⟩
        have Wc:=Lib.hid (Wb.out.trans (hb.mono Wb.out.size))
        clear hb Wb
        go_wp2_with fail
        refine ⟨⟨⟨_,Wc.out⟩,rfl⟩,?_⟩
        refine RX.walkR_any ?_
        simp only [dsc_,dz_,tsc_,tz_]
        go_big_quiet_step (fail)
        refine wpQuiet_nil ?_
        refine RX.walkR_any ?_
        simp only [dsc_,dz_,tsc_,tz_]
        go_big_quiet_step (fail)
        refine wpQuiet_nil ?_
        refine RX.walkR_any ?_
        simp only [dsc_,dz_,tsc_,tz_]
        go_big_quiet_step (fail)
        refine wpQuiet_nil ?_
        refine RX.walkR_any ?_
        simp only [dsc_,dz_,tsc_,tz_]
        go_big_quiet_step (fail)
        refine wpQuiet_nil ?_
        refine RX.walkR_move ?_
        simp only [dsc_,dz_,tsc_,tz_]
        go_wp2_with fail
        refine ⟨⟨⟨_,Wc.out⟩,rfl⟩,?_⟩
        refine RX.walkR_move ?_
        simp only [dsc_,dz_,tsc_,tz_]
        go_wp2_with fail
        refine ⟨⟨⟨_,Wc.out⟩,rfl⟩,?_⟩
        refine RX.walkR_move ?_
        simp only [dsc_,dz_,tsc_,tz_]
        go_wp2_with fail
        simp only [RX.walkR]
        have hb:=Wc.out
        have B12:=Lib.hid (B11.out.trans (hb.mono B11.out.size))
        replace T1:=Lib.hid (heap_kept T1.out hb nr_)
        replace T2:=Lib.hid (heap_kept T2.out hb nr_)
        replace HX:=Lib.hid (HX.out.below hb)
        replace HY:=Lib.hid (HY.out.below hb)
        clear hb Wc B11
        generalize wc=w12 at *
        go_wp2_with fail
        obtain ⟨k0,k1,k2,-⟩:=obj_cells3 T1.out
        obtain ⟨m0,m1,m2,-⟩:=obj_cells3 T2.out
        have s2:=BW.cell k2
        have r2:=BW.cell m2
        have hnon:Nonempty (BW w12):=⟨⟨w12,Below.refl _ _⟩⟩
        have I:Hid (Below w12.heap.size w12 w12.drew):=(Below.refl _ _).drew
        go_wp2_with fail
        clear k0 k1 k2 m0 m1 m2
        refine RX.wp_region_readers 15 [(1,0),(1,1),(1,2),(1,4),(1,5),(1,6),(0,3),(0,7),(0,8),(2,9),(2,10),(2,11),(2,12),(0,13),(0,14),(0,15)] (fun w'=>∃ p:BW w12,w'=p.w) (by kernel_rfl) (by kernel_rfl) ?_ ?_
        ·exact ⟨⟨_,I.out⟩,rfl⟩
        iterate 6 (refine RX.walkR_read ?_; simp only [dsc_,dz_,tsc_,tz_]; go_big_quiet_step (fail); refine wpQuiet_nil ?_)
        clear hnon s2 r2
        refine RX.walkR_move ?_
        simp only [dsc_,dz_,tsc_,tz_]
        go_wp2_with fail
        refine Calls.mono (HMg.out (-xl) _ (by omega) (B12.out.drew)) ?_
        rintro e_ wa ⟨rfl,hb⟩
        have Wa:Hid (Below w12.heap.size w12 wa):=(Below.refl w12.heap.size w12).drew.trans hb
        clear hb I
        go_wp2_with fail
        refine ⟨⟨⟨_,Wa.out⟩,rfl⟩,?_⟩
        refine RX.walkR_move ?_
        simp only [dsc_,dz_,tsc_,tz_]
        go_wp2_with fail
        refine Calls.mono (HMd.out (-yl) _ (by omega) (B12.out.trans (Wa.out.mono B12.out.size))) ?_
        rintro e_ wb ⟨rfl,hb⟩
        have Wb:=Lib.hid (Wa.out.trans (hb.mono Wa.out.size))
        clear hb Wa
        go_wp2_with fail
        refine ⟨⟨⟨_,Wb.out⟩,rfl⟩,?_⟩
        refine RX.walkR_move ?_
        simp only [dsc_,dz_,tsc_,tz_]
        go_wp2_with fail
        refine Calls.mono (HDv.out (-xl) (-yl) _ (by omega) (by omega) (by omega) (B12.out.trans (Wb.out.mono B12.out.size))) ?_
        rintro e_ wc ⟨rfl,hb⟩
        have Wc:=Lib.hid (Wb.out.trans (hb.mono Wb.out.size))
        clear hb Wb
        go_wp2_with fail
        refine ⟨⟨⟨_,Wc.out⟩,rfl⟩,?_⟩
        refine RX.walkR_any ?_
        simp only [dsc_,dz_,tsc_,tz_]
        go_big_quiet_step (fail)
        refine wpQuiet_nil ?_
        refine RX.walkR_any ?_
        simp only [dsc_,dz_,tsc_,tz_]
        go_big_quiet_step (fail)
        refine wpQuiet_nil ?_
        refine RX.walkR_any ?_
        simp only [dsc_,dz_,tsc_,tz_]
        go_big_quiet_step (fail)
        refine wpQuiet_nil ?_
        refine RX.walkR_any ?_
        simp only [dsc_,dz_,tsc_,tz_]
        go_big_quiet_step (fail)
        refine wpQuiet_nil ?_
        refine RX.walkR_move ?_
        simp only [dsc_,dz_,tsc_,tz_]
        go_wp2_with fail
        refine ⟨⟨⟨_,Wc.out⟩,rfl⟩,?_⟩
        refine RX.walkR_move ?_
        simp only [dsc_,dz_,tsc_,tz_]
        go_wp2_with fail
        refine ⟨⟨⟨_,Wc.out⟩,rfl⟩,?_⟩
        refine RX.walkR_move ?_
        simp only [dsc_,dz_,tsc_,tz_]
        go_wp2_with fail
        simp only [RX.walkR]
        have hb:=Wc.out
        have B13:=Lib.hid (B12.out.trans (hb.mono B12.out.size))
        replace T1:=Lib.hid (heap_kept T1.out hb nr_)
        replace T2:=Lib.hid (heap_kept T2.out hb nr_)
        replace HX:=Lib.hid (HX.out.below hb)
        replace HY:=Lib.hid (HY.out.below hb)
        clear hb Wc B12
        generalize wc=w13 at *
        have hfl:fl=if (-xh) * (dy:Int) / ((-yl) * (dx:Int))=(-xl) * (dy:Int) / ((-yl) * (dx:Int)) then some ((-xh) * (dy:Int) / ((-yl) * (dx:Int))) else none:=by
         rw [Hf.out]
         unfold flS
         rw [if_pos (show yh≤0 by omega)]
         unfold flE LN.quoL LN.quoH
         rw [if_neg (show ¬ (-yh)≤0 by omega),if_neg (show ¬ (-xh) < 0 by omega),if_pos (show (-xl) < 0 by omega)]
        have hsame:=same_itx ((-xh) * (dy:Int) / ((-yl) * (dx:Int))) ((-xl) * (dy:Int) / ((-yl) * (dx:Int)))
        clear Hf
        generalize (-xh) * (dy:Int) / ((-yl) * (dx:Int))=q1 at *
        generalize (-xl) * (dy:Int) / ((-yl) * (dx:Int))=q2 at *
        by_cases hqq:q1=q2
        ·rw [if_pos hqq] at hfl
         rw [decide_eq_true hqq] at hsame
         have Hans:=Lib.hid (Hspec.out _ hfl)
         clear hfl hqq Hspec Hnx
         go_wp2_with fail
         go_ret
         exact ⟨⟨q1,rfl,Hans.out⟩,B13.out⟩
        ·rw [if_neg hqq] at hfl
         rw [decide_eq_false hqq] at hsame
         obtain ⟨hn2,hp2⟩:=Hnx.out hfl
         have Hp2:=Lib.hid hp2
         clear hfl hqq Hspec Hnx hp2
         go_wp2_with fail
         go_roundw
         case rel=>exact ⟨n * 2,Hp2,hn2,rfl,B13,T1,T2,HX,HY⟩
         case measure=>simp [intOf]; omega
       ·have hsg:¬ (-xl).sign < 0:=by have:=sign_cases (-xl); omega
        generalize (-xl).sign=sg at *
        obtain ⟨k0,k1,k2,-⟩:=obj_cells3 T1.out
        obtain ⟨m0,m1,m2,-⟩:=obj_cells3 T2.out
        have s2:=BW.cell k2
        have r2:=BW.cell m2
        have hnon:Nonempty (BW w11):=⟨⟨w11,Below.refl _ _⟩⟩
        have I:Hid (Below w11.heap.size w11 w11.drew):=(Below.refl _ _).drew
        go_wp2_with fail
        clear k0 k1 k2 m0 m1 m2
        refine RX.wp_region_readers 15 [(1,0),(1,1),(1,2),(1,4),(1,5),(1,6),(0,3),(0,7),(0,8),(2,9),(2,10),(2,11),(2,12),(0,13),(0,14),(0,15)] (fun w'=>∃ p:BW w11,w'=p.w) (by kernel_rfl) (by kernel_rfl) ?_ ?_
        ·exact ⟨⟨_,I.out⟩,rfl⟩
        iterate 6 (refine RX.walkR_read ?_; simp only [dsc_,dz_,tsc_,tz_]; go_big_quiet_step (fail); refine wpQuiet_nil ?_)
        clear hnon s2 r2
        refine RX.walkR_move ?_
        simp only [dsc_,dz_,tsc_,tz_]
        go_wp2_with fail
        refine Calls.mono (HMg.out (-xh) _ (by omega) (B11.out.drew)) ?_
        rintro e_ wa ⟨rfl,hb⟩
        have Wa:Hid (Below w11.heap.size w11 wa):=(Below.refl w11.heap.size w11).drew.trans hb
        clear hb I
        go_wp2_with fail
        refine ⟨⟨⟨_,Wa.out⟩,rfl⟩,?_⟩
        refine RX.walkR_move ?_
        simp only [dsc_,dz_,tsc_,tz_]
        go_wp2_with fail
        refine Calls.mono (HMd.out (-yl) _ (by omega) (B11.out.trans (Wa.out.mono B11.out.size))) ?_
        rintro e_ wb ⟨rfl,hb⟩
        have Wb:=Lib.hid (Wa.out.trans (hb.mono Wa.out.size))
        clear hb Wa
        go_wp2_with fail
        refine ⟨⟨⟨_,Wb.out⟩,rfl⟩,?_⟩
        refine RX.walkR_move ?_
        simp only [dsc_,dz_,tsc_,tz_]
        go_wp2_with fail
        refine Calls.mono (HDv.out (-xh) (-yl) _ (by omega) (by omega) (by omega) (B11.out.trans (Wb.out.mono B11.out.size))) ?_
        rintro e_ wc ⟨rfl,hb⟩
        have Wc:=Lib.hid (Wb.out.trans (hb.mono Wb.out.size))
        clear hb Wb
        go_wp2_with fail
        refine ⟨⟨⟨_,Wc.out⟩,rfl⟩,?_⟩
        refine RX.walkR_any ?_
        simp only [dsc_,dz_,tsc_,tz_]
        go_big_quiet_step (fail)
        refine wpQuiet_nil ?_
        refine RX.walkR_any ?_
        simp only [dsc_,dz_,tsc_,tz_]
        go_big_quiet_step (fail)
        refine wpQuiet_nil ?_
        refine RX.walkR_any ?_
        simp only [dsc_,dz_,tsc_,tz_]
        go_big_quiet_step (fail)
        refine wpQuiet_nil ?_
        refine RX.walkR_any ?_
        simp only [dsc_,dz_,tsc_,tz_]
        go_big_quiet_step (fail)
        refine wpQuiet_nil ?_
        refine RX.walkR_move ?_
        simp only [dsc_,dz_,tsc_,tz_]
        go_wp2_with fail
        refine ⟨⟨⟨_,Wc.out⟩,rfl⟩,?_⟩
        refine RX.walkR_move ?_
        simp only [dsc_,dz_,tsc_,tz_]
        go_wp2_with fail
        refine ⟨⟨⟨_,Wc.out⟩,rfl⟩,?_⟩
        refine RX.walkR_move ?_
        simp only [dsc_,dz_,tsc_,tz_]
        go_wp2_with fail
        simp only [RX.walkR]
        have hb:=Wc.out
        have B12:=Lib.hid (B11.out.trans (hb.mono B11.out.size))
        replace T1:=Lib.hid (heap_kept T1.out hb nr_)
        replace T2:=Lib.hid (heap_kept T2.out hb nr_)
        replace HX:=Lib.hid (HX.out.below hb)
        replace HY:=Lib.hid (HY.out.below hb)
        clear hb Wc B11
        generalize wc=w12 at *
        go_wp2_with fail
        obtain ⟨k0,k1,k2,-⟩:=obj_cells3 T1.out
        obtain ⟨m0,m1,m2,-⟩:=obj_cells3 T2.out
        have s2:=BW.cell k2
        have r2:=BW.cell m2
        have hnon:Nonempty (BW w12):=⟨⟨w12,Below.refl _ _⟩⟩
        have I:Hid (Below w12.heap.size w12 w12.drew):=(Below.refl _ _).drew
        go_wp2_with fail
        clear k0 k1 k2 m0 m1 m2
        refine RX.wp_region_readers 15 [(1,0),(1,1),(1,2),(1,4),(1,5),(1,6),(0,3),(0,7),(0,8),(2,9),(2,10),(2,11),(2,12),(0,13),(0,14),(0,15)] (fun w'=>∃ p:BW w12,w'=p.w) (by kernel_rfl) (by kernel_rfl) ?_ ?_
        ·exact ⟨⟨_,I.out⟩,rfl⟩
        iterate 6 (refine RX.walkR_read ?_; simp only [dsc_,dz_,tsc_,tz_]; go_big_quiet_step (fail); refine wpQuiet_nil ?_)
        clear hnon s2 r2
        refine RX.walkR_move ?_
        simp only [dsc_,dz_,tsc_,tz_]
        go_wp2_with fail
        refine Calls.mono (HMg.out (-xl) _ (by omega) (B12.out.drew)) ?_
        rintro e_ wa ⟨rfl,hb⟩
        have Wa:Hid (Below w12.heap.size w12 wa):=(Below.refl w12.heap.size w12).drew.trans hb
        clear hb I
        go_wp2_with fail
        refine ⟨⟨⟨_,Wa.out⟩,rfl⟩,?_⟩
        refine RX.walkR_move ?_
        simp only [dsc_,dz_,tsc_,tz_]
        go_wp2_with fail
        refine Calls.mono (HMd.out (-yh) _ (by omega) (B12.out.trans (Wa.out.mono B12.out.size))) ?_
        rintro e_ wb ⟨rfl,hb⟩
        have Wb:=Lib.hid (Wa.out.trans (hb.mono Wa.out.size))
        clear hb Wa
        go_wp2_with fail
        refine ⟨⟨⟨_,Wb.out⟩,rfl⟩,?_⟩
        refine RX.walkR_move ?_
        simp only [dsc_,dz_,tsc_,tz_]
        go_wp2_with fail
        refine Calls.mono (HDv.out (-xl) (-yh) _ (by omega) (by omega) (by omega) (B12.out.trans (Wb.out.mono B12.out.size))) ?_
        rintro e_ wc ⟨rfl,hb⟩
        have Wc:=Lib.hid (Wb.out.trans (hb.mono Wb.out.size))
        clear hb Wb
        go_wp2_with fail
        refine ⟨⟨⟨_,Wc.out⟩,rfl⟩,?_⟩
        refine RX.walkR_any ?_
        simp only [dsc_,dz_,tsc_,tz_]
        go_big_quiet_step (fail)
        refine wpQuiet_nil ?_
        refine RX.walkR_any ?_
        simp only [dsc_,dz_,tsc_,tz_]
        go_big_quiet_step (fail)
        refine wpQuiet_nil ?_
        refine RX.walkR_any ?_
        simp only [dsc_,dz_,tsc_,tz_]
        go_big_quiet_step (fail)
        refine wpQuiet_nil ?_
        refine RX.walkR_any ?_
        simp only [dsc_,dz_,tsc_,tz_]
        go_big_quiet_step (fail)
        refine wpQuiet_nil ?_
        refine RX.walkR_move ?_
        simp only [dsc_,dz_,tsc_,tz_]
        go_wp2_with fail
        refine ⟨⟨⟨_,Wc.out⟩,rfl⟩,?_⟩
        refine RX.walkR_move ?_
        simp only [dsc_,dz_,tsc_,tz_]
        go_wp2_with fail
        refine ⟨⟨⟨_,Wc.out⟩,rfl⟩,?_⟩
        refine RX.walkR_move ?_
        simp only [dsc_,dz_,tsc_,tz_]
        go_wp2_with fail
        simp only [RX.walkR]
        have hb:=Wc.out
        have B13:=Lib.hid (B12.out.trans (hb.mono B12.out.size))
        replace T1:=Lib.hid (heap_kept T1.out hb nr_)
        replace T2:=Lib.hid (heap_kept T2.out hb nr_)
        replace HX:=Lib.hid (HX.out.below hb)
        replace HY:=Lib.hid (HY.out.below hb)
        clear hb Wc B12
        generalize wc=w13 at *
        have hfl:fl=if (-xh) * (dy:Int) / ((-yl) * (dx:Int))=(-xl) * (dy:Int) / ((-yh) * (dx:Int)) then some ((-xh) * (dy:Int) / ((-yl) * (dx:Int))) else none:=by
         rw [Hf.out]
         unfold flS
         rw [if_pos (show yh≤0 by omega)]
         unfold flE LN.quoL LN.quoH
         rw [if_neg (show ¬ (-yh)≤0 by omega),if_neg (show ¬ (-xh) < 0 by omega),if_neg (show ¬ (-xl) < 0 by omega)]
        have hsame:=same_itx ((-xh) * (dy:Int) / ((-yl) * (dx:Int))) ((-xl) * (dy:Int) / ((-yh) * (dx:Int)))
        clear Hf
        generalize (-xh) * (dy:Int) / ((-yl) * (dx:Int))=q1 at *
        generalize (-xl) * (dy:Int) / ((-yh) * (dx:Int))=q2 at *
        by_cases hqq:q1=q2
        ·rw [if_pos hqq] at hfl
         rw [decide_eq_true hqq] at hsame
         have Hans:=Lib.hid (Hspec.out _ hfl)
         clear hfl hqq Hspec Hnx
         go_wp2_with fail
         go_ret
         exact ⟨⟨q1,rfl,Hans.out⟩,B13.out⟩
        ·rw [if_neg hqq] at hfl
         rw [decide_eq_false hqq] at hsame
         obtain ⟨hn2,hp2⟩:=Hnx.out hfl
         have Hp2:=Lib.hid hp2
         clear hfl hqq Hspec Hnx hp2
         go_wp2_with fail
         go_roundw
         case rel=>exact ⟨n * 2,Hp2,hn2,rfl,B13,T1,T2,HX,HY⟩
         case measure=>simp [intOf]; omega
    ·have hsg0:¬ yh.sign≤0:=by have:=sign_cases yh; omega
     generalize yh.sign=sg0 at *
     go_wp2_with fail
     refine Calls.mono (HS.out yl _) ?_
     rintro e_ w5 ⟨rfl,hb⟩
     have B5:=Lib.hid (B4.out.trans (hb.mono B4.out.size))
     replace T1:=Lib.hid (heap_kept T1.out hb nr_)
     replace T2:=Lib.hid (heap_kept T2.out hb nr_)
     replace HX:=Lib.hid (HX.out.below hb)
     replace HY:=Lib.hid (HY.out.below hb)
     clear hb B4
     by_cases hyl2:yl≤0
     ·have hsg:yl.sign≤0:=by have:=sign_cases yl; omega
      have hfl:fl=none:=by
       rw [Hf.out]
       unfold flS
       rw [if_neg (by omega)]
       unfold flE
       rw [if_pos (by omega)]
      obtain ⟨hn2,hp2⟩:=Hnx.out hfl
      have Hp2:=Lib.hid hp2
      clear hfl Hspec Hnx hp2 Hf
      generalize yl.sign=sg at *
      go_wp2_with fail
      go_roundw
      case rel=>exact ⟨n * 2,Hp2,hn2,rfl,B5,T1,T2,HX,HY⟩
      case measure=>simp [intOf]; omega
     ·have hsg:0 < yl.sign:=by have:=sign_cases yl; omega
      generalize yl.sign=sg at *
      go_wp2_with fail
      clear hsg
      refine Calls.mono (HS.out xl _) ?_
      rintro e_ w6 ⟨rfl,hb⟩
      have B6:=Lib.hid (B5.out.trans (hb.mono B5.out.size))
      replace T1:=Lib.hid (heap_kept T1.out hb nr_)
      replace T2:=Lib.hid (heap_kept T2.out hb nr_)
      replace HX:=Lib.hid (HX.out.below hb)
      replace HY:=Lib.hid (HY.out.below hb)
      clear hb B5
      by_cases hx1:xl < 0
      ·have hsg:xl.sign < 0:=by have:=sign_cases xl; omega
       generalize xl.sign=sg at *
       go_wp2_with fail
       clear hsg
       refine Calls.mono (HS.out xh _) ?_
       rintro e_ w7 ⟨rfl,hb⟩
       have B7:=Lib.hid (B6.out.trans (hb.mono B6.out.size))
       replace T1:=Lib.hid (heap_kept T1.out hb nr_)
       replace T2:=Lib.hid (heap_kept T2.out hb nr_)
       replace HX:=Lib.hid (HX.out.below hb)
       replace HY:=Lib.hid (HY.out.below hb)
       clear hb B6
       by_cases hx2:xh < 0
       ·have hsg:xh.sign < 0:=by have:=sign_cases xh; omega
        generalize xh.sign=sg at *
        obtain ⟨k0,k1,k2,-⟩:=obj_cells3 T1.out
        obtain ⟨m0,m1,m2,-⟩:=obj_cells3 T2.out
        have s2:=BW.cell k2
        have r2:=BW.cell m2
        have hnon:Nonempty (BW w7):=⟨⟨w7,Below.refl _ _⟩⟩
        have I:Hid (Below w7.heap.size w7 w7.drew):=(Below.refl _ _).drew
        go_wp2_with fail
        clear k0 k1 k2 m0 m1 m2
        refine RX.wp_region_readers 15 [(1,0),(1,1),(1,2),(1,4),(1,5),(1,6),(0,3),(0,7),(0,8),(2,9),(2,10),(2,11),(2,12),(0,13),(0,14),(0,15)] (fun w'=>∃ p:BW w7,w'=p.w) (by kernel_rfl) (by kernel_rfl) ?_ ?_
        ·exact ⟨⟨_,I.out⟩,rfl⟩
        iterate 6 (refine RX.walkR_read ?_; simp only [dsc_,dz_,tsc_,tz_]; go_big_quiet_step (fail); refine wpQuiet_nil ?_)
        clear hnon s2 r2
        refine RX.walkR_move ?_
        simp only [dsc_,dz_,tsc_,tz_]
        go_wp2_with fail
        refine Calls.mono (HMg.out xl _ (by omega) (B7.out.drew)) ?_
        rintro e_ wa ⟨rfl,hb⟩
        have Wa:Hid (Below w7.heap.size w7 wa):=(Below.refl w7.heap.size w7).drew.trans hb
        clear hb I
        go_wp2_with fail
        refine ⟨⟨⟨_,Wa.out⟩,rfl⟩,?_⟩
        refine RX.walkR_move ?_
        simp only [dsc_,dz_,tsc_,tz_]
        go_wp2_with fail
        refine Calls.mono (HMd.out yl _ (by omega) (B7.out.trans (Wa.out.mono B7.out.size))) ?_
        rintro e_ wb ⟨rfl,hb⟩
        have Wb:=Lib.hid (Wa.out.trans (hb.mono Wa.out.size))
        clear hb Wa
        go_wp2_with fail
        refine ⟨⟨⟨_,Wb.out⟩,rfl⟩,?_⟩
        refine RX.walkR_move ?_
        simp only [dsc_,dz_,tsc_,tz_]
        go_wp2_with fail
        refine Calls.mono (HDv.out xl yl _ (by omega) (by omega) (by omega) (B7.out.trans (Wb.out.mono B7.out.size))) ?_
        rintro e_ wc ⟨rfl,hb⟩
        have Wc:=Lib.hid (Wb.out.trans (hb.mono Wb.out.size))
        clear hb Wb
        go_wp2_with fail
        refine ⟨⟨⟨_,Wc.out⟩,rfl⟩,?_⟩
        refine RX.walkR_any ?_
        simp only [dsc_,dz_,tsc_,tz_]
        go_big_quiet_step (fail)
        refine wpQuiet_nil ?_
        refine RX.walkR_any ?_
        simp only [dsc_,dz_,tsc_,tz_]
        go_big_quiet_step (fail)
        refine wpQuiet_nil ?_
        refine RX.walkR_any ?_
        simp only [dsc_,dz_,tsc_,tz_]
        go_big_quiet_step (fail)
        refine wpQuiet_nil ?_
        refine RX.walkR_any ?_
        simp only [dsc_,dz_,tsc_,tz_]
        go_big_quiet_step (fail)
        refine wpQuiet_nil ?_
        refine RX.walkR_move ?_
        simp only [dsc_,dz_,tsc_,tz_]
        go_wp2_with fail
        refine ⟨⟨⟨_,Wc.out⟩,rfl⟩,?_⟩
        refine RX.walkR_move ?_
        simp only [dsc_,dz_,tsc_,tz_]
        go_wp2_with fail
        refine ⟨⟨⟨_,Wc.out⟩,rfl⟩,?_⟩
        refine RX.walkR_move ?_
        simp only [dsc_,dz_,tsc_,tz_]
        go_wp2_with fail
        simp only [RX.walkR]
        have hb:=Wc.out
        have B8:=Lib.hid (B7.out.trans (hb.mono B7.out.size))
        replace T1:=Lib.hid (heap_kept T1.out hb nr_)
        replace T2:=Lib.hid (heap_kept T2.out hb nr_)
        replace HX:=Lib.hid (HX.out.below hb)
        replace HY:=Lib.hid (HY.out.below hb)
        clear hb Wc B7
        generalize wc=w8 at *
        go_wp2_with fail
        obtain ⟨k0,k1,k2,-⟩:=obj_cells3 T1.out
        obtain ⟨m0,m1,m2,-⟩:=obj_cells3 T2.out
        have s2:=BW.cell k2
        have r2:=BW.cell m2
        have hnon:Nonempty (BW w8):=⟨⟨w8,Below.refl _ _⟩⟩
        have I:Hid (Below w8.heap.size w8 w8.drew):=(Below.refl _ _).drew
        go_wp2_with fail
        clear k0 k1 k2 m0 m1 m2
        refine RX.wp_region_readers 15 [(1,0),(1,1),(1,2),(1,4),(1,5),(1,6),(0,3),(0,7),(0,8),(2,9),(2,10),(2,11),(2,12),(0,13),(0,14),(0,15)] (fun w'=>∃ p:BW w8,w'=p.w) (by kernel_rfl) (by kernel_rfl) ?_ ?_
        ·exact ⟨⟨_,I.out⟩,rfl⟩
        iterate 6 (refine RX.walkR_read ?_; simp only [dsc_,dz_,tsc_,tz_]; go_big_quiet_step (fail); refine wpQuiet_nil ?_)
        clear hnon s2 r2
        refine RX.walkR_move ?_
        simp only [dsc_,dz_,tsc_,tz_]
        go_wp2_with fail
        refine Calls.mono (HMg.out xh _ (by omega) (B8.out.drew)) ?_
        rintro e_ wa ⟨rfl,hb⟩
        have Wa:Hid (Below w8.heap.size w8 wa):=(Below.refl w8.heap.size w8).drew.trans hb
        clear hb I
        go_wp2_with fail
        refine ⟨⟨⟨_,Wa.out⟩,rfl⟩,?_⟩
        refine RX.walkR_move ?_
        simp only [dsc_,dz_,tsc_,tz_]
        go_wp2_with fail
        refine Calls.mono (HMd.out yh _ (by omega) (B8.out.trans (Wa.out.mono B8.out.size))) ?_
        rintro e_ wb ⟨rfl,hb⟩
        have Wb:=Lib.hid (Wa.out.trans (hb.mono Wa.out.size))
        clear hb Wa
        go_wp2_with fail
        refine ⟨⟨⟨_,Wb.out⟩,rfl⟩,?_⟩
        refine RX.walkR_move ?_
        simp only [dsc_,dz_,tsc_,tz_]
        go_wp2_with fail
        refine Calls.mono (HDv.out xh yh _ (by omega) (by omega) (by omega) (B8.out.trans (Wb.out.mono B8.out.size))) ?_
        rintro e_ wc ⟨rfl,hb⟩
        have Wc:=Lib.hid (Wb.out.trans (hb.mono Wb.out.size))
        clear hb Wb
        go_wp2_with fail
        refine ⟨⟨⟨_,Wc.out⟩,rfl⟩,?_⟩
        refine RX.walkR_any ?_
        simp only [dsc_,dz_,tsc_,tz_]
        go_big_quiet_step (fail)
        refine wpQuiet_nil ?_
        refine RX.walkR_any ?_
        simp only [dsc_,dz_,tsc_,tz_]
        go_big_quiet_step (fail)
        refine wpQuiet_nil ?_
        refine RX.walkR_any ?_
        simp only [dsc_,dz_,tsc_,tz_]
        go_big_quiet_step (fail)
        refine wpQuiet_nil ?_
        refine RX.walkR_any ?_
        simp only [dsc_,dz_,tsc_,tz_]
        go_big_quiet_step (fail)
        refine wpQuiet_nil ?_
        refine RX.walkR_move ?_
        simp only [dsc_,dz_,tsc_,tz_]
        go_wp2_with fail
        refine ⟨⟨⟨_,Wc.out⟩,rfl⟩,?_⟩
        refine RX.walkR_move ?_
        simp only [dsc_,dz_,tsc_,tz_]
        go_wp2_with fail
        refine ⟨⟨⟨_,Wc.out⟩,rfl⟩,?_⟩
        refine RX.walkR_move ?_
        simp only [dsc_,dz_,tsc_,tz_]
        go_wp2_with fail
        simp only [RX.walkR]
        have hb:=Wc.out
        have B9:=Lib.hid (B8.out.trans (hb.mono B8.out.size))
        replace T1:=Lib.hid (heap_kept T1.out hb nr_)
        replace T2:=Lib.hid (heap_kept T2.out hb nr_)
        replace HX:=Lib.hid (HX.out.below hb)
        replace HY:=Lib.hid (HY.out.below hb)
        clear hb Wc B8
        generalize wc=w9 at *
        have hfl:fl=if xl * (dy:Int) / (yl * (dx:Int))=xh * (dy:Int) / (yh * (dx:Int)) then some (xl * (dy:Int) / (yl * (dx:Int))) else none:=by
         rw [Hf.out]
         unfold flS
         rw [if_neg (show ¬ yh≤0 by omega)]
         unfold flE LN.quoL LN.quoH
         rw [if_neg (show ¬ yl≤0 by omega),if_pos (show xl < 0 by omega),if_pos (show xh < 0 by omega)]
        have hsame:=same_itx (xl * (dy:Int) / (yl * (dx:Int))) (xh * (dy:Int) / (yh * (dx:Int)))
        clear Hf
        generalize xl * (dy:Int) / (yl * (dx:Int))=q1 at *
        generalize xh * (dy:Int) / (yh * (dx:Int))=q2 at *
        by_cases hqq:q1=q2
        ·rw [if_pos hqq] at hfl
         rw [decide_eq_true hqq] at hsame
         have Hans:=Lib.hid (Hspec.out _ hfl)
         clear hfl hqq Hspec Hnx
         go_wp2_with fail
         go_ret
         exact ⟨⟨q1,rfl,Hans.out⟩,B9.out⟩
        ·rw [if_neg hqq] at hfl
         rw [decide_eq_false hqq] at hsame
         obtain ⟨hn2,hp2⟩:=Hnx.out hfl
         have Hp2:=Lib.hid hp2
         clear hfl hqq Hspec Hnx hp2
         go_wp2_with fail
         go_roundw
         case rel=>exact ⟨n * 2,Hp2,hn2,rfl,B9,T1,T2,HX,HY⟩
         case measure=>simp [intOf]; omega
       ·have hsg:¬ xh.sign < 0:=by have:=sign_cases xh; omega
        generalize xh.sign=sg at *
        obtain ⟨k0,k1,k2,-⟩:=obj_cells3 T1.out
        obtain ⟨m0,m1,m2,-⟩:=obj_cells3 T2.out
        have s2:=BW.cell k2
        have r2:=BW.cell m2
        have hnon:Nonempty (BW w7):=⟨⟨w7,Below.refl _ _⟩⟩
        have I:Hid (Below w7.heap.size w7 w7.drew):=(Below.refl _ _).drew
        go_wp2_with fail
        clear k0 k1 k2 m0 m1 m2
        refine RX.wp_region_readers 15 [(1,0),(1,1),(1,2),(1,4),(1,5),(1,6),(0,3),(0,7),(0,8),(2,9),(2,10),(2,11),(2,12),(0,13),(0,14),(0,15)] (fun w'=>∃ p:BW w7,w'=p.w) (by kernel_rfl) (by kernel_rfl) ?_ ?_
        ·exact ⟨⟨_,I.out⟩,rfl⟩
        iterate 6 (refine RX.walkR_read ?_; simp only [dsc_,dz_,tsc_,tz_]; go_big_quiet_step (fail); refine wpQuiet_nil ?_)
        clear hnon s2 r2
        refine RX.walkR_move ?_
        simp only [dsc_,dz_,tsc_,tz_]
        go_wp2_with fail
        refine Calls.mono (HMg.out xl _ (by omega) (B7.out.drew)) ?_
        rintro e_ wa ⟨rfl,hb⟩
        have Wa:Hid (Below w7.heap.size w7 wa):=(Below.refl w7.heap.size w7).drew.trans hb
        clear hb I
        go_wp2_with fail
        refine ⟨⟨⟨_,Wa.out⟩,rfl⟩,?_⟩
        refine RX.walkR_move ?_
        simp only [dsc_,dz_,tsc_,tz_]
        go_wp2_with fail
        refine Calls.mono (HMd.out yl _ (by omega) (B7.out.trans (Wa.out.mono B7.out.size))) ?_
        rintro e_ wb ⟨rfl,hb⟩
        have Wb:=Lib.hid (Wa.out.trans (hb.mono Wa.out.size))
        clear hb Wa
        go_wp2_with fail
        refine ⟨⟨⟨_,Wb.out⟩,rfl⟩,?_⟩
        refine RX.walkR_move ?_
        simp only [dsc_,dz_,tsc_,tz_]
        go_wp2_with fail
        refine Calls.mono (HDv.out xl yl _ (by omega) (by omega) (by omega) (B7.out.trans (Wb.out.mono B7.out.size))) ?_
        rintro e_ wc ⟨rfl,hb⟩
        have Wc:=Lib.hid (Wb.out.trans (hb.mono Wb.out.size))
        clear hb Wb
        go_wp2_with fail
        refine ⟨⟨⟨_,Wc.out⟩,rfl⟩,?_⟩
        refine RX.walkR_any ?_
        simp only [dsc_,dz_,tsc_,tz_]
        go_big_quiet_step (fail)
        refine wpQuiet_nil ?_
        refine RX.walkR_any ?_
        simp only [dsc_,dz_,tsc_,tz_]
        go_big_quiet_step (fail)
        refine wpQuiet_nil ?_
        refine RX.walkR_any ?_
        simp only [dsc_,dz_,tsc_,tz_]
        go_big_quiet_step (fail)
        refine wpQuiet_nil ?_
        refine RX.walkR_any ?_
        simp only [dsc_,dz_,tsc_,tz_]
        go_big_quiet_step (fail)
        refine wpQuiet_nil ?_
        refine RX.walkR_move ?_
        simp only [dsc_,dz_,tsc_,tz_]
        go_wp2_with fail
        refine ⟨⟨⟨_,Wc.out⟩,rfl⟩,?_⟩
        refine RX.walkR_move ?_
        simp only [dsc_,dz_,tsc_,tz_]
        go_wp2_with fail
        refine ⟨⟨⟨_,Wc.out⟩,rfl⟩,?_⟩
        refine RX.walkR_move ?_
        simp only [dsc_,dz_,tsc_,tz_]
        go_wp2_with fail
        simp only [RX.walkR]
        have hb:=Wc.out
        have B8:=Lib.hid (B7.out.trans (hb.mono B7.out.size))
        replace T1:=Lib.hid (heap_kept T1.out hb nr_)
        replace T2:=Lib.hid (heap_kept T2.out hb nr_)
        replace HX:=Lib.hid (HX.out.below hb)
        replace HY:=Lib.hid (HY.out.below hb)
        clear hb Wc B7
        generalize wc=w8 at *
        go_wp2_with fail
        obtain ⟨k0,k1,k2,-⟩:=obj_cells3 T1.out
        obtain ⟨m0,m1,m2,-⟩:=obj_cells3 T2.out
        have s2:=BW.cell k2
        have r2:=BW.cell m2
        have hnon:Nonempty (BW w8):=⟨⟨w8,Below.refl _ _⟩⟩
        have I:Hid (Below w8.heap.size w8 w8.drew):=(Below.refl _ _).drew
        go_wp2_with fail
        clear k0 k1 k2 m0 m1 m2
        refine RX.wp_region_readers 15 [(1,0),(1,1),(1,2),(1,4),(1,5),(1,6),(0,3),(0,7),(0,8),(2,9),(2,10),(2,11),(2,12),(0,13),(0,14),(0,15)] (fun w'=>∃ p:BW w8,w'=p.w) (by kernel_rfl) (by kernel_rfl) ?_ ?_
        ·exact ⟨⟨_,I.out⟩,rfl⟩
        iterate 6 (refine RX.walkR_read ?_; simp only [dsc_,dz_,tsc_,tz_]; go_big_quiet_step (fail); refine wpQuiet_nil ?_)
        clear hnon s2 r2
        refine RX.walkR_move ?_
        simp only [dsc_,dz_,tsc_,tz_]
        go_wp2_with fail
        refine Calls.mono (HMg.out xh _ (by omega) (B8.out.drew)) ?_
        rintro e_ wa ⟨rfl,hb⟩
        have Wa:Hid (Below w8.heap.size w8 wa):=(Below.refl w8.heap.size w8).drew.trans hb
        clear hb I
        go_wp2_with fail
        refine ⟨⟨⟨_,Wa.out⟩,rfl⟩,?_⟩
        refine RX.walkR_move ?_
        simp only [dsc_,dz_,tsc_,tz_]
        go_wp2_with fail
        refine Calls.mono (HMd.out yl _ (by omega) (B8.out.trans (Wa.out.mono B8.out.size))) ?_
        rintro e_ wb ⟨rfl,hb⟩
        have Wb:=Lib.hid (Wa.out.trans (hb.mono Wa.out.size))
        clear hb Wa
        go_wp2_with fail
        refine ⟨⟨⟨_,Wb.out⟩,rfl⟩,?_⟩
        refine RX.walkR_move ?_
        simp only [dsc_,dz_,tsc_,tz_]
        go_wp2_with fail
        refine Calls.mono (HDv.out xh yl _ (by omega) (by omega) (by omega) (B8.out.trans (Wb.out.mono B8.out.size))) ?_
        rintro e_ wc ⟨rfl,hb⟩
        have Wc:=Lib.hid (Wb.out.trans (hb.mono Wb.out.size))
        clear hb Wb
        go_wp2_with fail
        refine ⟨⟨⟨_,Wc.out⟩,rfl⟩,?_⟩
        refine RX.walkR_any ?_
        simp only [dsc_,dz_,tsc_,tz_]
        go_big_quiet_step (fail)
        refine wpQuiet_nil ?_
        refine RX.walkR_any ?_
        simp only [dsc_,dz_,tsc_,tz_]
        go_big_quiet_step (fail)
        refine wpQuiet_nil ?_
        refine RX.walkR_any ?_
        simp only [dsc_,dz_,tsc_,tz_]
        go_big_quiet_step (fail)
        refine wpQuiet_nil ?_
        refine RX.walkR_any ?_
        simp only [dsc_,dz_,tsc_,tz_]
        go_big_quiet_step (fail)
        refine wpQuiet_nil ?_
        refine RX.walkR_move ?_
        simp only [dsc_,dz_,tsc_,tz_]
        go_wp2_with fail
        refine ⟨⟨⟨_,Wc.out⟩,rfl⟩,?_⟩
        refine RX.walkR_move ?_
        simp only [dsc_,dz_,tsc_,tz_]
        go_wp2_with fail
        refine ⟨⟨⟨_,Wc.out⟩,rfl⟩,?_⟩
        refine RX.walkR_move ?_
        simp only [dsc_,dz_,tsc_,tz_]
        go_wp2_with fail
        simp only [RX.walkR]
        have hb:=Wc.out
        have B9:=Lib.hid (B8.out.trans (hb.mono B8.out.size))
        replace T1:=Lib.hid (heap_kept T1.out hb nr_)
        replace T2:=Lib.hid (heap_kept T2.out hb nr_)
        replace HX:=Lib.hid (HX.out.below hb)
        replace HY:=Lib.hid (HY.out.below hb)
        clear hb Wc B8
        generalize wc=w9 at *
        have hfl:fl=if xl * (dy:Int) / (yl * (dx:Int))=xh * (dy:Int) / (yl * (dx:Int)) then some (xl * (dy:Int) / (yl * (dx:Int))) else none:=by
         rw [Hf.out]
         unfold flS
         rw [if_neg (show ¬ yh≤0 by omega)]
         unfold flE LN.quoL LN.quoH
         rw [if_neg (show ¬ yl≤0 by omega),if_pos (show xl < 0 by omega),if_neg (show ¬ xh < 0 by omega)]
        have hsame:=same_itx (xl * (dy:Int) / (yl * (dx:Int))) (xh * (dy:Int) / (yl * (dx:Int)))
        clear Hf
        generalize xl * (dy:Int) / (yl * (dx:Int))=q1 at *
        generalize xh * (dy:Int) / (yl * (dx:Int))=q2 at *
        by_cases hqq:q1=q2
        ·rw [if_pos hqq] at hfl
         rw [decide_eq_true hqq] at hsame
         have Hans:=Lib.hid (Hspec.out _ hfl)
         clear hfl hqq Hspec Hnx
         go_wp2_with fail
         go_ret
         exact ⟨⟨q1,rfl,Hans.out⟩,B9.out⟩
        ·rw [if_neg hqq] at hfl
         rw [decide_eq_false hqq] at hsame
         obtain ⟨hn2,hp2⟩:=Hnx.out hfl
         have Hp2:=Lib.hid hp2
         clear hfl hqq Hspec Hnx hp2
         go_wp2_with fail
         go_roundw
         case rel=>exact ⟨n * 2,Hp2,hn2,rfl,B9,T1,T2,HX,HY⟩
         case measure=>simp [intOf]; omega
      ·have hsg:¬ xl.sign < 0:=by have:=sign_cases xl; omega
       generalize xl.sign=sg at *
       go_wp2_with fail
       clear hsg
       refine Calls.mono (HS.out xh _) ?_
       rintro e_ w7 ⟨rfl,hb⟩
       have B7:=Lib.hid (B6.out.trans (hb.mono B6.out.size))
       replace T1:=Lib.hid (heap_kept T1.out hb nr_)
       replace T2:=Lib.hid (heap_kept T2.out hb nr_)
       replace HX:=Lib.hid (HX.out.below hb)
       replace HY:=Lib.hid (HY.out.below hb)
       clear hb B6
       by_cases hx2:xh < 0
       ·have hsg:xh.sign < 0:=by have:=sign_cases xh; omega
        generalize xh.sign=sg at *
        obtain ⟨k0,k1,k2,-⟩:=obj_cells3 T1.out
        obtain ⟨m0,m1,m2,-⟩:=obj_cells3 T2.out
        have s2:=BW.cell k2
        have r2:=BW.cell m2
        have hnon:Nonempty (BW w7):=⟨⟨w7,Below.refl _ _⟩⟩
        have I:Hid (Below w7.heap.size w7 w7.drew):=(Below.refl _ _).drew
        go_wp2_with fail
        clear k0 k1 k2 m0 m1 m2
        refine RX.wp_region_readers 15 [(1,0),(1,1),(1,2),(1,4),(1,5),(1,6),(0,3),(0,7),(0,8),(2,9),(2,10),(2,11),(2,12),(0,13),(0,14),(0,15)] (fun w'=>∃ p:BW w7,w'=p.w) (by kernel_rfl) (by kernel_rfl) ?_ ?_
        ·exact ⟨⟨_,I.out⟩,rfl⟩
        iterate 6 (refine RX.walkR_read ?_; simp only [dsc_,dz_,tsc_,tz_]; go_big_quiet_step (fail); refine wpQuiet_nil ?_)
        clear hnon s2 r2
        refine RX.walkR_move ?_
        simp only [dsc_,dz_,tsc_,tz_]
        go_wp2_with fail
        refine Calls.mono (HMg.out xl _ (by omega) (B7.out.drew)) ?_
        rintro e_ wa ⟨rfl,hb⟩
        have Wa:Hid (Below w7.heap.size w7 wa):=(Below.refl w7.heap.size w7).drew.trans hb
        clear hb I
        go_wp2_with fail
        refine ⟨⟨⟨_,Wa.out⟩,rfl⟩,?_⟩
        refine RX.walkR_move ?_
        simp only [dsc_,dz_,tsc_,tz_]
        go_wp2_with fail
        refine Calls.mono (HMd.out yh _ (by omega) (B7.out.trans (Wa.out.mono B7.out.size))) ?_
        rintro e_ wb ⟨rfl,hb⟩
        have Wb:=Lib.hid (Wa.out.trans (hb.mono Wa.out.size))
        clear hb Wa
        go_wp2_with fail
        refine ⟨⟨⟨_,Wb.out⟩,rfl⟩,?_⟩
        refine RX.walkR_move ?_
        simp only [dsc_,dz_,tsc_,tz_]
        go_wp2_with fail
        refine Calls.mono (HDv.out xl yh _ (by omega) (by omega) (by omega) (B7.out.trans (Wb.out.mono B7.out.size))) ?_
        rintro e_ wc ⟨rfl,hb⟩
        have Wc:=Lib.hid (Wb.out.trans (hb.mono Wb.out.size))
        clear hb Wb
        go_wp2_with fail
        refine ⟨⟨⟨_,Wc.out⟩,rfl⟩,?_⟩
        refine RX.walkR_any ?_
        simp only [dsc_,dz_,tsc_,tz_]
        go_big_quiet_step (fail)
        refine wpQuiet_nil ?_
        refine RX.walkR_any ?_
        simp only [dsc_,dz_,tsc_,tz_]
        go_big_quiet_step (fail)
        refine wpQuiet_nil ?_
        refine RX.walkR_any ?_
        simp only [dsc_,dz_,tsc_,tz_]
        go_big_quiet_step (fail)
        refine wpQuiet_nil ?_
        refine RX.walkR_any ?_
        simp only [dsc_,dz_,tsc_,tz_]
        go_big_quiet_step (fail)
        refine wpQuiet_nil ?_
        refine RX.walkR_move ?_
        simp only [dsc_,dz_,tsc_,tz_]
        go_wp2_with fail
        refine ⟨⟨⟨_,Wc.out⟩,rfl⟩,?_⟩
        refine RX.walkR_move ?_
        simp only [dsc_,dz_,tsc_,tz_]
        go_wp2_with fail
        refine ⟨⟨⟨_,Wc.out⟩,rfl⟩,?_⟩
        refine RX.walkR_move ?_
        simp only [dsc_,dz_,tsc_,tz_]
        go_wp2_with fail
        simp only [RX.walkR]
        have hb:=Wc.out
        have B8:=Lib.hid (B7.out.trans (hb.mono B7.out.size))
        replace T1:=Lib.hid (heap_kept T1.out hb nr_)
        replace T2:=Lib.hid (heap_kept T2.out hb nr_)
        replace HX:=Lib.hid (HX.out.below hb)
        replace HY:=Lib.hid (HY.out.below hb)
        clear hb Wc B7
        generalize wc=w8 at *
        go_wp2_with fail
        obtain ⟨k0,k1,k2,-⟩:=obj_cells3 T1.out
        obtain ⟨m0,m1,m2,-⟩:=obj_cells3 T2.out
        have s2:=BW.cell k2
        have r2:=BW.cell m2
        have hnon:Nonempty (BW w8):=⟨⟨w8,Below.refl _ _⟩⟩
        have I:Hid (Below w8.heap.size w8 w8.drew):=(Below.refl _ _).drew
        go_wp2_with fail
        clear k0 k1 k2 m0 m1 m2
        refine RX.wp_region_readers 15 [(1,0),(1,1),(1,2),(1,4),(1,5),(1,6),(0,3),(0,7),(0,8),(2,9),(2,10),(2,11),(2,12),(0,13),(0,14),(0,15)] (fun w'=>∃ p:BW w8,w'=p.w) (by kernel_rfl) (by kernel_rfl) ?_ ?_
        ·exact ⟨⟨_,I.out⟩,rfl⟩
        iterate 6 (refine RX.walkR_read ?_; simp only [dsc_,dz_,tsc_,tz_]; go_big_quiet_step (fail); refine wpQuiet_nil ?_)
        clear hnon s2 r2
        refine RX.walkR_move ?_
        simp only [dsc_,dz_,tsc_,tz_]
        go_wp2_with fail
        refine Calls.mono (HMg.out xh _ (by omega) (B8.out.drew)) ?_
        rintro e_ wa ⟨rfl,hb⟩
        have Wa:Hid (Below w8.heap.size w8 wa):=(Below.refl w8.heap.size w8).drew.trans hb
        clear hb I
        go_wp2_with fail
        refine ⟨⟨⟨_,Wa.out⟩,rfl⟩,?_⟩
        refine RX.walkR_move ?_
        simp only [dsc_,dz_,tsc_,tz_]
        go_wp2_with fail
        refine Calls.mono (HMd.out yh _ (by omega) (B8.out.trans (Wa.out.mono B8.out.size))) ?_
        rintro e_ wb ⟨rfl,hb⟩
        have Wb:=Lib.hid (Wa.out.trans (hb.mono Wa.out.size))
        clear hb Wa
        go_wp2_with fail
        refine ⟨⟨⟨_,Wb.out⟩,rfl⟩,?_⟩
        refine RX.walkR_move ?_
        simp only [dsc_,dz_,tsc_,tz_]
        go_wp2_with fail
        refine Calls.mono (HDv.out xh yh _ (by omega) (by omega) (by omega) (B8.out.trans (Wb.out.mono B8.out.size))) ?_
        rintro e_ wc ⟨rfl,hb⟩
        have Wc:=Lib.hid (Wb.out.trans (hb.mono Wb.out.size))
        clear hb Wb
        go_wp2_with fail
        refine ⟨⟨⟨_,Wc.out⟩,rfl⟩,?_⟩
        refine RX.walkR_any ?_
        simp only [dsc_,dz_,tsc_,tz_]
        go_big_quiet_step (fail)
        refine wpQuiet_nil ?_
        refine RX.walkR_any ?_
        simp only [dsc_,dz_,tsc_,tz_]
        go_big_quiet_step (fail)
        refine wpQuiet_nil ?_
        refine RX.walkR_any ?_
        simp only [dsc_,dz_,tsc_,tz_]
        go_big_quiet_step (fail)
        refine wpQuiet_nil ?_
        refine RX.walkR_any ?_
        simp only [dsc_,dz_,tsc_,tz_]
        go_big_quiet_step (fail)
        refine wpQuiet_nil ?_
        refine RX.walkR_move ?_
        simp only [dsc_,dz_,tsc_,tz_]
        go_wp2_with fail
        refine ⟨⟨⟨_,Wc.out⟩,rfl⟩,?_⟩
        refine RX.walkR_move ?_
        simp only [dsc_,dz_,tsc_,tz_]
        go_wp2_with fail
        refine ⟨⟨⟨_,Wc.out⟩,rfl⟩,?_⟩
        refine RX.walkR_move ?_
        simp only [dsc_,dz_,tsc_,tz_]
        go_wp2_with fail
        simp only [RX.walkR]
        have hb:=Wc.out
        have B9:=Lib.hid (B8.out.trans (hb.mono B8.out.size))
        replace T1:=Lib.hid (heap_kept T1.out hb nr_)
        replace T2:=Lib.hid (heap_kept T2.out hb nr_)
        replace HX:=Lib.hid (HX.out.below hb)
        replace HY:=Lib.hid (HY.out.below hb)
        clear hb Wc B8
        generalize wc=w9 at *
        have hfl:fl=if xl * (dy:Int) / (yh * (dx:Int))=xh * (dy:Int) / (yh * (dx:Int)) then some (xl * (dy:Int) / (yh * (dx:Int))) else none:=by
         rw [Hf.out]
         unfold flS
         rw [if_neg (show ¬ yh≤0 by omega)]
         unfold flE LN.quoL LN.quoH
         rw [if_neg (show ¬ yl≤0 by omega),if_neg (show ¬ xl < 0 by omega),if_pos (show xh < 0 by omega)]
        have hsame:=same_itx (xl * (dy:Int) / (yh * (dx:Int))) (xh * (dy:Int) / (yh * (dx:Int)))
        clear Hf
        generalize xl * (dy:Int) / (yh * (dx:Int))=q1 at *
        generalize xh * (dy:Int) / (yh * (dx:Int))=q2 at *
        by_cases hqq:q1=q2
        ·rw [if_pos hqq] at hfl
         rw [decide_eq_true hqq] at hsame
         have Hans:=Lib.hid (Hspec.out _ hfl)
         clear hfl hqq Hspec Hnx
         go_wp2_with fail
         go_ret
         exact ⟨⟨q1,rfl,Hans.out⟩,B9.out⟩
        ·rw [if_neg hqq] at hfl
         rw [decide_eq_false hqq] at hsame
         obtain ⟨hn2,hp2⟩:=Hnx.out hfl
         have Hp2:=Lib.hid hp2
         clear hfl hqq Hspec Hnx hp2
         go_wp2_with fail
         go_roundw
         case rel=>exact ⟨n * 2,Hp2,hn2,rfl,B9,T1,T2,HX,HY⟩
         case measure=>simp [intOf]; omega
       ·have hsg:¬ xh.sign < 0:=by have:=sign_cases xh; omega
        generalize xh.sign=sg at *
        obtain ⟨k0,k1,k2,-⟩:=obj_cells3 T1.out
        obtain ⟨m0,m1,m2,-⟩:=obj_cells3 T2.out
        have s2:=BW.cell k2
        have r2:=BW.cell m2
        have hnon:Nonempty (BW w7):=⟨⟨w7,Below.refl _ _⟩⟩
        have I:Hid (Below w7.heap.size w7 w7.drew):=(Below.refl _ _).drew
        go_wp2_with fail
        clear k0 k1 k2 m0 m1 m2
        refine RX.wp_region_readers 15 [(1,0),(1,1),(1,2),(1,4),(1,5),(1,6),(0,3),(0,7),(0,8),(2,9),(2,10),(2,11),(2,12),(0,13),(0,14),(0,15)] (fun w'=>∃ p:BW w7,w'=p.w) (by kernel_rfl) (by kernel_rfl) ?_ ?_
        ·exact ⟨⟨_,I.out⟩,rfl⟩
        iterate 6 (refine RX.walkR_read ?_; simp only [dsc_,dz_,tsc_,tz_]; go_big_quiet_step (fail); refine wpQuiet_nil ?_)
        clear hnon s2 r2
        refine RX.walkR_move ?_
        simp only [dsc_,dz_,tsc_,tz_]
        go_wp2_with fail
        refine Calls.mono (HMg.out xl _ (by omega) (B7.out.drew)) ?_
        rintro e_ wa ⟨rfl,hb⟩
        have Wa:Hid (Below w7.heap.size w7 wa):=(Below.refl w7.heap.size w7).drew.trans hb
        clear hb I
        go_wp2_with fail
        refine ⟨⟨⟨_,Wa.out⟩,rfl⟩,?_⟩
        refine RX.walkR_move ?_
        simp only [dsc_,dz_,tsc_,tz_]
        go_wp2_with fail
        refine Calls.mono (HMd.out yh _ (by omega) (B7.out.trans (Wa.out.mono B7.out.size))) ?_
        rintro e_ wb ⟨rfl,hb⟩
        have Wb:=Lib.hid (Wa.out.trans (hb.mono Wa.out.size))
        clear hb Wa
        go_wp2_with fail
        refine ⟨⟨⟨_,Wb.out⟩,rfl⟩,?_⟩
        refine RX.walkR_move ?_
        simp only [dsc_,dz_,tsc_,tz_]
        go_wp2_with fail
        refine Calls.mono (HDv.out xl yh _ (by omega) (by omega) (by omega) (B7.out.trans (Wb.out.mono B7.out.size))) ?_
        rintro e_ wc ⟨rfl,hb⟩
        have Wc:=Lib.hid (Wb.out.trans (hb.mono Wb.out.size))
        clear hb Wb
        go_wp2_with fail
        refine ⟨⟨⟨_,Wc.out⟩,rfl⟩,?_⟩
        refine RX.walkR_any ?_
        simp only [dsc_,dz_,tsc_,tz_]
        go_big_quiet_step (fail)
        refine wpQuiet_nil ?_
        refine RX.walkR_any ?_
        simp only [dsc_,dz_,tsc_,tz_]
        go_big_quiet_step (fail)
        refine wpQuiet_nil ?_
        refine RX.walkR_any ?_
        simp only [dsc_,dz_,tsc_,tz_]
        go_big_quiet_step (fail)
        refine wpQuiet_nil ?_
        refine RX.walkR_any ?_
        simp only [dsc_,dz_,tsc_,tz_]
        go_big_quiet_step (fail)
        refine wpQuiet_nil ?_
        refine RX.walkR_move ?_
        simp only [dsc_,dz_,tsc_,tz_]
        go_wp2_with fail
        refine ⟨⟨⟨_,Wc.out⟩,rfl⟩,?_⟩
        refine RX.walkR_move ?_
        simp only [dsc_,dz_,tsc_,tz_]
        go_wp2_with fail
        refine ⟨⟨⟨_,Wc.out⟩,rfl⟩,?_⟩
        refine RX.walkR_move ?_
        simp only [dsc_,dz_,tsc_,tz_]
        go_wp2_with fail
        simp only [RX.walkR]
        have hb:=Wc.out
        have B8:=Lib.hid (B7.out.trans (hb.mono B7.out.size))
        replace T1:=Lib.hid (heap_kept T1.out hb nr_)
        replace T2:=Lib.hid (heap_kept T2.out hb nr_)
        replace HX:=Lib.hid (HX.out.below hb)
        replace HY:=Lib.hid (HY.out.below hb)
        clear hb Wc B7
        generalize wc=w8 at *
        go_wp2_with fail
        obtain ⟨k0,k1,k2,-⟩:=obj_cells3 T1.out
        obtain ⟨m0,m1,m2,-⟩:=obj_cells3 T2.out
        have s2:=BW.cell k2
        have r2:=BW.cell m2
        have hnon:Nonempty (BW w8):=⟨⟨w8,Below.refl _ _⟩⟩
        have I:Hid (Below w8.heap.size w8 w8.drew):=(Below.refl _ _).drew
        go_wp2_with fail
        clear k0 k1 k2 m0 m1 m2
        refine RX.wp_region_readers 15 [(1,0),(1,1),(1,2),(1,4),(1,5),(1,6),(0,3),(0,7),(0,8),(2,9),(2,10),(2,11),(2,12),(0,13),(0,14),(0,15)] (fun w'=>∃ p:BW w8,w'=p.w) (by kernel_rfl) (by kernel_rfl) ?_ ?_
        ·exact ⟨⟨_,I.out⟩,rfl⟩
        iterate 6 (refine RX.walkR_read ?_; simp only [dsc_,dz_,tsc_,tz_]; go_big_quiet_step (fail); refine wpQuiet_nil ?_)
        clear hnon s2 r2
        refine RX.walkR_move ?_
        simp only [dsc_,dz_,tsc_,tz_]
        go_wp2_with fail
        refine Calls.mono (HMg.out xh _ (by omega) (B8.out.drew)) ?_
        rintro e_ wa ⟨rfl,hb⟩
        have Wa:Hid (Below w8.heap.size w8 wa):=(Below.refl w8.heap.size w8).drew.trans hb
        clear hb I
        go_wp2_with fail
        refine ⟨⟨⟨_,Wa.out⟩,rfl⟩,?_⟩
        refine RX.walkR_move ?_
        simp only [dsc_,dz_,tsc_,tz_]
        go_wp2_with fail
        refine Calls.mono (HMd.out yl _ (by omega) (B8.out.trans (Wa.out.mono B8.out.size))) ?_
        rintro e_ wb ⟨rfl,hb⟩
        have Wb:=Lib.hid (Wa.out.trans (hb.mono Wa.out.size))
        clear hb Wa
        go_wp2_with fail
        refine ⟨⟨⟨_,Wb.out⟩,rfl⟩,?_⟩
        refine RX.walkR_move ?_
        simp only [dsc_,dz_,tsc_,tz_]
        go_wp2_with fail
        refine Calls.mono (HDv.out xh yl _ (by omega) (by omega) (by omega) (B8.out.trans (Wb.out.mono B8.out.size))) ?_
        rintro e_ wc ⟨rfl,hb⟩
        have Wc:=Lib.hid (Wb.out.trans (hb.mono Wb.out.size))
        clear hb Wb
        go_wp2_with fail
        refine ⟨⟨⟨_,Wc.out⟩,rfl⟩,?_⟩
        refine RX.walkR_any ?_
        simp only [dsc_,dz_,tsc_,tz_]
        go_big_quiet_step (fail)
        refine wpQuiet_nil ?_
        refine RX.walkR_any ?_
        simp only [dsc_,dz_,tsc_,tz_]
        go_big_quiet_step (fail)
        refine wpQuiet_nil ?_
        refine RX.walkR_any ?_
        simp only [dsc_,dz_,tsc_,tz_]
        go_big_quiet_step (fail)
        refine wpQuiet_nil ?_
        refine RX.walkR_any ?_
        simp only [dsc_,dz_,tsc_,tz_]
        go_big_quiet_step (fail)
        refine wpQuiet_nil ?_
        refine RX.walkR_move ?_
        simp only [dsc_,dz_,tsc_,tz_]
        go_wp2_with fail
        refine ⟨⟨⟨_,Wc.out⟩,rfl⟩,?_⟩
        refine RX.walkR_move ?_
        simp only [dsc_,dz_,tsc_,tz_]
        go_wp2_with fail
        refine ⟨⟨⟨_,Wc.out⟩,rfl⟩,?_⟩
        refine RX.walkR_move ?_
        simp only [dsc_,dz_,tsc_,tz_]
        go_wp2_with fail
        simp only [RX.walkR]
        have hb:=Wc.out
        have B9:=Lib.hid (B8.out.trans (hb.mono B8.out.size))
        replace T1:=Lib.hid (heap_kept T1.out hb nr_)
        replace T2:=Lib.hid (heap_kept T2.out hb nr_)
        replace HX:=Lib.hid (HX.out.below hb)
        replace HY:=Lib.hid (HY.out.below hb)
        clear hb Wc B8
        generalize wc=w9 at *
        have hfl:fl=if xl * (dy:Int) / (yh * (dx:Int))=xh * (dy:Int) / (yl * (dx:Int)) then some (xl * (dy:Int) / (yh * (dx:Int))) else none:=by
         rw [Hf.out]
         unfold flS
         rw [if_neg (show ¬ yh≤0 by omega)]
         unfold flE LN.quoL LN.quoH
         rw [if_neg (show ¬ yl≤0 by omega),if_neg (show ¬ xl < 0 by omega),if_neg (show ¬ xh < 0 by omega)]
        have hsame:=same_itx (xl * (dy:Int) / (yh * (dx:Int))) (xh * (dy:Int) / (yl * (dx:Int)))
        clear Hf
        generalize xl * (dy:Int) / (yh * (dx:Int))=q1 at *
        generalize xh * (dy:Int) / (yl * (dx:Int))=q2 at *
        by_cases hqq:q1=q2
        ·rw [if_pos hqq] at hfl
         rw [decide_eq_true hqq] at hsame
         have Hans:=Lib.hid (Hspec.out _ hfl)
         clear hfl hqq Hspec Hnx
         go_wp2_with fail
         go_ret
         exact ⟨⟨q1,rfl,Hans.out⟩,B9.out⟩
        ·rw [if_neg hqq] at hfl
         rw [decide_eq_false hqq] at hsame
         obtain ⟨hn2,hp2⟩:=Hnx.out hfl
         have Hp2:=Lib.hid hp2
         clear hfl hqq Hspec Hnx hp2
         go_wp2_with fail
         go_roundw
         case rel=>exact ⟨n * 2,Hp2,hn2,rfl,B9,T1,T2,HX,HY⟩
         case measure=>simp [intOf]; omega
end Go.Proofs.YtlomhfknmhaboaaGreatDoor

namespace Go.Proofs.YtlomhfknmhaboaaGreatDoor
open Go.RowKit
theorem eLo_neg (f:Int→Nat) (l:List (Int×Int)):LN.eLo f (LN.negT l) = - LN.eHi f l∧LN.eHi f (LN.negT l) = - LN.eLo f l:=by
 rw [LN.eLo_eq,LN.eHi_eq,LN.eLo_eq,LN.eHi_eq,LN.negT_negT]
 omega
theorem sumT_neg (f:Int→Nat) (l:List (Int×Int)):LN.sumT f (LN.negT l) = - LN.sumT f l:=by
 rw [LN.sumT_eq,LN.sumT_eq,LN.negT_negT]
 omega
theorem ends_near (f:Int→Nat) (K:Nat) (l:List (Int×Int)) (h:∀ x∈l,x.2.natAbs≤K) :
  LN.eLo f l≤LN.sumT f l∧LN.sumT f l≤LN.eHi f l∧LN.eHi f l≤LN.sumT f l + (l.length * K:Nat)∧LN.sumT f l≤LN.eLo f l + (l.length * K:Nat):=by
 have h1:=LN.hiS_le f K l h
 have h2:=LN.hiS_le f K (LN.negT l) (by
  intro x hx
  obtain ⟨y,hy,rfl⟩:=List.mem_map.1 hx
  have:=h y hy
  show (-y.2).natAbs≤K
  omega)
 have e:(LN.negT l).length=l.length:=by simp [LN.negT]
 rw [e] at h2
 have h3:∀ l:List (Int×Int),LN.loS f l≤LN.hiS f l:=by
  intro l
  induction l with
  | nil=>exact Nat.le_refl _
  | cons x l ih =>
   rw [LN.loS,LN.hiS]
   refine Nat.add_le_add (Nat.mul_le_mul_left _ ?_) ih
   unfold LN.hiL; split <;> omega
 have h4:=h3 l
 have h5:=h3 (LN.negT l)
 rw [LN.eLo_eq,LN.eHi_eq,LN.sumT_eq]
 omega
theorem dotI_lin (a b:Int):∀ (u:List Int) (pr:List Int) (g h:Int→Int),LN.dotI u (pr.map fun p=>a * g p - b * h p)=a * LN.dotI u (pr.map g) - b * LN.dotI u (pr.map h)
 | [],_,_,_=>by simp [LN.dotI]
 | _ :: _,[],_,_=>by simp [LN.dotI]
 | c :: u,p :: pr,g,h=>by
  have ih:=dotI_lin a b u pr g h
  simp only [List.map_cons,LN.dotI]
  rw [ih]
  grind
theorem mul_abs_le {a b x y:Int} {W:Nat} (h1:x≤y + W) (h2:y≤x + W) (_:a=b):(a * x - b * y).natAbs≤a.natAbs * W:=by
 subst a
 rw [← Int.mul_sub,Int.natAbs_mul]
 exact Nat.mul_le_mul_left _ (by omega)
structure FNum (Kx Ky d g S R Wx Wy:Nat) (X:Nat):Prop where
 s:Wy < S
 r:X * g < R * (S - Wy)
 k:g * Kx + R * d * Ky≤LN.KA
 t:g * Wx + R * d * Wy < LN.SA
theorem quo_near {xl low Tx Ty:Int} {d g Wx Wy:Nat} (j:Int) (h1:Tx≤xl + Wx) (h2:xl≤Tx + Wx) (h3:Ty≤low + Wy) (h4:low≤Ty + Wy) (s:Bool) :
  (if s then j * (low * d)≤xl * g else xl * g < j * (low * d))→(if s then j * d * Ty≤g * Tx + (g * Wx + j.natAbs * d * Wy:Nat) else g * Tx - (g * Wx + j.natAbs * d * Wy:Nat)≤j * d * Ty):=by
 intro h
 have a1:=mul_abs_le (a:=(g:Int)) (b:=g) h1 h2 rfl
 have a2:=mul_abs_le (a:=j * (d:Int)) (b:=j * d) h3 h4 rfl
 rw [Int.natAbs_natCast] at a1
 rw [Int.natAbs_mul,Int.natAbs_natCast] at a2
 have e1:j * (low * (d:Int))=j * (d:Int) * low:=by grind
 have e2:xl * (g:Int)=(g:Int) * xl:=Int.mul_comm _ _
 rw [e1,e2] at h
 cases s with
 | true=>simp only [if_true] at h ⊢; omega
 | false =>
  rw [if_neg Bool.false_ne_true] at h ⊢
  omega
theorem flE_none {tx ty:List (Int×Int)} {f:Int→Nat} {Kx Ky d g S R X:Nat} (hd:0 < d) (hkx:∀ x∈tx,x.2.natAbs≤Kx) (hky:∀ x∈ty,x.2.natAbs≤Ky)
  (N:FNum Kx Ky d g S R (tx.length * Kx) (ty.length * Ky) X) (hS:(S:Int)≤LN.sumT f ty) (hX:(LN.eLo f tx).natAbs≤X∧(LN.eHi f tx).natAbs≤X)
  (hnone:flE (LN.eLo f tx) (LN.eHi f tx) (LN.eLo f ty) (LN.eHi f ty) g d=none):∃ j:Int,j.natAbs≤R∧(g * LN.sumT f tx - j * d * LN.sumT f ty).natAbs < LN.SA:=by
 obtain ⟨x1,x2,x3,x4⟩:=ends_near f Kx tx hkx
 obtain ⟨y1,y2,y3,y4⟩:=ends_near f Ky ty hky
 have hs:=N.s
 have ht:=N.t
 generalize tx.length * Kx=Wx at *
 generalize ty.length * Ky=Wy at *
 generalize LN.eLo f tx=xl at *
 generalize LN.eHi f tx=xh at *
 generalize LN.eLo f ty=yl at *
 generalize LN.eHi f ty=yh at *
 generalize LN.sumT f tx=Tx at *
 generalize LN.sumT f ty=Ty at *
 have hyl:0 < yl:=by omega
 unfold flE at hnone
 rw [if_neg (by omega)] at hnone
 -- a quotient is not too great
 have hR:∀ (x low:Int),x.natAbs≤X→((S - Wy:Nat):Int)≤low→(x * g / (low * d)).natAbs≤R:=by
  intro x low hx hl
  have hr:=N.r
  have hp:0 < low * (d:Int):=Int.mul_pos (by omega) (by omega)
  have h1:=Int.ediv_mul_le (x * (g:Int)) (show low * (d:Int)≠0 by omega)
  have h2:=Int.lt_ediv_add_one_mul_self (x * (g:Int)) hp
  have h3:(x * (g:Int)).natAbs≤X * g:=by rw [Int.natAbs_mul,Int.natAbs_natCast]; exact Nat.mul_le_mul_right _ hx
  have h4:((S - Wy:Nat):Int)≤low * (d:Int):=by
   have:low * 1≤low * (d:Int):=Int.mul_le_mul_of_nonneg_left (by omega) (by omega)
   omega
  generalize x * (g:Int) / (low * (d:Int))=q at *
  generalize low * (d:Int)=m at *
  generalize x * (g:Int)=v at *
  generalize X * g=V at *
  have hr2:(V:Int) < (R:Int) * ((S - Wy:Nat):Int):=by rw [← Int.natCast_mul]; exact Int.ofNat_lt.2 hr
  have hr3:(R:Int) * ((S - Wy:Nat):Int)≤(R:Int) * m:=Int.mul_le_mul_of_nonneg_left h4 (by omega)
  refine Nat.le_of_not_lt fun hc=>?_
  rcases Int.lt_or_le q 0 with hq | hq
  ·have h5:(q + 1) * m≤(-(R:Int)) * m:=Int.mul_le_mul_of_nonneg_right (by omega) (by omega)
   rw [Int.neg_mul] at h5
   omega
  ·have h5:(R:Int) * m≤q * m:=Int.mul_le_mul_of_nonneg_right (by omega) (by omega)
   omega
 have fin:∀ j:Int,j.natAbs≤R→j * d * Ty≤g * Tx + (g * Wx + j.natAbs * d * Wy:Nat)→g * Tx - (g * Wx + j.natAbs * d * Wy:Nat)≤j * d * Ty→(g * Tx - j * d * Ty).natAbs < LN.SA:=by
  intro j hj h1 h2
  have h3:j.natAbs * d * Wy≤R * d * Wy:=Nat.mul_le_mul_right _ (Nat.mul_le_mul_right _ hj)
  omega
 -- what low and high are
 obtain ⟨low,hlow,hl1,hl2,hl3⟩:∃ low,(if xl < 0 then yl else yh)=low∧Ty≤low + Wy∧low≤Ty + Wy∧((S - Wy:Nat):Int)≤low:=by
  by_cases h:xl < 0
  ·exact ⟨yl,if_pos h,by omega,by omega,by omega⟩
  ·exact ⟨yh,if_neg h,by omega,by omega,by omega⟩
 obtain ⟨high,hhigh,hh1,hh2,hh3⟩:∃ high,(if xh < 0 then yh else yl)=high∧Ty≤high + Wy∧high≤Ty + Wy∧((S - Wy:Nat):Int)≤high:=by
  by_cases h:xh < 0
  ·exact ⟨yh,if_pos h,by omega,by omega,by omega⟩
  ·exact ⟨yl,if_neg h,by omega,by omega,by omega⟩
 have hq:=hR xl low hX.1 hl3
 have hr:=hR xh high hX.2 hh3
 have p1:0 < low * (d:Int):=Int.mul_pos (by omega) (by omega)
 have p2:0 < high * (d:Int):=Int.mul_pos (by omega) (by omega)
 have q1:=Int.ediv_mul_le (xl * (g:Int)) (show low * (d:Int)≠0 by omega)
 have q2:=Int.lt_ediv_add_one_mul_self (xl * (g:Int)) p1
 have r1:=Int.ediv_mul_le (xh * (g:Int)) (show high * (d:Int)≠0 by omega)
 have r2:=Int.lt_ediv_add_one_mul_self (xh * (g:Int)) p2
 unfold LN.quoL LN.quoH at hnone
 rw [hlow,hhigh] at hnone
 generalize xl * (g:Int) / (low * (d:Int))=q at *
 generalize xh * (g:Int) / (high * (d:Int))=r at *
 have hne:q≠r:=fun e=>by rw [if_pos e] at hnone; cases hnone
 rcases Int.lt_or_gt_of_ne hne with h | h
 ·refine ⟨r,hr,fin r hr ?_ ?_⟩
  ·have:=quo_near (xl:=xh) (low:=high) (Tx:=Tx) (Ty:=Ty) (d:=d) (g:=g) (Wx:=Wx) (Wy:=Wy) r (by omega) (by omega) hh1 hh2 true (by simpa using r1)
   simpa using this
  ·have h5:(q + 1) * (low * (d:Int))≤r * (low * (d:Int)):=Int.mul_le_mul_of_nonneg_right (by omega) (by omega)
   have:=quo_near (xl:=xl) (low:=low) (Tx:=Tx) (Ty:=Ty) (d:=d) (g:=g) (Wx:=Wx) (Wy:=Wy) r (by omega) (by omega) hl1 hl2 false (by rw [if_neg Bool.false_ne_true]; omega)
   rw [if_neg Bool.false_ne_true] at this
   exact this
 ·refine ⟨q,hq,fin q hq ?_ ?_⟩
  ·have:=quo_near (xl:=xl) (low:=low) (Tx:=Tx) (Ty:=Ty) (d:=d) (g:=g) (Wx:=Wx) (Wy:=Wy) q (by omega) (by omega) hl1 hl2 true (by simpa using q1)
   simpa using this
  ·have h5:(r + 1) * (high * (d:Int))≤q * (high * (d:Int)):=Int.mul_le_mul_of_nonneg_right (by omega) (by omega)
   have:=quo_near (xl:=xh) (low:=high) (Tx:=Tx) (Ty:=Ty) (d:=d) (g:=g) (Wx:=Wx) (Wy:=Wy) q (by omega) (by omega) hh1 hh2 false (by rw [if_neg Bool.false_ne_true]; omega)
   rw [if_neg Bool.false_ne_true] at this
   exact this
end Go.Proofs.YtlomhfknmhaboaaGreatDoor

namespace Go.Proofs.YtlomhfknmhaboaaGreatDoor
open Go.RowKit
theorem primesL_small:∀ k,k < 10→(∀ p∈primesL k,p∈smallP)∧(primesL k).Nodup:=by decide +kernel
theorem smallP_pos {ps:List Int} (h:∀ p∈ps,p∈smallP):∀ p∈ps,0 < p:=fun p hp=>by
 have key:∀ q∈smallP,0 < q:=by decide
 exact key p (h p hp)
def Sml (N M:Nat) (l:List Rat):Prop:=∀ q∈l,q.den ∣ M∧(LN.ex M q).natAbs≤N
theorem Sml.le {N K M:Nat} {l:List Rat} (h:Sml N M l) (hK:N≤K):Sml K M l:=fun q hq=>⟨(h q hq).1,Nat.le_trans (h q hq).2 hK⟩
theorem ex_den {M:Nat} {q:Rat} (z:Int) (hM:0 < M) (h:q * (M:Rat)=(z:Rat)):q.den ∣ M∧LN.ex M q=z:=by
 have hM':(M:Rat)≠0:=by have:=Rat.natCast_pos.2 hM; grind
 have e:q=mkRat z M:=by
  rw [Rat.mkRat_eq_div]
  have:=Rat.mul_div_cancel (a:=q) hM'
  rw [← h]; exact this.symm
 have hd:q.den ∣ M:=by
  rw [e,LN.mkRat_den' _ _ (by omega)]
  exact Nat.div_dvd_of_dvd (Nat.gcd_dvd_right _ _)
 refine ⟨hd,?_⟩
 rw [← Rat.intCast_inj,LN.ex_eq hd,h]
theorem Sml.comb {N K M:Nat} {la lb:List Rat} (hM:0 < M) (ha:Sml N M la) (hb:Sml K M lb) (f g:Int):Sml (N * f.natAbs + K * g.natAbs) M (combineQ la lb (f:Rat) (g:Rat)):=by
 intro q hq
 obtain ⟨i,hi,rfl⟩:=List.mem_iff_getElem.1 hq
 have hi':i < la.length∧i < lb.length:=by simp [combineQ] at hi; omega
 simp only [combineQ,List.getElem_zipWith]
 obtain ⟨d1,n1⟩:=ha _ (List.getElem_mem hi'.1)
 obtain ⟨d2,n2⟩:=hb _ (List.getElem_mem hi'.2)
 have h:(la[i]'hi'.1 * (f:Rat) + lb[i]'hi'.2 * (g:Rat)) * (M:Rat)=((LN.ex M (la[i]'hi'.1) * f + LN.ex M (lb[i]'hi'.2) * g:Int):Rat):=by
  rw [Rat.intCast_add,Rat.intCast_mul,Rat.intCast_mul,LN.ex_eq d1,LN.ex_eq d2]
  grind
 obtain ⟨r1,r2⟩:=ex_den _ hM h
 refine ⟨r1,?_⟩
 rw [r2]
 refine Nat.le_trans (Int.natAbs_add_le _ _) ?_
 rw [Int.natAbs_mul,Int.natAbs_mul]
 exact Nat.add_le_add (Nat.mul_le_mul_right _ n1) (Nat.mul_le_mul_right _ n2)
theorem Sml.good {N M:Nat} {ps:List Int} {l:List Rat} (hM:0 < M) (h:Sml N M l) (hN:N≤Kb) (h1:∀ p∈ps,p∈smallP) (h2:ps.Nodup):Good ps l:=by
 refine ⟨h1,h2,fun x hx=>?_⟩
 obtain ⟨_,q,hq,_,he⟩:=tlist_mem hx
 have e:x.2=LN.ex (tden l) q:=he
 obtain ⟨m,hm⟩:=LN.tden_min (fun q hq=>(h q hq).1)
 have h3:=(h q hq).2
 rw [hm,Nat.mul_comm,LN.ex_mul (LN.tden_dvd hq),Int.natAbs_mul,Int.natAbs_natCast] at h3
 have hm0:0 < m:=by
  rcases Nat.eq_zero_or_pos m with h0 | h0
  ·rw [h0,Nat.mul_zero] at hm; omega
  ·exact h0
 rw [e]
 have h4:1 * (LN.ex (tden l) q).natAbs≤m * (LN.ex (tden l) q).natAbs:=Nat.mul_le_mul_right _ hm0
 omega
def difQ (la lb:List Rat):List Rat:=combineQ la lb ((1:Int):Rat) ((-1:Int):Rat)
theorem difQ_get (la lb:List Rat) (i:Nat) (h1:i < la.length) (h2:i < lb.length) (h:i < (difQ la lb).length):(difQ la lb)[i]=la[i] - lb[i]:=by
 simp only [difQ,combineQ,List.getElem_zipWith]
 grind
theorem difQ_length (la lb:List Rat) (h:la.length=lb.length):(difQ la lb).length=la.length:=combineQ_length _ _ _ _ h
theorem sz_ne {ps:List Int} {l:List Rat} (g:Good ps l) (hn:ps.length≤100) (hl:l.length=ps.length) (h:∃ q∈l,q≠0):LN.sz ps l≠0:=by
 have hne:tlQ ps l≠[]:=by
  obtain ⟨q,hq,h0⟩:=h
  obtain ⟨i,hi,rfl⟩:=List.mem_iff_getElem.1 hq
  intro e
  have hm:(ps[i]'(by omega),l[i].num * ((tden l / l[i].den:Nat):Int))∈tlQ ps l:=by
   unfold tlQ tlist
   refine List.mem_filterMap.2 ⟨(ps[i]'(by omega),l[i]),?_,?_⟩
   ·exact List.mem_iff_getElem.2 ⟨i,by simp; omega,by simp⟩
   ·rw [if_neg]
    intro hz
    exact h0 (Rat.num_eq_zero.1 hz)
  rw [e] at hm
  cases hm
 show LN.signT (tlQ ps l)≠0
 rcases g.dec hn hne with h | h
 ·rw [sign_of_lo g.trt (by decide) hne h]; decide
 ·rw [sign_of_hi g.trt (by decide) hne h]; decide
end Go.Proofs.YtlomhfknmhaboaaGreatDoor

namespace Go.Proofs.YtlomhfknmhaboaaGreatDoor
open Go.RowKit
theorem smallP_nd:smallP.Nodup:=by decide
theorem coefs_small {tx ty:List (Int×Int)} {d g Kx Ky R:Nat} {j:Int} (mx:∀ x∈tx,x.1∈smallP) (my:∀ x∈ty,x.1∈smallP) (nx:(tx.map Prod.fst).Nodup) (ny:(ty.map Prod.fst).Nodup)
  (hkx:∀ x∈tx,x.2.natAbs≤Kx) (hky:∀ x∈ty,x.2.natAbs≤Ky) (hj:j.natAbs≤R) (hk:g * Kx + R * d * Ky≤LN.KA)
  (h:(g * LN.sumT (lf 1024) tx - j * d * LN.sumT (lf 1024) ty).natAbs < LN.SA):∀ p∈smallP,(g:Int) * LN.coefP p tx=j * d * LN.coefP p ty:=by
 have hc:=LN.certA_ok
 rw [← certL_eq] at hc
 rw [← LN.dotI_coef (lf 1024) smallP smallP_nd tx mx,← LN.dotI_coef (lf 1024) smallP smallP_nd ty my,← dotI_lin] at h
 have hz:=LN.cert_zero hc (smallP.map fun p=>(g:Int) * LN.coefP p tx - j * d * LN.coefP p ty) (by simp) (by
  intro x hx
  obtain ⟨p,_,rfl⟩:=List.mem_map.1 hx
  have b1:=LN.coefP_le Kx tx nx hkx p
  have b2:=LN.coefP_le Ky ty ny hky p
  have c1:((g:Int) * LN.coefP p tx).natAbs≤g * Kx:=by rw [Int.natAbs_mul,Int.natAbs_natCast]; exact Nat.mul_le_mul_left _ b1
  have c2:(j * d * LN.coefP p ty).natAbs≤R * d * Ky:=by
   rw [Int.natAbs_mul,Int.natAbs_mul,Int.natAbs_natCast]
   exact Nat.mul_le_mul (Nat.mul_le_mul_right _ hj) b2
  omega) h
 intro p hp
 have:=hz _ (List.mem_map.2 ⟨p,hp,rfl⟩)
 omega
theorem sum_far' {a dd:Int} {U V:List (List Int)} {K S:Nat} (hb:LN.certOk a LN.certL U V dd K S=true) {ty:List (Int×Int)} (my:∀ x∈ty,x.1∈smallP) (ny:(ty.map Prod.fst).Nodup) (h0:∀ x∈ty,x.2≠0) (hne:ty≠[]) (hky:∀ x∈ty,x.2.natAbs≤K):S≤(LN.sumT (lf 1024) ty).natAbs:=by
 refine Nat.le_of_not_lt fun hc=>?_
 rw [← certL_eq] at hb
 rw [← LN.dotI_coef (lf 1024) smallP smallP_nd ty my] at hc
 have hz:=LN.cert_zero hb (smallP.map fun p=>LN.coefP p ty) (by simp) (by
  intro x hx
  obtain ⟨p,_,rfl⟩:=List.mem_map.1 hx
  exact LN.coefP_le _ ty ny hky p) hc
 match ty,hne with
 | x :: l,_ =>
  have h5:=hz _ (List.mem_map.2 ⟨x.1,my x List.mem_cons_self,rfl⟩)
  rw [LN.coefP_mem _ ny x List.mem_cons_self] at h5
  exact h0 x List.mem_cons_self h5
theorem sum_far {ty:List (Int×Int)} (my:∀ x∈ty,x.1∈smallP) (ny:(ty.map Prod.fst).Nodup) (h0:∀ x∈ty,x.2≠0) (hne:ty≠[]) (hky:∀ x∈ty,x.2.natAbs≤LN.KB):LN.SB≤(LN.sumT (lf 1024) ty).natAbs :=
 sum_far' LN.certB_ok my ny h0 hne hky
theorem coefP_tlist {D:Nat}:∀ (ps:List Int) (l:List Rat),ps.Nodup→l.length=ps.length→∀ (i:Nat) (h1:i < ps.length) (h2:i < l.length),LN.coefP ps[i] (tlist D ps l)=LN.ex D l[i]
 | [],_,_,_,i,h1,_=>absurd h1 (Nat.not_lt_zero i)
 | p :: ps,[],_,h,_,_,_=>by simp at h
 | p :: ps,q :: l,hd,hl,i,h1,h2=>by
  simp only [List.nodup_cons] at hd
  have key:tlist D (p :: ps) (q :: l)=(if q.num=0 then tlist D ps l else (p,LN.ex D q) :: tlist D ps l):=by
   unfold tlist
   rw [List.zip_cons_cons,List.filterMap_cons]
   by_cases h:q.num=0
   ·simp only [h,if_true]
   ·simp only [h,if_false]; rfl
  have hnot:LN.coefP p (tlist D ps l)=0:=LN.coefP_none p _ fun hm=>hd.1 ((tlist_fst D ps l).subset hm)
  rw [key]
  cases i with
  | zero =>
   simp only [List.getElem_cons_zero]
   by_cases h:q.num=0
   ·rw [if_pos h,hnot,LN.ex_zero q h]
   ·rw [if_neg h,LN.coefP,if_pos rfl,hnot]; simp
  | succ i =>
   simp only [List.getElem_cons_succ]
   have h1':i < ps.length:=by simpa using h1
   have h2':i < l.length:=by simpa using h2
   have ih:=coefP_tlist (D:=D) ps l hd.2 (by simpa using hl) i h1' h2'
   by_cases h:q.num=0
   ·rw [if_pos h]; exact ih
   ·rw [if_neg h,LN.coefP,if_neg (fun e:p=ps[i]=>hd.1 (by rw [e]; exact List.getElem_mem h1')),ih]; simp
theorem mult_of_coefs {ps:List Int} {la lb:List Rat} {j:Int} (hnd:ps.Nodup) (hps:∀ p∈ps,p∈smallP) (l1:la.length=ps.length) (l2:lb.length=ps.length)
  (h:∀ p∈smallP,((tden lb:Nat):Int) * LN.coefP p (tlQ ps la)=j * ((tden la:Nat):Int) * LN.coefP p (tlQ ps lb)):la=lb.map fun x=>(j:Rat) * x:=by
 refine List.ext_getElem (by simp; omega) fun i h1 h2=>?_
 have i2:i < lb.length:=by omega
 have i3:i < ps.length:=by omega
 have e:=h ps[i] (hps _ (List.getElem_mem i3))
 unfold tlQ at e
 rw [coefP_tlist ps la hnd l1 i i3 h1,coefP_tlist ps lb hnd l2 i i3 i2] at e
 rw [List.getElem_map]
 have e2:(((tden lb:Nat):Int) * LN.ex (tden la) la[i]:Int)=((j * ((tden la:Nat):Int) * LN.ex (tden lb) lb[i]:Int)):=e
 have e3:((((tden lb:Nat):Int) * LN.ex (tden la) la[i]:Int):Rat)=((j * ((tden la:Nat):Int) * LN.ex (tden lb) lb[i]:Int):Rat):=by rw [e2]
 rw [Rat.intCast_mul,Rat.intCast_mul,Rat.intCast_mul,LN.ex_eq (LN.tden_dvd (List.getElem_mem h1)),LN.ex_eq (LN.tden_dvd (List.getElem_mem i2)),Rat.intCast_natCast,Rat.intCast_natCast] at e3
 have n1:((tden la:Nat):Rat)≠0:=by have:=Rat.natCast_pos.2 (LN.tden_pos' la); grind
 have n2:((tden lb:Nat):Rat)≠0:=by have:=Rat.natCast_pos.2 (LN.tden_pos' lb); grind
 generalize ((tden la:Nat):Rat)=a at *
 generalize ((tden lb:Nat):Rat)=b at *
 have hab:a * b≠0:=by
  intro hz
  rcases Rat.mul_eq_zero.1 hz with h | h
  ·exact n1 h
  ·exact n2 h
 have e4:(a * b) * la[i]=(a * b) * ((j:Rat) * lb[i]):=by grind
 have e5:=Rat.mul_inv_cancel (a * b) hab
 calc la[i]=(a * b) * (a * b)⁻¹ * la[i]:=by rw [e5,Rat.one_mul]
  _=(a * b)⁻¹ * ((a * b) * la[i]):=by grind
  _=(a * b)⁻¹ * ((a * b) * ((j:Rat) * lb[i])):=by rw [e4]
  _=(a * b) * (a * b)⁻¹ * ((j:Rat) * lb[i]):=by grind
  _=(j:Rat) * lb[i]:=by rw [e5,Rat.one_mul]
theorem ratio_mult {la lb:List Rat} {k:Rat} (h:la=lb.map fun x=>k * x):∀ n,(∃ i,i < n∧lb.getD i 0≠0)→ratioK la lb n=k
 | 0,⟨i,hi,_⟩=>absurd hi (Nat.not_lt_zero i)
 | n + 1,⟨i,hi,h0⟩=>by
  unfold ratioK
  by_cases hz:lb.getD n 0=0
  ·rw [if_pos hz]
   refine ratio_mult h n ⟨i,?_,h0⟩
   rcases Nat.lt_or_ge i n with hlt | hge
   ·exact hlt
   ·have:i=n:=by omega
    rw [this] at h0
    exact absurd hz h0
  ·rw [if_neg hz]
   have hlt:n < lb.length:=by
    refine Nat.lt_of_not_le fun hc=>hz ?_
    rw [List.getD_eq_getElem?_getD,List.getElem?_eq_none hc]; rfl
   have e:la.getD n 0=k * lb.getD n 0:=by
    rw [h,List.getD_eq_getElem?_getD,List.getD_eq_getElem?_getD,List.getElem?_map,List.getElem?_eq_getElem hlt]; rfl
   rw [e]
   generalize lb.getD n 0=x at *
   rw [Rat.div_def,Rat.mul_assoc,Rat.mul_inv_cancel x hz,Rat.mul_one]
theorem ratioB_mult {la lb:List Rat} {k:Rat} (h:la=lb.map fun x=>k * x) (n:Nat) (h0:∃ i,i < n∧lb.getD i 0≠0):ratioB la lb n (ratioK la lb n)=true:=by
 rw [ratio_mult h n h0]
 refine decide_eq_true fun j _=>?_
 rw [h,List.getD_eq_getElem?_getD,List.getD_eq_getElem?_getD,List.getElem?_map]
 cases lb[j]? with
 | none=>show k * 0=0; rw [Rat.mul_zero]
 | some x=>rfl
theorem flAt_dec {ps:List Int} {la lb:List Rat} {Kx Ky R X S:Nat} (hps:∀ p∈ps,p∈smallP) (hnd:ps.Nodup) (l1:la.length=ps.length) (l2:lb.length=ps.length) (hkx:∀ x∈tlQ ps la,x.2.natAbs≤Kx) (hky:∀ x∈tlQ ps lb,x.2.natAbs≤Ky)
  (hne:tlQ ps lb≠[]) (hS:S≤(LN.sumT (lf 1024) (tlQ ps lb)).natAbs)
  (N:FNum Kx Ky (tden la) (tden lb) S R ((tlQ ps la).length * Kx) ((tlQ ps lb).length * Ky) X) (hX:(LN.eLo (lf 1024) (tlQ ps la)).natAbs≤X∧(LN.eHi (lf 1024) (tlQ ps la)).natAbs≤X)
  (hr:ratioB la lb ps.length (ratioK la lb ps.length)=false):flAt 1024 (tlQ ps la) (tlQ ps lb) (tden la) (tden lb)≠none:=by
 intro hnone
 have mx:∀ x∈tlQ ps la,x.1∈smallP:=fun x hx=>hps _ (tlist_mem hx).1
 have my:∀ x∈tlQ ps lb,x.1∈smallP:=fun x hx=>hps _ (tlist_mem hx).1
 have nx:((tlQ ps la).map Prod.fst).Nodup:=(tlist_fst _ ps la).nodup hnd
 have ny:((tlQ ps lb).map Prod.fst).Nodup:=(tlist_fst _ ps lb).nodup hnd
 have key:∃ j:Int,j.natAbs≤R∧(((tden lb:Nat):Int) * LN.sumT (lf 1024) (tlQ ps la) - j * ((tden la:Nat):Int) * LN.sumT (lf 1024) (tlQ ps lb)).natAbs < LN.SA:=by
  have hd:=LN.tden_pos' la
  obtain ⟨y1,y2,y3,y4⟩:=ends_near (lf 1024) Ky (tlQ ps lb) hky
  have hs:=N.s
  unfold flAt flS at hnone
  rcases Int.lt_or_le 0 (LN.sumT (lf 1024) (tlQ ps lb)) with hT | hT
  ·rw [if_neg (by omega)] at hnone
   exact flE_none hd hkx hky N (by omega) hX hnone
  ·rw [if_pos (by omega)] at hnone
   have len1:(LN.negT (tlQ ps la)).length=(tlQ ps la).length:=by simp [LN.negT]
   have len2:(LN.negT (tlQ ps lb)).length=(tlQ ps lb).length:=by simp [LN.negT]
   obtain ⟨a1,a2⟩:=eLo_neg (lf 1024) (tlQ ps la)
   obtain ⟨b1,b2⟩:=eLo_neg (lf 1024) (tlQ ps lb)
   have kneg:∀ {l:List (Int×Int)} {K:Nat},(∀ x∈l,x.2.natAbs≤K)→∀ x∈LN.negT l,x.2.natAbs≤K:=by
    intro l K h x hx
    obtain ⟨y,hy,rfl⟩:=List.mem_map.1 hx
    have:=h y hy
    show (-y.2).natAbs≤K
    omega
   obtain ⟨j,hj,hz⟩:=flE_none (f:=lf 1024) (tx:=LN.negT (tlQ ps la)) (ty:=LN.negT (tlQ ps lb)) (S:=S) (R:=R) (X:=X) hd (kneg hkx) (kneg hky) (by rw [len1,len2]; exact N) (by rw [sumT_neg]; omega) (by rw [a1,a2]; omega) (by rw [a1,a2,b1,b2]; exact hnone)
   refine ⟨j,hj,?_⟩
   rw [sumT_neg,sumT_neg,Int.mul_neg,Int.mul_neg] at hz
   omega
 obtain ⟨j,hj,hz⟩:=key
 have hm:=mult_of_coefs hnd hps l1 l2 (coefs_small mx my nx ny hkx hky hj N.k hz)
 have h0:∃ i,i < ps.length∧lb.getD i 0≠0:=by
  refine Classical.byContradiction fun hc=>hne ?_
  have hall:∀ q∈lb,q=0:=fun q hq=>by
   obtain ⟨i,hi,rfl⟩:=List.mem_iff_getElem.1 hq
   refine Classical.byContradiction fun h=>hc ⟨i,by omega,?_⟩
   rw [List.getD_eq_getElem?_getD,List.getElem?_eq_getElem hi]; exact h
  refine List.eq_nil_iff_forall_not_mem.2 fun x hx=>?_
  obtain ⟨_,q,hq,hn,_⟩:=tlist_mem hx
  exact hn (by rw [hall q hq]; rfl)
 rw [ratioB_mult hm ps.length h0] at hr
 cases hr
end Go.Proofs.YtlomhfknmhaboaaGreatDoor

namespace Go.Proofs.YtlomhfknmhaboaaGreatDoor
open Go.RowKit
def RB:Nat:=2 ^ 104
def XB:Nat:=6 * 2 ^ (13 + (1024 + 3))
theorem num_s:6 * 4096 < LN.SB:=by decide +kernel
theorem num_r:XB * 12 < RB * (LN.SB - 6 * 4096):=by decide +kernel
theorem num_k:12 * 4096 + RB * 12 * 4096≤LN.KA:=by decide +kernel
theorem num_t:12 * (6 * 4096) + RB * 12 * (6 * 4096) < LN.SA:=by decide +kernel
theorem num_kb:4096≤LN.KB:=by decide +kernel
set_option maxRecDepth 100000 in
theorem fnum_small {d g nx ny S R X:Nat} (hd:d≤12) (hg:g≤12) (hx:nx≤6) (hy:ny≤6) (h1:6 * 4096 < S) (h2:X * 12 < R * (S - 6 * 4096)) (h3:12 * 4096 + R * 12 * 4096≤LN.KA) (h4:12 * (6 * 4096) + R * 12 * (6 * 4096) < LN.SA) :
  FNum 4096 4096 d g S R (nx * 4096) (ny * 4096) X:=by
 have b1:nx * 4096≤6 * 4096:=Nat.mul_le_mul_right _ hx
 have b2:ny * 4096≤6 * 4096:=Nat.mul_le_mul_right _ hy
 have b3:R * d≤R * 12:=Nat.mul_le_mul_left _ hd
 refine ⟨by clear h2 h3 h4; omega,?_,?_,?_⟩
 ·have c1:X * g≤X * 12:=Nat.mul_le_mul_left _ hg
  have c2:R * (S - 6 * 4096)≤R * (S - ny * 4096):=Nat.mul_le_mul_left _ (by clear h2 h3 h4; omega)
  clear h3 h4
  omega
 ·have c1:R * d * 4096≤R * 12 * 4096:=Nat.mul_le_mul_right _ b3
  clear h2 h4
  omega
 ·have c1:R * d * (ny * 4096)≤R * 12 * (6 * 4096):=Nat.mul_le_mul b3 b2
  have c2:g * (nx * 4096)≤12 * (6 * 4096):=Nat.mul_le_mul hg b1
  clear h2 h3
  omega
theorem Sml.kb {N M:Nat} {ps:List Int} {l:List Rat} (hM:0 < M) (h:Sml N M l):∀ x∈tlQ ps l,x.2.natAbs≤N:=by
 intro x hx
 obtain ⟨_,q,hq,_,he⟩:=tlist_mem hx
 have e:x.2=LN.ex (tden l) q:=he
 obtain ⟨m,hm⟩:=LN.tden_min (fun q hq=>(h q hq).1)
 have h3:=(h q hq).2
 rw [hm,Nat.mul_comm,LN.ex_mul (LN.tden_dvd hq),Int.natAbs_mul,Int.natAbs_natCast] at h3
 have hm0:0 < m:=by
  rcases Nat.eq_zero_or_pos m with h0 | h0
  ·rw [h0,Nat.mul_zero] at hm; omega
  ·exact h0
 rw [e]
 have h4:1 * (LN.ex (tden l) q).natAbs≤m * (LN.ex (tden l) q).natAbs:=Nat.mul_le_mul_right _ hm0
 omega
theorem Sml.den {N:Nat} {l:List Rat} (h:Sml N 12 l):tden l≤12:=Nat.le_of_dvd (by decide) (LN.tden_min (fun q hq=>(h q hq).1))
theorem tlQ_len6 {ps:List Int} (h:ps.length≤6) (l:List Rat):(tlQ ps l).length≤6:=Nat.le_trans (by have:=(tlist_fst (tden l) ps l).length_le; rw [List.length_map] at this; exact this) h
theorem tlQ_ne {ps:List Int} {l:List Rat} (hl:l.length=ps.length) (h:∃ q∈l,q≠0):tlQ ps l≠[]:=by
 obtain ⟨q,hq,h0⟩:=h
 obtain ⟨i,hi,rfl⟩:=List.mem_iff_getElem.1 hq
 intro e
 have hm:(ps[i]'(by omega),l[i].num * ((tden l / l[i].den:Nat):Int))∈tlQ ps l:=by
  unfold tlQ tlist
  refine List.mem_filterMap.2 ⟨(ps[i]'(by omega),l[i]),?_,?_⟩
  ·exact List.mem_iff_getElem.2 ⟨i,by simp; omega,by simp⟩
  ·rw [if_neg]
   intro hz
   exact h0 (Rat.num_eq_zero.1 hz)
 rw [e] at hm
 cases hm
theorem x_bound {tl:List (Int×Int)} (hp:PrT tl) (hl:tl.length≤6) (hk:∀ x∈tl,x.2.natAbs < 2 ^ 13):(LN.eLo (lf 1024) tl).natAbs≤XB∧(LN.eHi (lf 1024) tl).natAbs≤XB:=by
 obtain ⟨h1,h2⟩:=eSum_le (n:=1024) (by decide) tl hp hk
 unfold XB
 have h3:=@Nat.mul_le_mul_right tl.length 6 (2 ^ (13 + (1024 + 3))) hl
 exact ⟨Nat.le_trans h1 h3,Nat.le_trans h2 h3⟩
theorem flr_small {ps:List Int} {la lb:List Rat} (hps:∀ p∈ps,p∈smallP) (hnd:ps.Nodup) (h6:ps.length≤6) (l1:la.length=ps.length) (l2:lb.length=ps.length) (ha:Sml 4096 12 la) (hb:Sml 4096 12 lb) (h0:∃ q∈lb,q≠0):FlrOk ps la lb 13:=by
 have kx:=ha.kb (ps:=ps) (by decide)
 have ky:=hb.kb (ps:=ps) (by decide)
 have kx':∀ x∈tlQ ps la,x.2.natAbs < 2 ^ 13:=fun x hx=>Nat.lt_of_le_of_lt (kx x hx) (by decide)
 have ky':∀ x∈tlQ ps lb,x.2.natAbs < 2 ^ 13:=fun x hx=>Nat.lt_of_le_of_lt (ky x hx) (by decide)
 have my:∀ x∈tlQ ps lb,x.1∈smallP:=fun x hx=>hps _ (tlist_mem hx).1
 have hne:=tlQ_ne l2 h0
 refine ⟨hps,h6,kx',ky',Nat.lt_of_le_of_lt ha.den (by decide),Nat.lt_of_le_of_lt hb.den (by decide),by decide,sz_ne (hb.good (by decide) (by decide) hps hnd) (by omega) l2 h0,fun hr=>?_⟩
 exact flAt_dec hps hnd l1 l2 kx ky hne (sum_far my ((tlist_fst _ ps lb).nodup hnd) (fun _ hx=>tlQ_nz hx) hne fun x hx=>Nat.le_trans (ky x hx) num_kb)
  (fnum_small ha.den hb.den (tlQ_len6 h6 la) (tlQ_len6 h6 lb) num_s num_r num_k num_t) (x_bound (fun x hx=>smallP_pr (hps _ (tlist_mem hx).1)) (tlQ_len6 h6 la) kx') hr
theorem zw_sub {la lb:List Rat} (q r:Int) (h:la.length=lb.length):LN.subQ r la lb=List.zipWith (· + ·) (LN.subQ q la lb) (lb.map fun x=>(((q - r:Int)):Rat) * x):=by
 obtain ⟨m,hm⟩:∃ m:Rat,(((q - r:Int)):Rat)=m:=⟨_,rfl⟩
 have e:=Rat.intCast_sub q r
 rw [hm] at e ⊢
 clear hm
 refine List.ext_getElem (by simp [LN.subQ,h]) fun i h1 h2=>?_
 simp only [LN.subQ,List.getElem_zipWith,List.getElem_map]
 grind
theorem sz_lt_le {ps:List Int} {a b c:List Rat} (hp:∀ p∈ps,0 < p) (hab:a.length=b.length) (hc:c=List.zipWith (· + ·) a b):(LN.sz ps a < 0→LN.sz ps b≤0→LN.sz ps c < 0)∧(0 < LN.sz ps a→0≤LN.sz ps b→0 < LN.sz ps c):=by
 obtain ⟨x,y,hx,hy,e1,e2,e3⟩:=LN.sz_sum hp hab hc
 rw [e1,e2,e3]
 constructor
 ·intro h1 h2
  have h3:LN.sg x = -1:=by rcases LN.sg_cases x with h | h | h <;> omega
  rw [LN.sg_low.2 (LN.mul_lt_one hx (LN.sg_low.1 h3) (LN.sg_le.1 h2))]
  decide
 ·intro h1 h2
  have h3:LN.sg x=1:=by rcases LN.sg_cases x with h | h | h <;> omega
  rw [LN.sg_pos.2 (LN.one_lt_mul (LN.sg_pos.1 h3) (LN.sg_ge.1 h2))]
  decide
theorem szc {ps:List Int} (hp:∀ p∈ps,0 < p) (l:List Rat):LN.sz ps l=1∨LN.sz ps l=0∨LN.sz ps l = -1:=by
 rw [LN.sz_of_vt hp]; exact LN.sg_cases _
theorem floor_lt {ps:List Int} {la lb:List Rat} (hp:∀ p∈ps,0 < p) (hl:la.length=lb.length) {q r:Int} (hq:LN.FloorOf ps la lb q) (hr:LN.FloorOf ps la lb r):r≤q:=by
 refine Int.not_lt.1 fun hlt=>?_
 have h1:=hq.2
 have h2:=hr.1
 have e:=zw_sub (q + 1) r hl (la:=la) (lb:=lb)
 have hlen:(LN.subQ (q + 1) la lb).length=(lb.map fun x=>(((q + 1 - r:Int)):Rat) * x).length:=by simp [LN.subQ,hl]
 obtain ⟨k1,k2⟩:=sz_lt_le hp hlen e
 rw [LN.sz_mul hp] at k1 k2
 have hs:(((q + 1 - r:Int)):Rat).num.sign=(q + 1 - r).sign:=by rw [Rat.num_intCast]
 rw [hs] at k1 k2
 have hn:(q + 1 - r).sign = -1∨(q + 1 - r).sign=0:=by
  rcases sign_cases (q + 1 - r) with h | h | h
  ·exact .inl h.2
  ·exact .inr h.2
  ·omega
 rcases szc hp lb with hw | hw | hw
 ·rw [hw] at h1 h2 k1
  have:=k1 (by omega) (by rcases hn with h | h <;> rw [h] <;> decide)
  omega
 ·rw [hw] at h1; omega
 ·rw [hw] at h1 h2 k2
  have:=k2 (by omega) (by rcases hn with h | h <;> rw [h] <;> decide)
  omega
theorem floor_one {ps:List Int} {la lb:List Rat} (hp:∀ p∈ps,0 < p) (hl:la.length=lb.length) {q r:Int} (hq:LN.FloorOf ps la lb q) (hr:LN.FloorOf ps la lb r):q=r:=by
 have h1:=floor_lt hp hl hq hr
 have h2:=floor_lt hp hl hr hq
 omega
theorem FlrOk.exists {ps:List Int} {la lb:List Rat} {E:Nat} (F:FlrOk ps la lb E) (l1:la.length=ps.length) (l2:lb.length=ps.length):∃ q,LN.FloorOf ps la lb q:=by
 cases hr:ratioB la lb ps.length (ratioK la lb ps.length) with
 | true=>exact ⟨_,ratio_floor F.pr l1 l2 hr F.nz⟩
 | false =>
  have h:=F.dec hr
  cases hf:flAt 1024 (tlQ ps la) (tlQ ps lb) (tden la) (tden lb) with
  | none=>exact absurd hf h
  | some q=>exact ⟨q,flAt_floor F.pr (l1.trans l2.symm) (by decide) hf⟩
theorem floor_det (w:World) (ps:List Int) (a0 a1 a2:Option Addr) (c0 c1 c2 D E:Nat) (la lb:List Rat) (A:SizeOk w ps a0 a1 la D) (B:SizeOk w ps a0 a2 lb D) (hD0:0 < D) (F:FlrOk ps la lb E) (L:Laid w) {q:Int} (hq:LN.FloorOf ps la lb q) :
  Gives Tryz.prog 75 #[.slice a0 ps.length c0,.slice a1 la.length c1,.slice a2 lb.length c2] w (.string (itx q)):=by
 refine Calls.mono (floor_any w ps a0 a1 a2 c0 c1 c2 D E la lb A B hD0 F L) ?_
 rintro e w' ⟨⟨r,rfl,hr⟩,hb⟩
 rw [floor_one (smallP_pos' F.pr) (A.len.trans B.len.symm) hq hr]
 exact ⟨rfl,hb⟩
end Go.Proofs.YtlomhfknmhaboaaGreatDoor

namespace Go.Proofs.YtlomhfknmhaboaaGreatDoor
open Go.RowKit
theorem rat_one_int:((1:Int):Rat)=1:=rfl
theorem rat_mone_int:((-1:Int):Rat) = -1:=by decide +kernel
theorem cmp_ok {W:World} {ps:List Int} {a0 a1 a2:Option Addr} (c0 c1 c2:Nat) {la lb:List Rat} (hp:pcode ps=0) (h13:∀ p∈ps,2≤p∧p≤13) (hn:ps.length≤100) (rp:Rd W a0 (ints ps)) (r1:Rd W a1 (cellsQ la)) (r2:Rd W a2 (cellsQ lb))
  (l1:la.length=ps.length) (l2:lb.length=ps.length) (s1:∀ q∈la,Sm 30 q) (s2:∀ q∈lb,Sm 30 q) (g:Good ps (difQ la lb)) (L:Laid W) :
  Gives Tryz.prog 21 #[.slice a0 ps.length c0,.slice a1 ps.length c1,.slice a2 ps.length c2] W (.tuple #[.int .i64 (LN.sz ps (difQ la lb)),.int .i64 0]):=by
 have e:sumQ ps.length [la,lb] [1,-1]=difQ la lb:=by
  rw [sumQ_two _ _ _ _ _ l1 l2]
  unfold difQ
  rw [rat_one_int,rat_mone_int]
 have h97:∀ p∈ps,2≤p∧p≤97:=fun p hp=>by have:=h13 p hp; omega
 have h:=Compare_dec W ps a0 a1 a2 c0 c1 c2 la lb ⟨rp,r1,l1,hn,h97,s1,by decide⟩ ⟨rp,r2,l2,hn,h97,s2,by decide⟩ hp L (by rw [e]; exact g)
 rw [e,l1,l2] at h
 exact h
theorem addR_ok {W:World} {ps:List Int} {a0 a1 a2:Option Addr} (c0 c1 c2:Nat) {la lb:List Rat} (hp:pcode ps=0) (h13:∀ p∈ps,2≤p∧p≤13) (rp:Rd W a0 (ints ps)) (r1:Rd W a1 (cellsQ la)) (r2:Rd W a2 (cellsQ lb)) (l1:la.length=ps.length) (l2:lb.length=ps.length)
  (s1:∀ q∈la,Sm 2 q) (s2:∀ q∈lb,Sm 2 q) (L:Laid W) :
  Calls Tryz.prog 22 #[.slice a0 ps.length c0,.slice a1 ps.length c1,.slice a2 ps.length c2] W fun e w'=>∃ a c,e = .returned (.tuple #[.slice a ps.length c,.int .i64 0])∧Rd w' a (cellsQ (combineQ la lb 1 1))∧Below W.heap.size W w':=by
 have hi:I64s ps:=fun x hx=>by have:=h13 x hx; omega
 have h:AddFacts W ps la lb ⟨#[]⟩ ⟨#[]⟩:=⟨hi,hp,l1,l2,s1,s2,by decide,by decide,L⟩
 exact h.add (Below.refl _ _) c0 c1 c2 rp r1 r2
theorem pow_kb {a:Nat} (h:a≤1000000000):a≤Kb:=by
 have:(1000000000:Nat)≤Kb:=by decide
 omega
end Go.Proofs.YtlomhfknmhaboaaGreatDoor

namespace Go.Proofs.YtlomhfknmhaboaaGreatDoor
open Go.RowKit
theorem elRow:ElemOf Tryz.prog 70 3 (.int .i64 0) 1 8:=⟨Tryz.underlying70,info_parts infoP,rfl,by decide⟩
def OwnI (w:World) (B:Nat) (a:Option Addr) (c:Nat) (l:List Int):Prop:=w.ownsRow B 3 1 (.slice a l.length c) l.length (ints l)
theorem OwnI.rd {w:World} {B c:Nat} {a:Option Addr} {l:List Int} (h:OwnI w B a c l):Rd w a (ints l):=own_rd h
theorem OwnI.below {w w':World} {B c:Nat} {a:Option Addr} {l:List Int} (h:OwnI w B a c l) {D:Nat} (hb:Below D w w') (hD:w.heap.size≤D):OwnI w' B a c l:=own_below h hb hD
theorem OwnI.nil (w:World) (B:Nat):OwnI w B none 0 []:=World.ownsRow_nil w B _ 1
def Xs (xs:List Int):Prop:=∀ x∈xs,-1000≤x∧x≤1000
theorem mx_ok:∀ l:List Int,Xs l→mx l=0
 | [],_=>rfl
 | x :: l,h=>by
  have hx:=h x List.mem_cons_self
  rw [mx,if_neg (by omega)]
  exact mx_ok l fun y hy=>h y (List.mem_cons_of_mem _ hy)
theorem mrow_ok {n:Nat} {l:List Int} (h:Xs l) (hl:l.length=n):mrow n l=0:=by
 unfold mrow
 rw [if_pos hl,mx_ok l h]
theorem mcode_two {ps xs ys:List Int} (hp:pcode ps=0) (h1:Xs xs) (h2:Xs ys) (l1:xs.length=ps.length) (l2:ys.length=ps.length):mcode ps [xs,ys]=0:=by
 unfold mcode
 rw [if_pos hp,mgo,if_pos (mrow_ok h1 l1),mgo,if_pos (mrow_ok h2 l2),mgo]
theorem mcode_one {ps xs:List Int} (hp:pcode ps=0) (h1:Xs xs) (l1:xs.length=ps.length):mcode1 ps xs=0:=by
 unfold mcode1 mcode
 rw [if_pos hp,mgo,if_pos (mrow_ok h1 l1),mgo]
theorem rdi_two {w:World} {g:Nat} {a1 a2:Option Addr} {c1 c2:Nat} {r s:List Int} {t:TypeId} (h:w.heap[g]?=some (.cells #[.slice a1 r.length c1,.slice a2 s.length c2] t (0,0))) (h1:Rd w a1 (ints r)) (h2:Rd w a2 (ints s)):RdI w (some ⟨g,0,none⟩) [r,s]:=by
 obtain ⟨k0,k1⟩:w.cell? ⟨g,0,none⟩=some (.slice a1 r.length c1)∧w.cell? ⟨g,1,none⟩=some (.slice a2 s.length c2):=⟨by rw [cell_of_row w g 0 _ t (0,0) h]; rfl,by rw [cell_of_row w g 1 _ t (0,0) h]; rfl⟩
 refine .inr ⟨g,0,rfl,(Array.getElem?_eq_some_iff.1 h).1,fun i hi=>?_⟩
 match i,hi with
 | 0,_=>exact ⟨a1,c1,k0,h1⟩
 | 1,_=>exact ⟨a2,c2,k1,h2⟩
set_option maxHeartbeats 4000000 in
theorem monResult_ok (w:World) (ps xs:List Int) (a0 a1:Option Addr) (c0 c1:Nat) (rp:Rd w a0 (ints ps)) (hi:I64s ps) (hp:pcode ps=0) (rx:Rd w a1 (ints xs)) (l1:xs.length=ps.length) (h1:Xs xs) :
  Gives Tryz.prog 120 #[.slice a0 ps.length c0,.slice a1 ps.length c1] w (.tuple #[.slice a1 ps.length c1,.int .i64 0]):=by
 unfold Gives
 have hpos:=pcode_pos hp
 have Hc:Hid (∀ W g,Below w.heap.size w W→W.heap[g]?=some (.cells #[.slice a1 ps.length c1] 70 (0,0))→Gives Tryz.prog 85 #[.slice a0 ps.length c0,.slice (some ⟨g,0,none⟩) 1 1] W (.int .i64 0)):=fun W g hW hg=>by
  have:=monCheckAll_any W a0 _ c0 1 ps [xs] (rp.below hW nr_) hi (by omega) (rdi_one (by rw [l1]; exact hg) (rx.below hW nr_)) (by simp) (by intro l hl'; simp only [List.mem_cons,List.not_mem_nil,or_false] at hl'; subst hl'; omega)
  rw [show mcode ps [xs]=0 from mcode_one hp h1 l1] at this
  exact this
 clear rp hi hp rx l1 h1 hpos
 generalize ps.length=n at *
 have B0:=Lib.hid ((Below.refl w.heap.size w).alloc nr_ (.cells #[.slice a1 n c1] 70))
 go_enter Tryz.func120,Tryz.ntmps120
 go_wp2_with fail
 refine Calls.mono (Hc.out _ _ B0.out (Go.heap_alloc_new _ _)) ?_
 rintro e w1 ⟨rfl,hb1⟩
 have Hb1:=Lib.hid (B0.out.trans (hb1.mono B0.out.size))
 clear hb1 Hc
 go_wp2_with fail
 go_ret2
 exact ⟨rfl,Hb1.out⟩
def addI (xs ys:List Int):List Int:=List.zipWith (· + ·) xs ys
set_option maxRecDepth 100000 in
set_option maxHeartbeats 8000000 in
theorem monSum_ok (w:World) (ps xs ys:List Int) (a0 a1 a2:Option Addr) (c0 c1 c2:Nat) (rp:Rd w a0 (ints ps)) (hi:I64s ps) (hp:pcode ps=0) (rx:Rd w a1 (ints xs)) (ry:Rd w a2 (ints ys)) (l1:xs.length=ps.length) (l2:ys.length=ps.length)
  (h1:Xs xs) (h2:Xs ys) (h3:Xs (addI xs ys)) :
  Calls Tryz.prog 86 #[.slice a0 ps.length c0,.slice a1 ps.length c1,.slice a2 ps.length c2,.int .i64 1] w fun e w'=>∃ a c,e = .returned (.tuple #[.slice a ps.length c,.int .i64 0])∧Rd w' a (ints (addI xs ys))∧Below w.heap.size w w':=by
 have hpos:=pcode_pos hp
 have Hc:Hid (∀ W g,Below w.heap.size w W→W.heap[g]?=some (.cells #[.slice a1 ps.length c1,.slice a2 ps.length c2] 70 (0,0))→Gives Tryz.prog 85 #[.slice a0 ps.length c0,.slice (some ⟨g,0,none⟩) 2 2] W (.int .i64 0)):=fun W g hW hg=>by
  have:=monCheckAll_any W a0 _ c0 2 ps [xs,ys] (rp.below hW nr_) hi (by omega) (rdi_two (by rw [l1,l2]; exact hg) (rx.below hW nr_) (ry.below hW nr_)) (by simp) (by intro l hl'; simp only [List.mem_cons,List.not_mem_nil,or_false] at hl'; rcases hl' with rfl | rfl <;> omega)
  rw [mcode_two hp h1 h2 l1 l2] at this
  exact this
 have Hlen:Hid ((addI xs ys).length=ps.length):=by show _=_; unfold addI; rw [List.length_zipWith]; omega
 have Hres:Hid (∀ W a c,Below w.heap.size w W→Rd W a (ints (addI xs ys))→Gives Tryz.prog 120 #[.slice a0 ps.length c0,.slice a ps.length c] W (.tuple #[.slice a ps.length c,.int .i64 0])):=fun W a c hW hr =>
  monResult_ok W ps (addI xs ys) a0 a c0 c (rp.below hW nr_) hi hp hr Hlen.out h3
 have Hx:=Lib.hid rx
 have Hy:=Lib.hid ry
 have Hl1:=Lib.hid l1
 have Hl2:=Lib.hid l2
 have Hb1:=Lib.hid h1
 have Hb2:=Lib.hid h2
 have B0:=Lib.hid ((Below.refl w.heap.size w).alloc nr_ (.cells #[.slice a1 ps.length c1,.slice a2 ps.length c2] 70))
 have hn6:=hpos.2
 clear rp hi hp rx ry l1 l2 h1 h2 h3 hpos
 generalize ps.length=n at *
 go_enter Tryz.func86,Tryz.ntmps86
 go_wp2_with fail
 refine Calls.mono (Hc.out _ _ B0.out (Go.heap_alloc_new _ _)) ?_
 rintro e w1 ⟨rfl,hb⟩
 have B1:=Lib.hid (B0.out.trans (hb.mono B0.out.size))
 have hsz:w.heap.size≤w1.heap.size:=B1.out.size
 have O1:Hid (OwnI w1 w.heap.size none 0 (addI (xs.take 0) (ys.take 0))):=OwnI.nil w1 _
 clear hb Hc B0
 go_wp2_with fail
 go_loopw [11,23] (fun o i wr=>∃ (k:Nat) (b:Option Addr) (d:Nat),k≤n∧i = .int .i64 k∧o = .slice b k d∧Hid (OwnI wr w.heap.size b d (addI (xs.take k) (ys.take k)))∧Hid (Below w.heap.size w wr)) (fun _ i _=>n - (intOf i).toNat)
 case atStart=>exact ⟨0,none,0,Nat.zero_le _,rfl,rfl,O1,B1⟩
 case round =>
  clear B1 O1 hsz
  obtain ⟨k,b,d,hk,rfl,rfl,O,B⟩:=hrel
  by_cases hlt:k < n
  ·have hlt':(k:Int) < n:=by omega
   have hkx:k < xs.length:=by rw [Hl1.out]; exact hlt
   have hky:k < ys.length:=by rw [Hl2.out]; exact hlt
   have hx:=Hb1.out _ (List.getElem_mem hkx)
   have hy:=Hb2.out _ (List.getElem_mem hky)
   obtain ⟨b1,o1,rfl,hb1,hc1⟩:=Hx.out.open (by rw [ints_length]; omega)
   obtain ⟨b2,o2,rfl,hb2,hc2⟩:=Hy.out.open (by rw [ints_length]; omega)
   have x1:wr.cell? ⟨b1,o1 + k,none⟩=some (.int .i64 xs[k]):=by
    rw [B.out.cell (p:=⟨b1,o1 + k,none⟩) hb1]
    exact hc1 k _ (ints_get _ k hkx)
   have x2:wr.cell? ⟨b2,o2 + k,none⟩=some (.int .i64 ys[k]):=by
    rw [B.out.cell (p:=⟨b2,o2 + k,none⟩) hb2]
    exact hc2 k _ (ints_get _ k hky)
   have Hs:Hid (addI (xs.take (k + 1)) (ys.take (k + 1))=addI (xs.take k) (ys.take k) ++ [xs[k] + ys[k]]):=by
    show _=_
    unfold addI
    rw [List.take_add_one,List.take_add_one,List.getElem?_eq_getElem hkx,List.getElem?_eq_getElem hky,List.zipWith_append (by simp; omega)]
    rfl
   have Hlk:Hid ((addI (xs.take k) (ys.take k)).length=k):=by show _=_; unfold addI; rw [List.length_zipWith,List.length_take,List.length_take]; omega
   clear hc1 hc2
   generalize xs[k]=x at *
   generalize ys[k]=y at *
   have hwm:IntKind.i64.wrap (1 * y)=y:=by rw [Int.one_mul]; exact IntWalk.i64_in _ (by omega)
   have hwa:IntKind.i64.wrap (x + y)=x + y:=IntWalk.i64_in _ (by omega)
   have q1:=BW.cell x1
   have q2:=BW.cell x2
   have hnon:Nonempty (BW wr):=⟨⟨wr,Below.refl _ _⟩⟩
   have I:Hid (Below wr.heap.size wr wr.drew):=(Below.refl _ _).drew
   have Ow:Hid (wr.drew.ownsRow w.heap.size 3 1 (.slice b k d) k (ints (addI (xs.take k) (ys.take k)))):=by
    have h0:OwnI wr.drew w.heap.size b d (addI (xs.take k) (ys.take k)):=O.out.below I.out nr_
    unfold OwnI at h0
    rw [Hlk.out] at h0
    exact h0
   have Bd:=Lib.hid (B.out.drew)
   go_wp2_with fail
   refine RX.wp_region_readers 12 [(2,0),(2,1),(2,2),(2,3),(1,4),(2,5),(2,6),(2,7),(2,8),(1,9),(2,10),(2,11),(0,12),(0,13),(0,14)] (fun w'=>∃ p:BW wr,w'=p.w) (by kernel_rfl) (by kernel_rfl) ?_ ?_
   ·exact ⟨⟨_,I.out⟩,rfl⟩
   refine RX.walkR_any ?_
   simp only [dz_,tsc_,tz_]
   go_big_quiet_step (fail)
   refine wpQuiet_nil ?_
   refine RX.walkR_any ?_
   simp only [dsc_,dz_,tsc_,tz_]
   go_big_quiet_step (fail)
   refine wpQuiet_nil ?_
   refine RX.walkR_any ?_
   simp only [dsc_,dz_,tsc_,tz_]
   go_big_quiet_step (fail)
   refine wpQuiet_nil ?_
   refine RX.walkR_any ?_
   simp only [dsc_,dz_,tsc_,tz_]
   go_big_quiet_step (fail)
   refine wpQuiet_nil ?_
   refine RX.walkR_read ?_
   simp only [dsc_,dz_,tsc_,tz_]
   go_big_quiet_step (fail)
   refine wpQuiet_nil ?_
   refine RX.walkR_any ?_
   simp only [dsc_,dz_,tsc_,tz_]
   go_big_quiet_step (fail)
   refine wpQuiet_nil ?_
   refine RX.walkR_any ?_
   simp only [dsc_,dz_,tsc_,tz_]
   go_big_quiet_step (fail)
   refine wpQuiet_nil ?_
   refine RX.walkR_any ?_
   simp only [dsc_,dz_,tsc_,tz_]
   go_big_quiet_step (fail)
   refine wpQuiet_nil ?_
   refine RX.walkR_any ?_
   simp only [dsc_,dz_,tsc_,tz_]
   go_big_quiet_step (fail)
   refine wpQuiet_nil ?_
   refine RX.walkR_read ?_
   simp only [dsc_,dz_,tsc_,tz_]
   go_big_quiet_step (fail)
   refine wpQuiet_nil ?_
   refine RX.walkR_any ?_
   simp only [dsc_,dz_,tsc_,tz_]
   go_big_quiet_step (fail)
   refine wpQuiet_nil ?_
   refine RX.walkR_any ?_
   simp only [dsc_,dz_,tsc_,tz_]
   go_big_quiet_step (fail)
   refine wpQuiet_nil ?_
   clear hnon q1 q2
   refine RX.walkR_move ?_
   simp only [dsc_,dz_,tsc_,tz_]
   go_wp2_with fail
   refine RX.walkR_move ?_
   simp only [dsc_,dz_,tsc_,tz_]
   show wpList _ _ _ _ _ (wr.drew.alloc (Obj.cells ([Value.int .i64 (x + y)]).toArray 3))
   refine wpList_append_new rfl (.tmp 26) (.tmp 38) 70 rfl elRow _ 1 [.int .i64 (x + y)] rfl rfl Ow.out Bd.out.size rfl (by simp [Value.oneCell']) (by omega) (by omega) ?_
   intro v' w3 hown3 hg3 hnil3
   have B3:Hid (Below w.heap.size w w3):=(Bd.out.alloc Bd.out.size _).grown hg3 (Nat.le_trans Bd.out.size (by rw [World.size_alloc]; omega)) (fun j hj=>by have:=(Ow.out.lt j hj).1; omega)
   obtain ⟨b3,d3,rfl⟩:=own_form hown3
   have O3:Hid (OwnI w3 w.heap.size b3 d3 (addI (xs.take (k + 1)) (ys.take (k + 1)))):=by
    show w3.ownsRow _ _ _ _ _ _
    rw [Hs.out,List.length_append,Hlk.out,ints_append]
    exact hown3
   clear hown3 hg3 hnil3 Ow I Bd B O
   simp only [wpList]
   refine ⟨trivial,.inl rfl,?_⟩
   refine RX.walkR_move ?_
   simp only [dsc_,dz_,tsc_,tz_]
   go_wp2_with fail
   simp only [RX.walkR]
   go_wp2_with fail
   go_roundw
   case rel=>exact ⟨k + 1,b3,d3,by omega,by go_num,rfl,O3,B3⟩
   case measure=>simp [intOf]; omega
  ·have hlt':¬ (k:Int) < n:=by omega
   have hkn:k=n:=by omega
   subst hkn
   have Hfull:Hid (addI (xs.take k) (ys.take k)=addI xs ys):=by
    show _=_
    rw [List.take_of_length_le (by rw [Hl1.out]; exact Nat.le_refl _),List.take_of_length_le (by rw [Hl2.out]; exact Nat.le_refl _)]
   rw [Hfull.out] at O
   have Rr:=Lib.hid O.out.rd
   have Hr:=Lib.hid (Hres.out wr b d B.out Rr.out)
   clear Hres O Hfull
   go_wp2_with fail
   refine Calls.mono Hr.out ?_
   rintro e w2 ⟨rfl,hb⟩
   have B2:=Lib.hid (B.out.trans (hb.mono B.out.size))
   have R2:=Lib.hid (Rr.out.below hb nr_)
   clear hb Hr
   go_wp2_with fail
   go_ret2
   exact ⟨b,d,rfl,R2.out,B2.out⟩
set_option maxHeartbeats 4000000 in
theorem monAdd_ok (w:World) (ps xs ys:List Int) (a0 a1 a2:Option Addr) (c0 c1 c2:Nat) (rp:Rd w a0 (ints ps)) (hi:I64s ps) (hp:pcode ps=0) (rx:Rd w a1 (ints xs)) (ry:Rd w a2 (ints ys)) (l1:xs.length=ps.length) (l2:ys.length=ps.length)
  (h1:Xs xs) (h2:Xs ys) (h3:Xs (addI xs ys)) :
  Calls Tryz.prog 43 #[.slice a0 ps.length c0,.slice a1 ps.length c1,.slice a2 ps.length c2] w fun e w'=>∃ a c,e = .returned (.tuple #[.slice a ps.length c,.int .i64 0])∧Rd w' a (ints (addI xs ys))∧Below w.heap.size w w':=by
 have Hc:=Lib.hid (monSum_ok w ps xs ys a0 a1 a2 c0 c1 c2 rp hi hp rx ry l1 l2 h1 h2 h3)
 clear rp hi hp rx ry l1 l2 h1 h2 h3
 generalize ps.length=n at *
 go_enter Tryz.func43,Tryz.ntmps43
 go_wp2_with fail
 refine Calls.mono Hc.out ?_
 rintro e w1 ⟨a,c,rfl,hr,hb⟩
 have R1:=Lib.hid hr
 have B1:=Lib.hid hb
 clear hr hb Hc
 go_wp2_with fail
 go_ret2
 exact ⟨a,c,rfl,R1.out,B1.out⟩
end Go.Proofs.YtlomhfknmhaboaaGreatDoor

namespace Go.Proofs.YtlomhfknmhaboaaGreatDoor
open Go.RowKit
theorem wpList_append_new_at {P:Program} {W:World} {ops:Array Oper} {rest:List Oper} {o:Oper} {a:Act} {Q:Exit→Act→World→Prop} (hgd:o.guard=none) (s x:Operand) (t:TypeId)
  (ho:o.op = .call { callee := .builtin .append,args := #[s,x],argTypes := #[t,t] })
  {e:TypeId} {z:Value} {size bytes:Nat} (E:ElemOf P t e z size bytes)
  (v:Value) (m:Nat) (news:List Value) (hs:a.eval s=v) (hx:a.eval x = .slice (some ⟨W.heap.size,0,none⟩) m m)
  {base n:Nat} {xs:List Value} (hown:W.ownsRow base e size v n xs) (hbase:base≤W.heap.size)
  (hl:news.length=m * size) (h1:∀ u∈news,u.oneCell'=true) (h63:n + m≤4611686018427387904) (hbytes:(n + m) * bytes≤140737488355328)
  (h:∀ v' w',w'.ownsRow base e size v' (n + m) (xs ++ news)→(W.alloc (.cells news.toArray e)).grownBy w' v.ownBlock→(v'.ownBlock=v.ownBlock∨v'.ownBlock=some (W.alloc (.cells news.toArray e)).heap.size)→wpList P ops Q rest (a.put o.dst v') w') :
  wpList P ops Q (o :: rest) a (W.alloc (.cells news.toArray e)):=by
 obtain ⟨i,hi,hz,hsize,hby⟩:=E.info
 refine wpList_append_own_at _ hgd s x t ho base e i z size bytes E.ht hi hz hsize hby E.hzs E.pos v n xs hs (hown.alloc _) ⟨W.heap.size,0,none⟩ m m news hx hl ?_ h1 (by unfold maxLen; omega) hbytes (by simp; omega) fun v' w' a b _ d=>h v' w' a b d
 intro j u hj
 have hadd:(⟨W.heap.size,0,none⟩:Addr).add j=⟨W.heap.size,j,none⟩:=by unfold Addr.add; split <;> simp_all
 rw [hadd,cell_of_row _ W.heap.size j _ e (0,0) (heap_alloc_new W _)]
 simpa using hj
def rowI (nu:Nat→Int) (m:Nat):List Int:=(List.range m).map fun i=>(nu i).tmod 41
theorem rowI_length (nu:Nat→Int) (m:Nat):(rowI nu m).length=m:=by simp [rowI]
theorem rowI_succ (nu:Nat→Int) (m:Nat):rowI nu (m + 1)=rowI nu m ++ [(nu m).tmod 41]:=by simp [rowI,List.range_succ]
theorem rowI_le (nu:Nat→Int) (m:Nat):∀ x∈rowI nu m,-40≤x∧x≤40:=by
 intro x hx
 obtain ⟨i,_,rfl⟩:=List.mem_map.1 hx
 have t1:=Int.tmod_lt_of_pos (nu i) (show (0:Int) < 41 by decide)
 have t2:=Int.lt_tmod_of_pos (nu i) (show (0:Int) < 41 by decide)
 omega
def castQ (l:List Int):List Rat:=l.map fun x:Int=>(x:Rat)
theorem castQ_length (l:List Int):(castQ l).length=l.length:=by simp [castQ]
def IvlOut (w:World) (nu:Nat→Int) (m:Nat) (e:Ending) (w':World):Prop :=
 ∃ a c a' c',e = .returned (.tuple #[.slice a m c,.slice a' m c'])∧Rd w' a (ints (rowI nu m))∧Rd w' a' (cellsQ (castQ (rowI nu m)))∧Below w.heap.size w w'
set_option maxRecDepth 100000 in
set_option maxHeartbeats 16000000 in
theorem interval_any (w:World) (a0:Option Addr) (c0 m:Nat) (hm:m≤4) (nu:Nat→Int) (de:Nat→Nat) (hn:∀ k,-128≤nu k∧nu k≤127) (L:Laid w) :
  Calls Tryz.prog 42 #[.slice a0 m c0,.agg (partsV nu de)] w (IvlOut w nu m):=by
 have HF:Hid (∀ W (z:Int),-40≤z→z≤40→Below w.heap.size w W→Gives Tryz.prog 18 #[.int .i64 z,.int .i64 1] W (fr (z:Rat))):=fun W z h1 h2 hW=>by
  have:=partR W z 1 (by omega) (by omega) (by decide) (by decide) (L.below hW)
  rw [Rat.mkRat_one] at this
  exact this
 unfold fr fv at HF
 have B0:Hid (Below w.heap.size w (((w.alloc (.cells #[.int .i8 (nu 0),.int .u8 (de 0),.int .i8 (nu 1),.int .u8 (de 1),.int .i8 (nu 2),.int .u8 (de 2),.int .i8 (nu 3),.int .u8 (de 3)] 40)).alloc (.cells #[] 3)).alloc (.cells #[] 30))):=(((Below.refl w.heap.size w).alloc nr_ _).alloc (by simp) _).alloc (by simp; omega) _
 have K0:Hid ((((w.alloc (.cells #[.int .i8 (nu 0),.int .u8 (de 0),.int .i8 (nu 1),.int .u8 (de 1),.int .i8 (nu 2),.int .u8 (de 2),.int .i8 (nu 3),.int .u8 (de 3)] 40)).alloc (.cells #[] 3)).alloc (.cells #[] 30)).heap[w.heap.size]?=some (.cells #[.int .i8 (nu 0),.int .u8 (de 0),.int .i8 (nu 1),.int .u8 (de 1),.int .i8 (nu 2),.int .u8 (de 2),.int .i8 (nu 3),.int .u8 (de 3)] 40 (0,0))):=heap_old (heap_old (heap_at w #[.int .i8 (nu 0),.int .u8 (de 0),.int .i8 (nu 1),.int .u8 (de 1),.int .i8 (nu 2),.int .u8 (de 2),.int .i8 (nu 3),.int .u8 (de 3)] 40 _ rfl) _) _
 have O1:Hid ((((w.alloc (.cells #[.int .i8 (nu 0),.int .u8 (de 0),.int .i8 (nu 1),.int .u8 (de 1),.int .i8 (nu 2),.int .u8 (de 2),.int .i8 (nu 3),.int .u8 (de 3)] 40)).alloc (.cells #[] 3)).alloc (.cells #[] 30)).ownsRow (w.heap.size + 1) 3 1 (.slice (some ⟨w.heap.size + 1,0,none⟩) 0 0) 0 (ints (rowI nu 0))):=by
  have h:=World.ownsRow_made (w.alloc (.cells #[.int .i8 (nu 0),.int .u8 (de 0),.int .i8 (nu 1),.int .u8 (de 1),.int .i8 (nu 2),.int .u8 (de 2),.int .i8 (nu 3),.int .u8 (de 3)] 40)) (base:=w.heap.size + 1) (e:=3) (size:=1) #[] 0 (by simp) (by decide) rfl
  rw [World.size_alloc] at h
  exact h.alloc _
 have O2:Hid ((((w.alloc (.cells #[.int .i8 (nu 0),.int .u8 (de 0),.int .i8 (nu 1),.int .u8 (de 1),.int .i8 (nu 2),.int .u8 (de 2),.int .i8 (nu 3),.int .u8 (de 3)] 40)).alloc (.cells #[] 3)).alloc (.cells #[] 30)).ownsRow (w.heap.size + 1) 30 2 (.slice (some ⟨w.heap.size + 2,0,none⟩) 0 0) 0 (cellsQ (castQ (rowI nu 0)))):=by
  have h:=World.ownsRow_made ((w.alloc (.cells #[.int .i8 (nu 0),.int .u8 (de 0),.int .i8 (nu 1),.int .u8 (de 1),.int .i8 (nu 2),.int .u8 (de 2),.int .i8 (nu 3),.int .u8 (de 3)] 40)).alloc (.cells #[] 3)) (base:=w.heap.size + 1) (e:=30) (size:=2) #[] 0 (by simp) (by decide) rfl
  rw [World.size_alloc,World.size_alloc] at h
  exact h
 have N0:Hid ((Value.slice (some ⟨w.heap.size + 1,0,none⟩) 0 0).ownBlock≠(Value.slice (some ⟨w.heap.size + 2,0,none⟩) 0 0).ownBlock):=by
  show _≠_
  simp [Value.ownBlock]
 have Hn:=Lib.hid hn
 clear L hn
 unfold partsV
 go_enter Tryz.func42,Tryz.ntmps42
 go_wp2_with fail
 generalize ((w.alloc (.cells #[.int .i8 (nu 0),.int .u8 (de 0),.int .i8 (nu 1),.int .u8 (de 1),.int .i8 (nu 2),.int .u8 (de 2),.int .i8 (nu 3),.int .u8 (de 3)] 40)).alloc (.cells #[] 3)).alloc (.cells #[] 30)=W0 at *
 go_loopw [6,7,8] (fun o1 o2 i wr=>∃ (k:Nat) (b1 b2:Option Addr) (d1 d2:Nat),k≤m∧i = .int .i64 k∧o1 = .slice b1 k d1∧o2 = .slice b2 k d2∧Hid (wr.heap[w.heap.size]?=some (.cells #[.int .i8 (nu 0),.int .u8 (de 0),.int .i8 (nu 1),.int .u8 (de 1),.int .i8 (nu 2),.int .u8 (de 2),.int .i8 (nu 3),.int .u8 (de 3)] 40 (0,0)))∧Hid (wr.ownsRow (w.heap.size + 1) 3 1 (.slice b1 k d1) k (ints (rowI nu k)))∧Hid (wr.ownsRow (w.heap.size + 1) 30 2 (.slice b2 k d2) k (cellsQ (castQ (rowI nu k))))∧Hid ((Value.slice b1 k d1).ownBlock≠(Value.slice b2 k d2).ownBlock)∧Hid (Below w.heap.size w wr)) (fun _ _ i _=>m - (intOf i).toNat)
 case atStart=>exact ⟨0,_,_,_,_,Nat.zero_le _,rfl,rfl,rfl,K0,O1,O2,N0,B0⟩
 case round =>
  clear B0 K0 O1 O2 N0
  obtain ⟨k,b1,b2,d1,d2,hk,rfl,rfl,rfl,K,O1,O2,NE,B⟩:=hrel
  by_cases hlt:k < m
  ·have hlt':(k:Int) < m:=by omega
   have htm:Int.tmod (k:Int) 4=k:=by rw [Int.tmod_eq_emod_of_nonneg (by omega)]; omega
   obtain ⟨x0,x1⟩:=parts_cells (nu:=nu) (de:=de) K.out k (by omega)
   have hk4:(0:Int)≤k∧(k:Int) < 4:=⟨by omega,by omega⟩
   have Hs:=Lib.hid (rowI_succ nu k)
   have t1:=Int.tmod_lt_of_pos (nu k) (show (0:Int) < 41 by decide)
   have t2:=Int.lt_tmod_of_pos (nu k) (show (0:Int) < 41 by decide)
   have hnk:=Hn.out k
   have hw:wrap64 ((nu k).tmod 41)=(nu k).tmod 41:=IntWalk.wrap64_in _ ⟨by omega,by omega⟩
   generalize nu k=y at *
   generalize de k=y2 at *
   go_wp2_with (at_builtin; refine wpList_append_new_at rfl (.tmp 25) (.tmp 27) 70 rfl elRow _ 1 [.int .i64 (y.tmod 41)] rfl rfl O1.out (by have:=B.out.size; have:=(Array.getElem?_eq_some_iff.1 K.out).1; omega) rfl (by simp [Value.oneCell']) (by omega) (by omega) ?_)
   intro v1 w1 hown1 hg1 hat1
   have hsz:w.heap.size < wr.heap.size:=(Array.getElem?_eq_some_iff.1 K.out).1
   have B1:Hid (Below w.heap.size w w1):=(B.out.alloc B.out.size _).grown hg1 (by rw [World.size_alloc]; omega) (fun j hj=>by have:=(O1.out.lt j hj).1; omega)
   have K1:Hid (w1.heap[w.heap.size]?=some (.cells #[.int .i8 (nu 0),.int .u8 (de 0),.int .i8 (nu 1),.int .u8 (de 1),.int .i8 (nu 2),.int .u8 (de 2),.int .i8 (nu 3),.int .u8 (de 3)] 40 (0,0))):=by
    show _=_
    rw [hg1.block _ (by rw [World.size_alloc]; omega) (fun e=>by have:=(O1.out.lt _ e.symm).1; omega)]
    exact heap_old K.out _
   have P2:Hid (w1.ownsRow (w.heap.size + 1) 30 2 (.slice b2 k d2) k (cellsQ (castQ (rowI nu k)))):=(O2.out.alloc _).kept hg1 (.inr (fun e=>NE.out e.symm))
   have NE1:Hid (v1.ownBlock≠(Value.slice b2 k d2).ownBlock):=by
    rcases hat1 with h | h
    ·rw [h]; exact NE.out
    ·rw [h]
     intro e
     have:=(O2.out.lt _ e.symm).2
     omega
   have S1:Hid (w.heap.size + 1≤w1.heap.size):=by
    have:=hg1.size
    rw [World.size_alloc] at this
    show _≤_
    omega
   obtain ⟨b3,d3,rfl⟩:=own_form hown1
   have P1:Hid (w1.ownsRow (w.heap.size + 1) 3 1 (.slice b3 (k + 1) d3) (k + 1) (ints (rowI nu k) ++ [.int .i64 (y.tmod 41)])):=hown1
   clear hown1 hg1 hat1 K O1 O2 NE B x0 x1 hsz
   have Hf:=Lib.hid (HF.out w1 (y.tmod 41) (by omega) (by omega) B1.out)
   go_wp2_with fail
   refine Calls.mono Hf.out ?_
   rintro e w2 ⟨rfl,hb⟩
   have B2:=Lib.hid (B1.out.trans (hb.mono B1.out.size))
   have K2:=Lib.hid (heap_kept K1.out hb nr_)
   have Q1:=Lib.hid (own_below P1.out hb nr_)
   have Q2:=Lib.hid (own_below P2.out hb nr_)
   have S2:=Lib.hid (Nat.le_trans S1.out hb.size)
   clear hb Hf B1 K1 P1 P2 S1
   go_wp2_with (at_builtin; refine wpList_append_new_at rfl (.tmp 29) (.tmp 32) 34 rfl elQ _ 1 [.string (itx ((y.tmod 41:Int):Rat).num),.string (dec ((y.tmod 41:Int):Rat).den)] rfl rfl Q2.out S2.out rfl (by simp [Value.oneCell']) (by omega) (by omega) ?_)
   intro v2 w3 hown2 hg2 hat2
   have hsz:w.heap.size < w2.heap.size:=(Array.getElem?_eq_some_iff.1 K2.out).1
   have B3:Hid (Below w.heap.size w w3):=(B2.out.alloc B2.out.size _).grown hg2 (by rw [World.size_alloc]; omega) (fun j hj=>by have:=(Q2.out.lt j hj).1; omega)
   have K3:Hid (w3.heap[w.heap.size]?=some (.cells #[.int .i8 (nu 0),.int .u8 (de 0),.int .i8 (nu 1),.int .u8 (de 1),.int .i8 (nu 2),.int .u8 (de 2),.int .i8 (nu 3),.int .u8 (de 3)] 40 (0,0))):=by
    show _=_
    rw [hg2.block _ (by rw [World.size_alloc]; omega) (fun e=>by have:=(Q2.out.lt _ e.symm).1; omega)]
    exact heap_old K2.out _
   have R1:Hid (w3.ownsRow (w.heap.size + 1) 3 1 (.slice b3 (k + 1) d3) (k + 1) (ints (rowI nu k) ++ [.int .i64 (y.tmod 41)])):=(Q1.out.alloc _).kept hg2 (.inr (fun e=>NE1.out e))
   have NE3:Hid ((Value.slice b3 (k + 1) d3).ownBlock≠v2.ownBlock):=by
    rcases hat2 with h | h
    ·rw [h]; exact NE1.out
    ·rw [h]
     intro e
     have:=(Q1.out.lt _ e).2
     omega
   obtain ⟨b4,d4,rfl⟩:=own_form hown2
   have O3:Hid (w3.ownsRow (w.heap.size + 1) 3 1 (.slice b3 (k + 1) d3) (k + 1) (ints (rowI nu (k + 1)))):=by
    rw [Hs.out,ints_append]
    exact R1.out
   have O4:Hid (w3.ownsRow (w.heap.size + 1) 30 2 (.slice b4 (k + 1) d4) (k + 1) (cellsQ (castQ (rowI nu (k + 1))))):=by
    rw [Hs.out]
    unfold castQ cellsQ
    rw [List.map_append,List.map_append,cellsS_append]
    exact hown2
   clear hown2 hg2 hat2 B2 K2 Q1 Q2 S2 R1 NE1 hsz
   go_wp2_with fail
   go_roundw
   case rel=>exact ⟨k + 1,b3,b4,d3,d4,by omega,by go_num,rfl,rfl,K3,O3,O4,NE3,B3⟩
   case measure=>simp [intOf]; omega
  ·have hlt':¬ (k:Int) < m:=by omega
   have hkm:k=m:=by omega
   subst hkm
   have R1:=Lib.hid (own_rd O1.out)
   have R2:Hid (Rd wr b2 (cellsQ (castQ (rowI nu k)))):=by
    refine OwnQ.rd (B:=w.heap.size + 1) (c:=d2) (own_ownQ ?_)
    rw [castQ_length,rowI_length]
    exact O2.out
   go_wp2_with fail
   go_ret2
   exact ⟨b1,d1,b2,d2,rfl,R1.out,R2.out,B.out⟩
end Go.Proofs.YtlomhfknmhaboaaGreatDoor

namespace Go.Proofs.YtlomhfknmhaboaaGreatDoor
open Go.RowKit
theorem num_b {b:Nat} (hb2:b≤97):Num b:=num_pow (D:=2) (show b < 10 ^ 2 by omega) (by decide) (by decide)
theorem size_pw (b n:Nat) (hb2:b≤97) (hn:n≤2000):(dec (b ^ n)).size≤4001:=by
 obtain ⟨D,hD⟩:∃ D:Nat,D=4001:=⟨_,rfl⟩
 rw [← hD,size_lt _ _ (by omega)]
 have h1:b ^ n≤(10 ^ 2) ^ n:=Nat.pow_le_pow_left (by omega) n
 rw [← Nat.pow_mul] at h1
 exact Nat.lt_of_le_of_lt h1 (Nat.pow_lt_pow_right (by decide) (by omega))
theorem limbs_pw (b n y:Nat) (hb2:b≤97) (hn:n≤2000) (hy:y≤n):(limbs (b ^ y)).length≤10000 :=
 limbs_of_dec _ 10000 (by decide) (Nat.le_trans (size_pw b y hb2 (by omega)) (by decide))
set_option maxHeartbeats 4000000 in
theorem bits_anyb (w:World) (b:Nat) (hb1:2≤b) (hb2:b≤97) (L:Laid w):Gives Tryz.prog 145 #[.string (dec b)] w (.int .i64 ((b.log2 + 1:Nat):Int)):=by
 unfold Gives
 have h:=smallS_any w b (Nat.le_trans (num_b hb2) (by decide)) L
 rw [if_pos (by omega)] at h
 have H:=Lib.hid h
 have Hl:Hid (∀ W:World,Calls Tryz.prog 167 #[.int .u64 b] W fun e w'=>e = .returned (.int .i64 ((b.log2 + 1:Nat):Int))∧w'=W):=fun W=>by
  have:=Tryz.bits_Len64 b W (by omega) (by omega)
  rw [show ((b:Nat):Int).toNat=b from rfl,bitLen_log b (by omega) hb2] at this
  exact this
 clear L h
 generalize dec b=s at *
 generalize ((b.log2 + 1:Nat):Int)=r at *
 go_enter Tryz.func145,Tryz.ntmps145
 go_wp2_with fail
 refine Calls.mono H.out ?_
 rintro e w1 ⟨rfl,hb1⟩
 have B1:=Lib.hid hb1
 clear hb1 H
 go_wp2_with fail
 refine Calls.mono (Hl.out _) ?_
 rintro e w2 ⟨rfl,rfl⟩
 clear Hl
 go_wp2_with fail
 go_ret
 exact ⟨rfl,B1.out⟩
set_option maxHeartbeats 4000000 in
theorem times_pow (W:World) (b n x y:Nat) (hb2:b≤97) (hn:n≤2000) (hx:x≤n) (hy:y≤n) (a1 a2:Option Addr) (c1 c2:Nat) (h1:ReadsU W a1 (limbs (b ^ x))) (h2:ReadsU W a2 (limbs (b ^ y))) :
  Calls Tryz.prog 143 #[.slice a1 (limbs (b ^ x)).length c1,.slice a2 (limbs (b ^ y)).length c2] W fun e w'=>∃ a c,e = .returned (.slice a (limbs (b ^ (x + y))).length c)∧ReadsU w' a (limbs (b ^ (x + y)))∧Below W.heap.size W w':=by
 have l1:=limbs_pw b n x hb2 hn hx
 have l2:=limbs_pw b n y hb2 hn hy
 refine Calls.mono (times_any W a1 a2 c1 c2 _ _ h1 h2 (limbs_pcs _) (limbs_pcs _) (by omega) (by omega)) ?_
 rintro e w' ⟨a,c,rfl,ho,hb⟩
 rw [val_limbs,val_limbs,← Nat.pow_add] at *
 exact ⟨a,c,rfl,ho.reads,hb⟩
set_option maxRecDepth 100000 in
set_option maxHeartbeats 8000000 in
theorem powerB_any (w:World) (b n:Nat) (hb1:2≤b) (hb2:b≤97) (hn:n≤2000) (L:Laid w):Gives Tryz.prog 121 #[.string (dec b),.int .i64 n] w (.tuple #[.string (dec (b ^ n)),.int .i64 0]):=by
 unfold Gives
 have hz:=is_zero b
 have ho:=is_one b
 rw [decide_eq_false (by omega)] at hz ho
 have Hb:Hid (∀ W,Below w.heap.size w W→Gives Tryz.prog 145 #[.string (dec b)] W (.int .i64 ((b.log2 + 1:Nat):Int))):=fun W hW=>bits_anyb W b hb1 hb2 (L.below hW)
 have Hc:Hid (∀ W,GivesU 142 #[.string (dec b)] W (b ^ 1)):=fun W=>by rw [Nat.pow_one]; exact cutD W b (num_b hb2)
 have Hs:=Lib.hid (size_pw b n hb2 hn)
 clear L
 by_cases h0:n=0
 ·subst h0
  have Hv:Hid (dec (b ^ 0)=⟨#[49]⟩):=by show _=_; rw [Nat.pow_zero,dec_one]
  generalize dec (b ^ 0)=vv at *
  clear Hb Hc hn
  generalize dec b=s at *
  go_enter Tryz.func121,Tryz.ntmps121
  go_wp2_with fail
  go_ret2
  exact ⟨by rw [Hv.out]; rfl,Below.refl _ _⟩
 ·have hn0:((n:Int) == 0)=false:=by rw [beq_eq_false_iff_ne]; omega
  have hnn:¬ (n:Int) < 0:=by omega
  have hl1:1≤b.log2:=by
   have:=(Nat.le_log2 (n:=b) (k:=1) (by omega)).2 (by omega)
   omega
  have hl2:b.log2≤6:=by
   have:=(Nat.log2_lt (n:=b) (k:=7) (by omega)).2 (by omega)
   omega
  have hw0:IntKind.i64.wrap (((b.log2 + 1:Nat):Int) - 1)=(b.log2:Int):=by rw [show ((b.log2 + 1:Nat):Int) - 1=(b.log2:Int) by omega]; exact IntWalk.i64_in _ (by omega)
  have hdz:((b.log2:Int) == 0)=false:=by rw [beq_eq_false_iff_ne]; omega
  have hdv:Int.tdiv 66439 (b.log2:Int)=66439 / (b.log2:Int):=Int.tdiv_eq_ediv_of_nonneg (by decide)
  have hdl:(2000:Int)≤66439 / (b.log2:Int):=by rw [Int.le_ediv_iff_mul_le (by omega)]; omega
  have hdu:66439 / (b.log2:Int)≤66439:=Int.ediv_le_self _ (by decide)
  have hnl:¬ 66439 / (b.log2:Int) < n:=by omega
  have hwd:IntKind.i64.wrap (66439 / (b.log2:Int))=66439 / (b.log2:Int):=IntWalk.i64_in _ (by omega)
  unfold GivesU at Hc
  obtain ⟨vv,hvv⟩:∃ s,dec (b ^ n)=s:=⟨_,rfl⟩
  have Hvv:=Lib.hid hvv
  rw [hvv] at Hs ⊢
  clear hvv
  generalize dec b=s at *
  go_enter Tryz.func121,Tryz.ntmps121
  go_wp2_with fail
  refine Calls.mono (Hb.out _ (Below.refl _ _)) ?_
  rintro e w1 ⟨rfl,hb1⟩
  have B1:=Lib.hid hb1
  clear hb1 Hb
  go_wp2_with fail
  have B2:=Lib.hid (B1.out.alloc B1.out.size (.cells #[.int .u64 1] 112))
  have R1:Hid (ReadsU (w1.alloc (.cells #[.int .u64 1] 112)) (some ⟨w1.heap.size,0,none⟩) (limbs 1)):=readsU_one (Go.heap_alloc_new w1 _)
  generalize w1.alloc (.cells #[.int .u64 1] 112)=w2 at *
  clear B1
  refine Calls.mono (Hc.out _) ?_
  rintro e w3 ⟨a3,c3,rfl,ho,hb⟩
  have B3:=Lib.hid (B2.out.trans (hb.mono B2.out.size))
  have R2:=Lib.hid ho.reads
  replace R1:=Lib.hid (R1.out.below hb nr_)
  clear hb ho Hc B2
  have Hl1:Hid ((limbs 1).length=1):=Lib.hid (by decide +kernel)
  go_wp2_with fail
  go_loopw [1,7,8] (fun m o q wr=>∃ (k x y:Nat) (a1 a2:Option Addr) (c1 c2:Nat),m = .int .i64 k∧k≤n∧o = .slice a1 (limbs (b ^ x)).length c1∧q = .slice a2 (limbs (b ^ y)).length c2∧Hid (x + y * k=n)∧Hid (y≤n)∧Hid (ReadsU wr a1 (limbs (b ^ x)))∧Hid (ReadsU wr a2 (limbs (b ^ y)))∧Hid (Below w.heap.size w wr)) (fun m _ _ _=>(intOf m).toNat)
  case atStart =>
   refine ⟨n,0,1,some ⟨w1.heap.size,0,none⟩,a3,1,c3,rfl,Nat.le_refl _,by rw [Nat.pow_zero,Hl1.out],by rw [Nat.pow_one],?_,?_,R1,R2,B3⟩
   ·show _=_; omega
   ·show _≤_; omega
  case round =>
   clear R1 R2 B3
   obtain ⟨k,x,y,a1,a2,c1,c2,rfl,hk,rfl,rfl,Hxy,Hy,R1,R2,B⟩:=hrel
   have Hx:Hid (x≤n):=by show _≤_; have:=Hxy.out; omega
   by_cases hk0:k=0
   ·subst hk0
    have hk1:¬ (0:Int) < ((0:Nat):Int):=by omega
    have Hx2:Hid (x=n):=by show _=_; have:=Hxy.out; omega
    rw [Hx2.out] at R1 ⊢
    have Hte:Hid (Gives Tryz.prog 144 #[.slice a1 (limbs (b ^ n)).length c1] wr (.string vv)):=by
     have:=text_any wr a1 c1 (b ^ n) R1.out (by have:=limbs_pw b n n hb2 hn nr_; omega)
     rw [Hvv.out] at this
     exact this
    have hsz:¬ (20000:Int) < vv.size:=by have:=Hs.out; omega
    go_wp2_with fail
    refine Calls.mono Hte.out ?_
    rintro e w9 ⟨rfl,hb⟩
    have B9:=Lib.hid (B.out.trans (hb.mono B.out.size))
    clear hb Hte
    go_wp2_with fail
    go_ret2
    exact ⟨rfl,B9.out⟩
   ·have hk1:(0:Int) < k:=by omega
    have hb:=and_one k (by omega)
    by_cases hodd:k % 2=1
    ·rw [decide_eq_true hodd] at hb
     have Ht:Hid (Calls Tryz.prog 143 #[.slice a1 (limbs (b ^ x)).length c1,.slice a2 (limbs (b ^ y)).length c2] wr fun e w'=>∃ a c,e = .returned (.slice a (limbs (b ^ (x + y))).length c)∧ReadsU w' a (limbs (b ^ (x + y)))∧Below wr.heap.size wr w'):=times_pow wr b n x y hb2 hn Hx.out Hy.out a1 a2 c1 c2 R1.out R2.out
     go_wp2_with fail
     refine Calls.mono Ht.out ?_
     rintro e w5 ⟨a5,c5,rfl,r5,hb5⟩
     have B5:=Lib.hid (B.out.trans (hb5.mono B.out.size))
     replace R1:=Lib.hid r5
     replace R2:=Lib.hid (R2.out.below hb5 nr_)
     clear hb5 r5 B Ht
     by_cases hk2:1 < k
     ·have hk2':(1:Int) < k:=by omega
      have Hxy2:Hid (x + y + (y + y) * (k / 2)=n):=by
       show _=_
       have h1:=Hxy.out
       obtain ⟨h,rfl⟩:∃ h,k=2 * h + 1:=⟨k / 2,by omega⟩
       rw [show (2 * h + 1) / 2=h by omega,Nat.add_mul]
       rw [Nat.mul_add,Nat.mul_left_comm] at h1
       omega
      have Ht:Hid (Calls Tryz.prog 143 #[.slice a2 (limbs (b ^ y)).length c2,.slice a2 (limbs (b ^ y)).length c2] w5 fun e w'=>∃ a c,e = .returned (.slice a (limbs (b ^ (y + y))).length c)∧ReadsU w' a (limbs (b ^ (y + y)))∧Below w5.heap.size w5 w'):=times_pow w5 b n y y hb2 hn Hy.out Hy.out a2 a2 c2 c2 R2.out R2.out
      go_wp2_with fail
      refine Calls.mono Ht.out ?_
      rintro e w6 ⟨a6,c6,rfl,r6,hb6⟩
      have B6:=Lib.hid (B5.out.trans (hb6.mono B5.out.size))
      replace R2:=Lib.hid r6
      replace R1:=Lib.hid (R1.out.below hb6 nr_)
      clear hb6 r6 B5 Ht
      go_wp2_with fail
      go_roundw
      case rel =>
       refine ⟨k / 2,x + y,y + y,_,_,_,_,by go_num,by omega,rfl,rfl,Hxy2,?_,R1,R2,B6⟩
       show _≤_
       have:=Hxy.out
       have h2:y * 2≤y * k:=Nat.mul_le_mul_left _ (by omega)
       omega
      case measure=>simp [intOf]; omega
     ·have hk2':¬ (1:Int) < k:=by omega
      go_wp2_with fail
      go_roundw
      case rel =>
       refine ⟨k / 2,x + y,y,_,_,_,_,by go_num,by omega,rfl,rfl,?_,Hy,R1,R2,B5⟩
       show _=_
       have:=Hxy.out
       have e1:k=1:=by omega
       subst e1
       have e2:(1 / 2:Nat)=0:=rfl
       rw [e2]
       omega
      case measure=>simp [intOf]; omega
    ·rw [decide_eq_false hodd] at hb
     by_cases hk2:1 < k
     ·have hk2':(1:Int) < k:=by omega
      have Hxy2:Hid (x + (y + y) * (k / 2)=n):=by
       show _=_
       have h1:=Hxy.out
       obtain ⟨h,rfl⟩:∃ h,k=2 * h:=⟨k / 2,by omega⟩
       rw [show (2 * h) / 2=h by omega,Nat.add_mul]
       rw [Nat.mul_left_comm] at h1
       omega
      have Ht:Hid (Calls Tryz.prog 143 #[.slice a2 (limbs (b ^ y)).length c2,.slice a2 (limbs (b ^ y)).length c2] wr fun e w'=>∃ a c,e = .returned (.slice a (limbs (b ^ (y + y))).length c)∧ReadsU w' a (limbs (b ^ (y + y)))∧Below wr.heap.size wr w'):=times_pow wr b n y y hb2 hn Hy.out Hy.out a2 a2 c2 c2 R2.out R2.out
      go_wp2_with fail
      refine Calls.mono Ht.out ?_
      rintro e w6 ⟨a6,c6,rfl,r6,hb6⟩
      have B6:=Lib.hid (B.out.trans (hb6.mono B.out.size))
      replace R2:=Lib.hid r6
      replace R1:=Lib.hid (R1.out.below hb6 nr_)
      clear hb6 r6 B Ht
      go_wp2_with fail
      go_roundw
      case rel =>
       refine ⟨k / 2,x,y + y,_,_,_,_,by go_num,by omega,rfl,rfl,Hxy2,?_,R1,R2,B6⟩
       show _≤_
       have:=Hxy.out
       have h2:y * 2≤y * k:=Nat.mul_le_mul_left _ (by omega)
       omega
      case measure=>simp [intOf]; omega
     ·omega
end Go.Proofs.YtlomhfknmhaboaaGreatDoor

namespace Go.Proofs.YtlomhfknmhaboaaGreatDoor
open Go.RowKit
theorem upT_append (l m:List (Int×Int)):LN.upT (l ++ m)=LN.upT l * LN.upT m:=by
 induction l with
 | nil=>rw [List.nil_append,LN.upT,Nat.one_mul]
 | cons x l ih=>rw [List.cons_append,LN.upT,LN.upT,ih,Nat.mul_assoc]
theorem negT_append (l m:List (Int×Int)):LN.negT (l ++ m)=LN.negT l ++ LN.negT m:=by simp [LN.negT]
theorem upT_one (x:Int×Int):LN.upT [x]=x.1.toNat ^ x.2.toNat:=by rw [LN.upT,LN.upT,Nat.mul_one]
theorem upT_le (M:Nat):∀ l:List (Int×Int),(∀ x∈l,(0≤x.1∧x.1≤97)∧x.2≤M)→LN.upT l≤2 ^ (7 * M * l.length)
 | [],_=>by simp [LN.upT]
 | x :: l,h=>by
  have ih:=upT_le M l fun y hy=>h y (List.mem_cons_of_mem _ hy)
  have hx:=h x List.mem_cons_self
  rw [LN.upT,List.length_cons,Nat.mul_add,Nat.mul_one,Nat.add_comm,Nat.pow_add]
  refine Nat.mul_le_mul ?_ ih
  have h1:x.1.toNat ^ x.2.toNat≤(2 ^ 7) ^ x.2.toNat:=Nat.pow_le_pow_left (by omega) _
  rw [← Nat.pow_mul] at h1
  exact Nat.le_trans h1 (Nat.pow_le_pow_right (by decide) (Nat.mul_le_mul_left _ (by omega)))
theorem upT_num {l:List (Int×Int)} (h:∀ x∈l,(0≤x.1∧x.1≤97)∧x.2≤1000) (hl:l.length≤12):Num (LN.upT l):=by
 obtain ⟨M,hM⟩:∃ M:Nat,M=1000:=⟨_,rfl⟩
 have h1:=upT_le M l fun x hx=>by have:=h x hx; omega
 have h2:7 * M * l.length≤7 * M * 12:=Nat.mul_le_mul_left _ hl
 exact num_two (K:=7 * M * l.length + 1) (Nat.lt_of_le_of_lt h1 (Nat.pow_lt_pow_right (by decide) (by omega))) (by omega)
def zl (ps xs:List Int):List (Int×Int):=ps.zip xs
theorem zl_succ (ps xs:List Int) (k:Nat) (h1:k < ps.length) (h2:k < xs.length):(zl ps xs).take (k + 1)=(zl ps xs).take k ++ [(ps[k],xs[k])]:=by
 unfold zl
 rw [List.take_add_one,List.getElem?_eq_getElem (by rw [List.length_zip]; omega),List.getElem_zip]; rfl
structure RowOk (w:World) (ps xs:List Int) (a0 a1:Option Addr):Prop where
 rp:Rd w a0 (ints ps)
 rx:Rd w a1 (ints xs)
 len:xs.length=ps.length
 n6:ps.length≤6
 pr:∀ p∈ps,2≤p∧p≤97
 xb:∀ x∈xs,-1000≤x∧x≤1000
theorem RowOk.mem {w:World} {ps xs:List Int} {a0 a1:Option Addr} (H:RowOk w ps xs a0 a1) (k:Nat):(∀ x∈(zl ps xs).take k,(0≤x.1∧x.1≤97)∧x.2≤1000)∧(∀ x∈LN.negT ((zl ps xs).take k),(0≤x.1∧x.1≤97)∧x.2≤1000)∧((zl ps xs).take k).length≤6∧(LN.negT ((zl ps xs).take k)).length≤6:=by
 have hm:∀ x∈(zl ps xs).take k,(2≤x.1∧x.1≤97) ∧ -1000≤x.2∧x.2≤1000:=fun x hx=>by
  have:=List.mem_of_mem_take hx
  have h1:=(List.of_mem_zip (show (x.1,x.2)∈ps.zip xs from this))
  exact ⟨H.pr _ h1.1,H.xb _ h1.2⟩
 have hl:((zl ps xs).take k).length≤6:=by
  have:=H.n6
  have h2:(zl ps xs).length≤6:=by unfold zl; rw [List.length_zip]; omega
  rw [List.length_take]; omega
 refine ⟨fun x hx=>by have:=hm x hx; omega,fun x hx=>?_,hl,by unfold LN.negT; rw [List.length_map]; exact hl⟩
 obtain ⟨y,hy,rfl⟩:=List.mem_map.1 hx
 have:=hm y hy
 show (0≤y.1∧y.1≤97) ∧ -y.2≤1000
 omega
set_option maxRecDepth 100000 in
set_option maxHeartbeats 8000000 in
theorem sides_any (w:World) (ps xs:List Int) (a0 a1:Option Addr) (c0 c1:Nat) (H:RowOk w ps xs a0 a1) (L:Laid w) :
  Gives Tryz.prog 88 #[.slice a0 ps.length c0,.slice a1 ps.length c1] w (.tuple #[.string (dec (LN.upT (zl ps xs))),.string (dec (LN.upT (LN.negT (zl ps xs))))]):=by
 unfold Gives
 have HH:=Lib.hid H
 have HL:=Lib.hid L
 have hn6:=H.n6
 have B0:=Lib.hid (Below.refl w.heap.size w)
 have H0:Hid (dec 1=⟨#[49]⟩):=dec_one
 have Hend:Hid ((zl ps xs).take ps.length=zl ps xs):=by
  show _=_
  refine List.take_of_length_le ?_
  unfold zl
  rw [List.length_zip]; omega
 clear H L
 generalize hn:ps.length=n at *
 have Hn:=Lib.hid hn
 clear hn
 go_enter Tryz.func88,Tryz.ntmps88
 go_wp2_with fail
 go_loopw [4,5,12] (fun a b i wr=>∃ k:Nat,k≤n∧i = .int .i64 k∧a = .string (dec (LN.upT ((zl ps xs).take k)))∧b = .string (dec (LN.upT (LN.negT ((zl ps xs).take k))))∧Hid (Below w.heap.size w wr)) (fun _ _ i _=>n - (intOf i).toNat)
 case atStart =>
  refine ⟨0,Nat.zero_le _,rfl,?_,?_,B0⟩
  ·rw [List.take_zero,LN.upT,H0.out]
  ·rw [List.take_zero,LN.negT,List.map_nil,LN.upT,H0.out]
 case round =>
  clear B0
  obtain ⟨k,hk,rfl,rfl,rfl,B1⟩:=hrel
  by_cases hlt:k < n
  ·have hlt':(k:Int) < n:=by omega
   have hkp:k < ps.length:=by rw [Hn.out]; exact hlt
   have hkx:k < xs.length:=by have:=HH.out.len; have:=Hn.out; omega
   have hp:=HH.out.pr _ (List.getElem_mem hkp)
   have hx:=HH.out.xb _ (List.getElem_mem hkx)
   have hsc:=zl_succ ps xs k hkp hkx
   obtain ⟨m1,m2,m3,m4⟩:=HH.out.mem k
   obtain ⟨m5,m6,m7,m8⟩:=HH.out.mem (k + 1)
   obtain ⟨b1,o1,rfl,hb1,hc1⟩:=HH.out.rp.open (by rw [ints_length]; omega)
   obtain ⟨b2,o2,rfl,hb2,hc2⟩:=HH.out.rx.open (by rw [ints_length]; omega)
   have x1:wr.cell? ⟨b1,o1 + k,none⟩=some (.int .i64 ps[k]):=by
    rw [B1.out.cell (p:=⟨b1,o1 + k,none⟩) hb1]
    exact hc1 k _ (ints_get _ k hkp)
   have x2:wr.cell? ⟨b2,o2 + k,none⟩=some (.int .i64 xs[k]):=by
    rw [B1.out.cell (p:=⟨b2,o2 + k,none⟩) hb2]
    exact hc2 k _ (ints_get _ k hkx)
   clear hc1 hc2
   have n1:=upT_num m1 (by omega)
   have n2:=upT_num m2 (by omega)
   have n3:=upT_num m5 (by omega)
   have n4:=upT_num m6 (by omega)
   have e1:LN.upT ((zl ps xs).take (k + 1))=LN.upT ((zl ps xs).take k) * ps[k].toNat ^ xs[k].toNat:=by rw [hsc,upT_append,upT_one]
   have e2:LN.upT (LN.negT ((zl ps xs).take (k + 1)))=LN.upT (LN.negT ((zl ps xs).take k)) * ps[k].toNat ^ (-xs[k]).toNat:=by rw [hsc,negT_append,upT_append]; rw [show LN.negT [(ps[k],xs[k])]=[(ps[k],-xs[k])] from rfl,upT_one]
   clear hsc m1 m2 m3 m4 m5 m6 m7 m8
   generalize hN1:LN.upT ((zl ps xs).take (k + 1))=N1 at *
   generalize hN2:LN.upT (LN.negT ((zl ps xs).take (k + 1)))=N2 at *
   have HN1:=Lib.hid hN1
   have HN2:=Lib.hid hN2
   clear hN1 hN2
   generalize LN.upT ((zl ps xs).take k)=M1 at *
   generalize LN.upT (LN.negT ((zl ps xs).take k))=M2 at *
   generalize ps[k]=p at *
   generalize xs[k]=x at *
   obtain ⟨q,rfl⟩:=Int.eq_ofNat_of_zero_le (show 0≤p by omega)
   rw [Int.toNat_natCast] at e1 e2
   have hwc:IntKind.u64.wrap (q:Int)=q:=IntWalk.u64_in _ (by omega)
   have hwn:IntKind.i64.wrap (-x) = -x:=IntWalk.i64_in _ (by omega)
   have hmx:max x (-x)=((x.natAbs:Nat):Int):=by omega
   have Hof:=Lib.hid (of_any wr q (by omega) (HL.out.below B1.out))
   have Hpw:Hid (∀ W,Below wr.heap.size wr W→Gives Tryz.prog 121 #[.string (dec q),.int .i64 ((x.natAbs:Nat):Int)] W (.tuple #[.string (dec (q ^ x.natAbs)),.int .i64 0])):=fun W hW=>powerB_any W q x.natAbs (by omega) (by omega) (by omega) (HL.out.below (B1.out.trans (hW.mono B1.out.size)))
   have np:Num (q ^ x.natAbs):=Nat.le_trans (size_pw q x.natAbs (by omega) (by omega)) (by decide)
   by_cases hx0:0 < x
   ·have ea:x.toNat=x.natAbs:=by omega
    have eb:(-x).toNat=0:=by omega
    rw [ea] at e1
    rw [eb,Nat.pow_zero,Nat.mul_one] at e2
    have Hm:Hid (∀ W,Below wr.heap.size wr W→Gives Tryz.prog 119 #[.string (dec M1),.string (dec (q ^ x.natAbs))] W (.string (dec N1))):=fun W hW=>by
     have:=mul_any W M1 (q ^ x.natAbs) n1 np (HL.out.below (B1.out.trans (hW.mono B1.out.size)))
     rw [← e1] at this
     exact this
    subst e2
    clear e1 ea eb n1 n2 n3 n4 np
    generalize dec (q ^ x.natAbs)=sp at *
    generalize dec q=sq at *
    generalize dec M1=s1 at *
    have P0:=Lib.hid (Below.refl wr.heap.size wr)
    go_wp2_with fail
    refine Calls.mono Hof.out ?_
    rintro e w2 ⟨rfl,hb⟩
    have P2:=Lib.hid (P0.out.trans (hb.mono P0.out.size))
    clear hb P0 Hof
    go_wp2_with fail
    refine Calls.mono (Hpw.out _ P2.out) ?_
    rintro e w3 ⟨rfl,hb⟩
    have P3:=Lib.hid (P2.out.trans (hb.mono P2.out.size))
    clear hb P2 Hpw
    go_wp2_with fail
    refine Calls.mono (Hm.out _ P3.out) ?_
    rintro e w4 ⟨rfl,hb⟩
    have B4:=Lib.hid (B1.out.trans ((P3.out.trans (hb.mono P3.out.size)).mono B1.out.size))
    clear hb P3 Hm
    go_wp2_with fail
    go_roundw
    case rel=>exact ⟨k + 1,by omega,by go_num,by rw [HN1.out],by rw [HN2.out],B4⟩
    case measure=>simp [intOf]; omega
   ·skip
    have ea:x.toNat=0:=by omega
    have eb:(-x).toNat=x.natAbs:=by omega
    rw [ea,Nat.pow_zero,Nat.mul_one] at e1
    rw [eb] at e2
    have Hm:Hid (∀ W,Below wr.heap.size wr W→Gives Tryz.prog 119 #[.string (dec M2),.string (dec (q ^ x.natAbs))] W (.string (dec N2))):=fun W hW=>by
     have:=mul_any W M2 (q ^ x.natAbs) n2 np (HL.out.below (B1.out.trans (hW.mono B1.out.size)))
     rw [← e2] at this
     exact this
    subst e1
    clear e2 ea eb n1 n2 n3 n4 np
    generalize dec (q ^ x.natAbs)=sp at *
    generalize dec q=sq at *
    generalize dec M2=s2 at *
    have P0:=Lib.hid (Below.refl wr.heap.size wr)
    go_wp2_with fail
    refine Calls.mono Hof.out ?_
    rintro e w2 ⟨rfl,hb⟩
    have P2:=Lib.hid (P0.out.trans (hb.mono P0.out.size))
    clear hb P0 Hof
    go_wp2_with fail
    refine Calls.mono (Hpw.out _ P2.out) ?_
    rintro e w3 ⟨rfl,hb⟩
    have P3:=Lib.hid (P2.out.trans (hb.mono P2.out.size))
    clear hb P2 Hpw
    go_wp2_with fail
    refine Calls.mono (Hm.out _ P3.out) ?_
    rintro e w4 ⟨rfl,hb⟩
    have B4:=Lib.hid (B1.out.trans ((P3.out.trans (hb.mono P3.out.size)).mono B1.out.size))
    clear hb P3 Hm
    go_wp2_with fail
    go_roundw
    case rel=>exact ⟨k + 1,by omega,by go_num,by rw [HN1.out],by rw [HN2.out],B4⟩
    case measure=>simp [intOf]; omega
  ·have hlt':¬ (k:Int) < n:=by omega
   have hkn:k=n:=by omega
   subst hkn
   rw [Hend.out]
   clear HH HL
   go_wp2_with fail
   go_ret2
   exact ⟨rfl,B1.out⟩
theorem cmpN_sign (l:List (Int×Int)):cmpN (LN.upT l) (LN.upT (LN.negT l))=LN.signT l:=by
 unfold cmpN LN.signT
 by_cases h1:LN.upT l < LN.upT (LN.negT l)
 ·rw [if_pos h1,if_neg (by omega),if_pos h1]
 ·rw [if_neg h1]
  by_cases h2:LN.upT l=LN.upT (LN.negT l)
  ·rw [if_pos h2,if_neg (by omega),if_neg (by omega)]
  ·rw [if_neg h2,if_pos (by omega)]
theorem vt_zl:∀ (ps xs:List Int),LN.vt (zl ps xs)=LN.vp ps xs
 | [],_=>rfl
 | _ :: _,[]=>rfl
 | p :: ps,x :: xs=>by
  have ih:=vt_zl ps xs
  unfold zl at ih ⊢
  rw [List.zip_cons_cons,LN.vt,LN.vp,ih]
theorem ex_one (x:Int):LN.ex 1 (x:Rat)=x:=by
 unfold LN.ex
 rw [Rat.num_intCast,Rat.den_intCast]
 simp
theorem sz_int {ps xs:List Int} (hp:∀ p∈ps,0 < p):LN.sz ps (xs.map fun x:Int=>(x:Rat))=LN.signT (zl ps xs):=by
 have hd:∀ q∈xs.map (fun x:Int=>(x:Rat)),q.den ∣ 1:=fun q hq=>by
  obtain ⟨x,_,rfl⟩:=List.mem_map.1 hq
  rw [Rat.den_intCast]; exact Nat.dvd_refl _
 rw [LN.sz_eq hp Nat.one_pos hd,LN.signT_sg (zl ps xs) (fun x hx=>hp _ (List.of_mem_zip (show (x.1,x.2)∈ps.zip xs from hx)).1),vt_zl,List.map_map]
 congr 2
 conv=>lhs; rw [show (LN.ex 1 ∘ fun x:Int=>(x:Rat))=id from funext ex_one,List.map_id]
set_option maxHeartbeats 4000000 in
theorem monSign_any (w:World) (ps xs:List Int) (a0 a1:Option Addr) (c0 c1:Nat) (H:RowOk w ps xs a0 a1) (hc:mcode1 ps xs=0) (hpp:∀ p∈ps,0 < p) (L:Laid w) :
  Gives Tryz.prog 44 #[.slice a0 ps.length c0,.slice a1 ps.length c1] w (.tuple #[.int .i64 (LN.sz ps (xs.map fun x:Int=>(x:Rat))),.int .i64 0]):=by
 unfold Gives
 have hn6:=H.n6
 have hi:I64s ps:=fun p hp=>by have:=H.pr p hp; omega
 have Hc:Hid (Gives Tryz.prog 41 #[.slice a0 ps.length c0,.slice a1 ps.length c1] w (.int .i64 0)):=by
  have:=monCheck_any w a0 a1 c0 c1 ps xs H.rp hi (by omega) H.rx (by have:=H.len; omega)
  rw [hc,H.len] at this
  exact this
 have Hs:Hid (∀ W,Below w.heap.size w W→Gives Tryz.prog 88 #[.slice a0 ps.length c0,.slice a1 ps.length c1] W (.tuple #[.string (dec (LN.upT (zl ps xs))),.string (dec (LN.upT (LN.negT (zl ps xs))))])):=fun W hW =>
  sides_any W ps xs a0 a1 c0 c1 ⟨H.rp.below hW nr_,H.rx.below hW nr_,H.len,H.n6,H.pr,H.xb⟩ (L.below hW)
 have Hcm:Hid (∀ W,Gives Tryz.prog 87 #[.string (dec (LN.upT (zl ps xs))),.string (dec (LN.upT (LN.negT (zl ps xs))))] W (.int .i64 (LN.sz ps (xs.map fun x:Int=>(x:Rat))))):=fun W=>by
  obtain ⟨m1,m2,m3,m4⟩:=H.mem ps.length
  have he:(zl ps xs).take ps.length=zl ps xs:=List.take_of_length_le (by unfold zl; rw [List.length_zip]; omega)
  rw [he] at m1 m2 m3 m4
  have:=compareS_any W (LN.upT (zl ps xs)) (LN.upT (LN.negT (zl ps xs))) (Nat.le_trans (upT_num m1 (by omega)) (by decide)) (Nat.le_trans (upT_num m2 (by omega)) (by decide))
  rw [cmpN_sign,← sz_int hpp] at this
  exact this
 clear H L hc hpp hi hn6
 generalize LN.sz ps (xs.map fun x:Int=>(x:Rat))=r at *
 generalize dec (LN.upT (zl ps xs))=r1 at *
 generalize dec (LN.upT (LN.negT (zl ps xs)))=r2 at *
 generalize ps.length=n at *
 go_enter Tryz.func44,Tryz.ntmps44
 go_wp2_with fail
 refine Calls.mono Hc.out ?_
 rintro e w1 ⟨rfl,hb⟩
 have B1:=Lib.hid hb
 clear hb Hc
 go_wp2_with fail
 refine Calls.mono (Hs.out _ B1.out) ?_
 rintro e w2 ⟨rfl,hb⟩
 have B2:=Lib.hid (B1.out.trans (hb.mono B1.out.size))
 clear hb Hs
 go_wp2_with fail
 refine Calls.mono (Hcm.out _) ?_
 rintro e w3 ⟨rfl,hb⟩
 have B3:=Lib.hid (B2.out.trans (hb.mono B2.out.size))
 clear hb Hcm
 go_wp2_with fail
 go_ret2
 exact ⟨rfl,B3.out⟩
end Go.Proofs.YtlomhfknmhaboaaGreatDoor

namespace Go.Proofs.YtlomhfknmhaboaaGreatDoor
open Go.RowKit
theorem sml_cast {N:Nat} {xs:List Int} (h:∀ x∈xs,x.natAbs≤N):Sml (12 * N) 12 (castQ xs):=by
 intro q hq
 obtain ⟨x,hx,rfl⟩:=List.mem_map.1 hq
 have e:((x:Int):Rat) * ((12:Nat):Rat)=((x * 12:Int):Rat):=by rw [Rat.intCast_mul]; rfl
 obtain ⟨r1,r2⟩:=ex_den (x * 12) (by decide) e
 refine ⟨r1,?_⟩
 rw [r2]
 have:=h x hx
 omega
theorem cast_sm {D:Nat} {xs:List Int} (hD:1≤D) (h:∀ x∈xs,x.natAbs < 10 ^ D):∀ q∈castQ xs,Sm D q:=by
 intro q hq
 obtain ⟨x,hx,rfl⟩:=List.mem_map.1 hq
 refine ⟨by rw [Rat.num_intCast]; exact h x hx,?_⟩
 rw [Rat.den_intCast]
 exact Nat.one_lt_pow (by omega) (by decide)
theorem cast_add (xs ys:List Int):castQ (addI xs ys)=combineQ (castQ xs) (castQ ys) 1 1:=by
 unfold castQ addI combineQ
 rw [List.map_zipWith,List.zipWith_map]
 congr 1
 funext x y
 rw [Rat.intCast_add,Rat.mul_one,Rat.mul_one]
def eqQ (n:Nat):List Rat:=(List.replicate n 0).set 0 1
def eqI (n:Nat):List Int:=(List.replicate n 0).set 0 1
theorem eqQ_cast (n:Nat):eqQ n=castQ (eqI n):=by
 unfold eqQ eqI castQ
 rw [List.map_set,List.map_replicate]; rfl
theorem eqI_length (n:Nat):(eqI n).length=n:=by simp [eqI]
theorem eqI_le (n:Nat):∀ x∈eqI n,x.natAbs≤1:=by
 intro x hx
 unfold eqI at hx
 rcases List.mem_or_eq_of_mem_set hx with h | h
 ·rw [List.eq_of_mem_replicate h]; decide
 ·rw [h]; decide
theorem eqI_cons (n:Nat):eqI (n + 1)=1 :: List.replicate n 0:=by simp [eqI,List.replicate_succ]
theorem castQ_hd (xs:List Int):(castQ xs).map (LN.ex 1)=xs:=by
 unfold castQ
 rw [List.map_map]
 conv=>lhs; rw [show (LN.ex 1 ∘ fun x:Int=>(x:Rat))=id from funext ex_one,List.map_id]
theorem sz_cast {ps xs:List Int} (hp:∀ p∈ps,0 < p):LN.sz ps (castQ xs)=LN.sg (LN.vp ps xs):=by
 rw [LN.sz_eq hp Nat.one_pos (fun q hq=>by
  obtain ⟨x,_,rfl⟩:=List.mem_map.1 hq
  rw [Rat.den_intCast]; exact Nat.dvd_refl _),castQ_hd]
theorem two_mono {a b:Int} (h:a≤b):(2:Rat) ^ a≤2 ^ b:=by
 have e:(2:Rat) ^ b=2 ^ a * 2 ^ (b - a):=by rw [← Rat.zpow_add LN.two_ne]; congr 1; omega
 rw [e]
 have h1:=LN.two_zpow_one_le (a:=b - a) (by omega)
 have h2:(0:Rat) < 2 ^ a:=Rat.zpow_pos (by decide)
 have h3:=Rat.mul_le_mul_of_nonneg_left h1 (Rat.le_of_lt h2)
 rw [Rat.mul_one] at h3
 exact h3
theorem btw_one (n:Nat):LN.Btw 1 (-(4 * (n:Int))) (4 * (n:Int)):=by
 have h1:=two_mono (a := -(4 * (n:Int))) (b:=0) (by omega)
 have h2:=two_mono (a:=0) (b:=4 * (n:Int)) (by omega)
 rw [Rat.zpow_zero] at h1 h2
 exact ⟨by decide,h1,h2⟩
theorem vp_btw:∀ (ps xs:List Int),(∀ p∈ps,2≤p∧p≤13)→LN.Btw (LN.vp ps xs) (-(4 * ((xs.map Int.natAbs).sum:Nat):Int)) (4 * ((xs.map Int.natAbs).sum:Nat))
 | [],xs,_=>btw_one _
 | p :: ps,[],_=>btw_one _
 | p :: ps,x :: xs,h=>by
  have ih:=vp_btw ps xs fun q hq=>h q (List.mem_cons_of_mem _ hq)
  have hp:=h p List.mem_cons_self
  have b:LN.Btw (p:Rat) 0 4:=by
   refine ⟨Rat.intCast_pos.2 (by omega),?_,?_⟩
   ·rw [Rat.zpow_zero]
    exact (Rat.intCast_le_intCast (a:=1) (b:=p)).2 (by omega)
   ·have:((p:Int):Rat)≤((16:Int):Rat):=Rat.intCast_le_intCast.2 (by omega)
    exact Rat.le_trans this (by decide +kernel)
  rw [LN.vp,List.map_cons,List.sum_cons]
  have key:LN.Btw ((p:Rat) ^ x) (-(4 * (x.natAbs:Int))) (4 * (x.natAbs:Int)):=by
   rcases Int.le_total 0 x with hx | hx
   ·have:=b.zpow hx
    refine ⟨this.pos,Rat.le_trans ?_ this.lo,Rat.le_trans this.hi ?_⟩
    ·exact two_mono (by omega)
    ·exact two_mono (by omega)
   ·have:=b.zpow_neg hx
    refine ⟨this.pos,Rat.le_trans ?_ this.lo,Rat.le_trans this.hi ?_⟩
    ·exact two_mono (by omega)
    ·exact two_mono (by omega)
  have hm:=key.mul ih
  refine ⟨hm.pos,Rat.le_trans ?_ hm.lo,Rat.le_trans hm.hi ?_⟩
  ·exact two_mono (by omega)
  ·exact two_mono (by omega)
theorem vp_eq (p:Int) (ps:List Int) (n:Nat):LN.vp (p :: ps) (1 :: List.replicate n 0)=(p:Rat):=by
 rw [LN.vp,Rat.zpow_one,LN.vp_zero _ _ (fun k hk=>List.eq_of_mem_replicate hk),Rat.mul_one]
theorem sz_eqv {ps:List Int} (h0:0 < ps.length) (h:∀ p∈ps,2≤p):LN.sz ps (eqQ ps.length)=1:=by
 have hp:∀ p∈ps,0 < p:=fun p hp=>by have:=h p hp; omega
 rw [eqQ_cast,sz_cast hp]
 match ps,h0,h with
 | p :: ps,_,h =>
  rw [List.length_cons,eqI_cons,vp_eq]
  refine LN.sg_pos.2 ?_
  have:=h p List.mem_cons_self
  exact (Rat.intCast_lt_intCast (a:=1) (b:=p)).2 (by omega)
theorem sub_cast (q:Int) (xs ys:List Int):LN.subQ q (castQ xs) (castQ ys)=castQ (List.zipWith (fun x y=>x + (-q) * y) xs ys):=by
 unfold LN.subQ castQ
 rw [List.map_zipWith,List.zipWith_map]
 congr 1
 funext x y
 rw [Rat.intCast_add,Rat.intCast_mul,Rat.intCast_neg]
theorem sub_comb (q:Int) (la lb:List Rat):LN.subQ q la lb=combineQ la lb 1 ((-q:Int):Rat):=by
 unfold LN.subQ combineQ
 congr 1
 funext x y
 rw [Rat.intCast_neg]
 grind
theorem dif_sub (q:Int) {la lb:List Rat} (h:la.length=lb.length):difQ (LN.subQ q la lb) lb=LN.subQ (q + 1) la lb:=by
 have l1:(LN.subQ q la lb).length=la.length:=by simp [LN.subQ,h]
 obtain ⟨m,hm⟩:∃ m:Rat,((q + 1:Int):Rat)=m:=⟨_,rfl⟩
 have e:=Rat.intCast_add q 1
 rw [hm,rat_one_int] at e
 refine List.ext_getElem (by rw [difQ_length _ _ (by omega),l1]; simp [LN.subQ,h]) fun i h1 h2=>?_
 have i1:i < la.length:=by rw [difQ_length _ _ (by omega),l1] at h1; exact h1
 rw [difQ_get _ _ i (by omega) (by omega)]
 simp only [LN.subQ,List.getElem_zipWith,hm]
 grind
theorem sub_add (q:Int) {la lb:List Rat} (h:la.length=lb.length):LN.subQ (q + 1) (combineQ la lb 1 1) lb=LN.subQ q la lb:=by
 obtain ⟨m,hm⟩:∃ m:Rat,((q + 1:Int):Rat)=m:=⟨_,rfl⟩
 have e:=Rat.intCast_add q 1
 rw [hm,rat_one_int] at e
 refine List.ext_getElem (by simp [LN.subQ,combineQ,h]) fun i h1 h2=>?_
 simp only [LN.subQ,combineQ,List.getElem_zipWith,hm]
 grind
theorem sub_add' (q:Int) {la lb:List Rat} (h:la.length=lb.length):LN.subQ (q + 1 + 1) (combineQ la lb 1 1) lb=LN.subQ (q + 1) la lb:=sub_add (q + 1) h
theorem floor_next {ps:List Int} {la lb:List Rat} {q:Int} (h:la.length=lb.length) (hq:LN.FloorOf ps la lb q):LN.FloorOf ps (combineQ la lb 1 1) lb (q + 1):=by
 unfold LN.FloorOf at hq ⊢
 rw [sub_add q h,sub_add' q h]
 exact hq
theorem floor_small {ps xs:List Int} {q:Int} (hps:∀ p∈ps,2≤p∧p≤13) (h0:0 < ps.length) (h4:ps.length≤4) (hl:xs.length=ps.length) (hx:∀ x∈xs,-40≤x∧x≤40) (hq:LN.FloorOf ps (castQ xs) (eqQ ps.length) q) : -1000≤q∧q≤1000:=by
 have hp:∀ p∈ps,0 < p:=fun p hp=>by have:=hps p hp; omega
 have hs:=sz_eqv h0 fun p hp=>(hps p hp).1
 have hlen:(castQ xs).length=(eqQ ps.length).length:=by rw [castQ_length,eqQ_cast,castQ_length,eqI_length,hl]
 -- the sign at any integer
 have key:∀ j:Int,(1000≤j→LN.sz ps (LN.subQ j (castQ xs) (eqQ ps.length)) < 0)∧(j ≤ -1000→0 < LN.sz ps (LN.subQ j (castQ xs) (eqQ ps.length))):=by
  intro j
  rw [eqQ_cast,sub_cast,sz_cast hp]
  match ps,xs,h0,hl,hps,h4,hx with
  | p :: ps,x :: xs,_,hl,hps,h4,hx =>
   rw [List.length_cons,eqI_cons,List.zipWith_cons_cons]
   have hz:List.zipWith (fun x y=>x + (-j) * y) xs (List.replicate ps.length 0)=xs:=by
    refine List.ext_getElem (by simp at hl ⊢; omega) fun i h1 h2=>?_
    simp
   rw [hz]
   have hp2:=hps p List.mem_cons_self
   have bt:=vp_btw ps xs fun q hq=>hps q (List.mem_cons_of_mem _ hq)
   have hsum:(xs.map Int.natAbs).sum≤3 * 40:=by
    have:∀ (l:List Int) (n:Nat),l.length≤n→(∀ x∈l,-40≤x∧x≤40)→(l.map Int.natAbs).sum≤n * 40:=by
     intro l
     induction l with
     | nil=>intro n _ _; simp
     | cons y l ih =>
      intro n hn hy
      cases n with
      | zero=>simp at hn
      | succ n =>
       have h1:=ih n (by simpa using hn) fun z hz=>hy z (List.mem_cons_of_mem _ hz)
       have h2:=hy y List.mem_cons_self
       rw [List.map_cons,List.sum_cons]
       omega
    exact this xs 3 (by simp at hl h4 ⊢; omega) fun z hz=>hx z (List.mem_cons_of_mem _ hz)
   have hx0:=hx x List.mem_cons_self
   have b1:LN.Btw (p:Rat) 1 4:=by
    refine ⟨Rat.intCast_pos.2 (by omega),?_,?_⟩
    ·rw [Rat.zpow_one]
     exact (Rat.intCast_le_intCast (a:=2) (b:=p)).2 (by omega)
    ·have:((p:Int):Rat)≤((16:Int):Rat):=Rat.intCast_le_intCast.2 (by omega)
     exact Rat.le_trans this (by decide +kernel)
   constructor
   ·intro hj
    have hk:=(b1.zpow_neg (j:=x + (-j) * 1) (by omega)).mul bt
    have:=LN.sg_low.2 (hk.lt (by omega))
    rw [LN.vp,this]; decide
   ·intro hj
    have hk:=(b1.zpow (j:=x + (-j) * 1) (by omega)).mul bt
    have:=LN.sg_pos.2 (hk.gt (by omega))
    rw [LN.vp,this]; decide
 obtain ⟨f1,f2⟩:=hq
 rw [hs] at f1 f2
 constructor
 ·refine Int.not_lt.1 fun h=>?_
  have:=(key (q + 1)).2 (by omega)
  omega
 ·refine Int.not_lt.1 fun h=>?_
  have:=(key q).1 (by omega)
  omega
end Go.Proofs.YtlomhfknmhaboaaGreatDoor

namespace Go.Proofs.YtlomhfknmhaboaaGreatDoor.RY
open Go Go.Sort Go.Proofs.YtlomhfknmhaboaaGreatDoor
section
variable {P:Program} {ops:Array Oper} {md:Region.Mode} {C:World→Prop}
def noEnter:Op→Bool
 | .move _ | .assign _ | .load _ _ | .fieldAddr _ _ _ | .indexAddr _ _ _ | .extract _ _ | .binOp _ _ _ _ _ | .convert _ _ _=>true
 | .call c=>match c.callee with
  | .builtin .min | .builtin .max | .builtin .len=>true
  | _=>false
 | _=>false
theorem value_no_enter {s:Sem Value} {w w':World} {f:FuncId} {args:Array Value} (h:(do pure (Next.value (← s)):Sem Next).run P w = .ok (.enter f args) w'):False:=by
 simp only [Sem.run_bind,Sem.run_pure] at h
 cases hs:s.run P w with
 | ok v w1=>rw [hs] at h; simp [Result.andThen] at h
 | halt x w1=>rw [hs] at h; simp [Result.andThen] at h
theorem no_enter {o:Oper} {a:Act} {w w':World} {f:FuncId} {args:Array Value} (ho:noEnter o.op=true) (h:(execOp a.eval o).run P w = .ok (.enter f args) w'):False:=by
 have cases5:(∃ x,o.op = .move x)∨(∃ x,o.op = .assign x)∨(∃ t x,o.op = .load t x)∨(∃ t x k,o.op = .fieldAddr t x k)∨(∃ t x y,o.op = .indexAddr t x y)∨(∃ x k,o.op = .extract x k)∨(∃ b t x y r,o.op = .binOp b t x y r)∨(∃ s d x,o.op = .convert s d x)∨(∃ c,o.op = .call c):=by
  cases hop:o.op <;> rw [hop] at ho <;> first | (simp [noEnter] at ho; done) | simp
 rcases cases5 with ⟨x,hop⟩ | ⟨x,hop⟩ | ⟨t,x,hop⟩ | ⟨t,x,k,hop⟩ | ⟨t,x,y,hop⟩ | ⟨x,k,hop⟩ | ⟨b,t,x,y,r,hop⟩ | ⟨s,d,x,hop⟩ | ⟨c,hop⟩
 ·rw [BigFrame.run_move x hop] at h; cases h
 ·rw [BigFrame.run_assign x hop] at h; cases h
 ·unfold execOp at h; rw [hop] at h; exact value_no_enter h
 ·unfold execOp at h; rw [hop] at h; exact value_no_enter h
 ·unfold execOp at h; rw [hop] at h; exact value_no_enter h
 ·unfold execOp at h; rw [hop] at h; exact value_no_enter h
 ·unfold execOp at h; rw [hop] at h; exact value_no_enter h
 ·unfold execOp at h; rw [hop] at h; exact value_no_enter h
 ·rw [hop] at ho
  unfold execOp at h
  rw [hop] at h
  unfold noEnter at ho
  simp only at ho h
  unfold resolve at h
  cases hc:c.callee with
  | value x=>rw [hc] at ho; cases ho
  | invoke x y=>rw [hc] at ho; cases ho
  | builtin b =>
   rw [hc] at ho h
   simp only [Sem.run_bind,Sem.run_pure,Result.andThen_ok,invoke] at h
   cases b <;> first | (simp at ho; done) | (unfold builtin at h; exact value_no_enter h)
theorem still_of_quiet {o:Oper} {a:Act} {w:World} {v:Value} (ho:noEnter o.op=true) (h:o.quietAt P a C w v) {K:Act→World→Prop} (hk:K (a.put o.dst v) w):o.wp P a w K (fun _ _ _=>False):=by
 unfold Oper.quietAt at h
 unfold Oper.wp
 have hne:=@no_enter P o a w
 generalize (execOp a.eval o).run P w=r at *
 cases r with
 | ok n w' =>
  cases n <;> simp only [Oper.quietUpon] at h <;> simp only [Oper.upon]
  case value u=>obtain ⟨rfl,rfl⟩:=h; exact hk
  case skip=>obtain ⟨rfl,rfl⟩:=h; exact hk
  case enter f args=>exact (hne ho rfl).elim
 | halt x w'=>simp only [Oper.quietUpon] at h
def safeW (C:World→Prop) (s:Nat) (listed:Array Bool) (w:World):Prop:=listed.getD s false=true∨C w
def anyR (P:Program) (md:Region.Mode) (ops:Array Oper) (C:World→Prop) (s:Nat) (Q:Act→World→Prop):Nat→Array Bool→Act→World→Prop
 | 0,listed,a,w=>Region.ready md ops listed=[]∧Q a w
 | f + 1,listed,a,w=>Region.ready md ops listed≠[]∧∀ i∈Region.ready md ops listed,
   wpOp P ops (fun _ _ _=>False) i (fun a' w'=>safeW C s (listed.setIfInBounds i true) w'∧anyR P md ops C s Q f (listed.setIfInBounds i true) a' w') a w
theorem wp_weaken {o:Oper} {a:Act} {w:World} {K:Act→World→Prop} {Q':Exit→Act→World→Prop} (h:o.wp P a w K (fun _ _ _=>False)):o.wp P a w K Q':=by
 unfold Oper.wp at *
 generalize (execOp a.eval o).run P w=r at *
 cases r with
 | ok n w' =>
  cases n <;> simp only [Oper.upon] at h ⊢ <;>
   first
    | exact h
    | exact Calls.mono h (fun e w'' he=>by cases e <;> first | exact he | exact he.elim | (obtain ⟨_,_,hf⟩:=he; exact hf.elim))
    | exact Rows.mono h (fun _ _ he=>he)
 | halt x w'=>cases x <;> simp only [Oper.upon] at h <;> exact h.elim
theorem wpOp_weaken {i:Nat} {a:Act} {w:World} {K K':Act→World→Prop} {Q':Exit→Act→World→Prop} (hk:∀ a w,K a w→K' a w) (h:wpOp P ops (fun _ _ _=>False) i K a w):wpOp P ops Q' i K' a w:=by
 unfold wpOp at *
 split
 ·rename_i ho; simp only [ho] at h; exact hk _ _ h
 ·rename_i o ho
  simp only [ho] at h
  split
  ·rename_i hw
   simp only [hw,if_true] at h
   rcases h with h | ⟨_,_,_,hf⟩
   ·exact .inl (Oper.wp_mono hk (wp_weaken h))
   ·exact hf.elim
  ·rename_i hw; simp only [hw] at h; exact hk _ _ h
theorem wpOp_strong {i:Nat} {a:Act} {w:World} {K:Act→World→Prop} {Q':Exit→Act→World→Prop} (hq:∀ e a w,Q' e a w→e = .normal) (h:wpOp P ops Q' i K a w):wpOp P ops (fun _ _ _=>False) i K a w:=by
 have hout:¬ LetsOut Q':=fun ⟨a,w,h⟩=>by have:=hq _ _ _ h; cases this
 unfold wpOp at *
 split
 ·rename_i ho; simp only [ho] at h; exact h
 ·rename_i o ho
  simp only [ho] at h
  split
  ·rename_i hw
   simp only [hw,if_true] at h
   rcases h with h | ⟨_,h⟩
   ·left
    unfold Oper.wp at *
    generalize (execOp a.eval o).run P w=r at *
    cases r with
    | ok n w' =>
     cases n <;> simp only [Oper.upon] at h ⊢ <;>
      first
       | exact h
       | exact Calls.mono h (fun e w'' he=>by cases e <;> first | exact he | (have:=hq _ _ _ he; cases this) | exact absurd he hout)
       | exact Rows.mono h (fun _ _ he=>he)
    | halt x w'=>cases x <;> simp only [Oper.upon] at h <;> first | exact h.elim | (have:=hq _ _ _ h; cases this)
   ·exact absurd h hout
  ·rename_i hw; simp only [hw] at h; exact h
theorem anyR_any {s:Nat} {Q:Act→World→Prop} {Q':Exit→Act→World→Prop} (hQ:∀ a w,Q a w→Q' .normal a w) :
  ∀ (f:Nat) (listed:Array Bool) (a:Act) (w:World),anyR P md ops C s Q f listed a w→wpAny P md ops Q' f listed a w
 | 0,_,_,_,h=>⟨h.1,hQ _ _ h.2⟩
 | f + 1,_,_,_,h=>⟨fun h0=>absurd h0 h.1,fun i hi=>wpOp_weaken (fun a' w' h'=>anyR_any hQ f _ a' w' h'.2) (h.2 i hi)⟩
structure RInv (md:Region.Mode) (ops:Array Oper) (listed:Array Bool):Prop where
 size:listed.size=ops.size
 closed:∀ j oj,ops[j]?=some oj→listed.getD j false=true→∀ e∈oj.after,Region.binds md e=true→listed.getD e.on false=true
theorem RInv.set {i:Nat} {listed:Array Bool} (inv:RInv md ops listed) (hi:i∈Region.ready md ops listed):RInv md ops (listed.setIfInBounds i true):=by
 obtain ⟨_,oi,hoi,hall⟩:=mem_ready.1 hi
 refine ⟨by simp [inv.size],fun j oj hj hl e he hb=>?_⟩
 by_cases hij:i=j
 ·subst hij
  have:oj=oi:=Option.some.inj (hj.symm.trans hoi)
  subst this
  exact getD_set_true (hall e he hb)
 ·rw [getD_set_ne false hij] at hl
  exact getD_set_true (inv.closed j oj hj hl e he hb)
def reachB (md:Region.Mode) (ops:Array Oper):Nat→Nat→Nat→Bool
 | 0,_,_=>false
 | f + 1,s,i=>match ops[s]? with
  | some o=>o.after.any fun e=>Region.binds md e && (e.on == i || reachB md ops f e.on i)
  | none=>false
theorem reach_listed {listed:Array Bool} (inv:RInv md ops listed):∀ (f s i:Nat),reachB md ops f s i=true→listed.getD s false=true→listed.getD i false=true
 | 0,_,_,h,_=>by cases h
 | f + 1,s,i,h,hs=>by
  unfold reachB at h
  split at h
  ·rename_i o ho
   obtain ⟨e,he,hb⟩:=Array.any_eq_true'.1 h
   simp only [Bool.and_eq_true,Bool.or_eq_true,beq_iff_eq] at hb
   have hl:=inv.closed s o ho hs e he hb.1
   rcases hb.2 with h2 | h2
   ·rw [← h2]; exact hl
   ·exact reach_listed inv f e.on i h2 hl
  ·cases h
def ReadsIn (P:Program) (ops:Array Oper) (md:Region.Mode) (C:World→Prop) (s i:Nat) (o:Oper) (v:Value) (a:Act):Prop :=
 (reachB md ops 4 s i=true∧YieldsIn P ops C o v a)∨YieldsIn P ops (fun _=>True) o v a
theorem ReadsIn.of_same {s i:Nat} {o:Oper} {v:Value} {a a':Act} (hy:ReadsIn P ops md C s i o v a) (he:execOp a'.eval o=execOp a.eval o)
  (hw:Region.wanted o (yielded ops a'.tmps)=Region.wanted o (yielded ops a.tmps)):ReadsIn P ops md C s i o v a' :=
 hy.imp (fun ⟨h1,h2⟩=>⟨h1,h2.of_same he hw⟩) (fun h=>h.of_same he hw)
theorem reads_op {s i:Nat} {o:Oper} {v:Value} {a:Act} {w:World} {listed:Array Bool} (hi:ops[i]?=some o) (hne:noEnter o.op=true) (inv:RInv md ops listed) (hr:i∈Region.ready md ops listed) (hs:safeW C s listed w)
  (hy:ReadsIn P ops md C s i o v a) {K:Act→World→Prop} (hk:K (a.put o.dst v) w):wpOp P ops (fun _ _ _=>False) i K a w:=by
 have key:∀ D:World→Prop,D w→YieldsIn P ops D o v a→wpOp P ops (fun _ _ _=>False) i K a w:=fun D hD h=>by
  unfold wpOp
  simp only [hi]
  rcases h with ⟨h1,h2⟩ | ⟨h1,rfl⟩
  ·simp only [h1,if_true]
   exact .inl (still_of_quiet hne (h2 w hD) hk)
  ·simp only [h1,Bool.false_eq_true,if_false]
   exact hk
 rcases hy with ⟨hw,h⟩ | h
 ·refine key C ?_ h
  rcases hs with hs | hs
  ·have:=reach_listed inv 4 s i hw hs
   rw [getD_both (mem_ready.1 hr).1] at this
   cases this
  ·exact hs
 ·exact key _ trivial h
theorem wpOp_put {j:Nat} {oi oj:Oper} {v:Value} (hj:ops[j]?=some oj) (hap:oi.apart ops oj=true)
  (hsi:∀ cs b,oi.op ≠ .select cs b) (hsj:∀ cs b,oj.op ≠ .select cs b) {s i:Nat} {K:Act→World→Prop} {a:Act} {w:World}
  (hy:ReadsIn P ops md C s i oi v a) (h:wpOp P ops (fun _ _ _=>False) j K (a.put oi.dst v) w) :
  wpOp P ops (fun _ _ _=>False) j (fun a' w'=>ReadsIn P ops md C s i oi v a'∧K (a'.put oi.dst v) w') a w:=by
 obtain ⟨h1,h2,h3⟩:=Oper.apart_spec hap
 have keep:∀ (a:Act),ReadsIn P ops md C s i oi v a→∀ u,ReadsIn P ops md C s i oi v (a.put oj.dst u):=fun a hy u =>
  hy.of_same (execOp_put oi hsi a oj.dst u h3) (wanted_put oi a oj.dst u h3)
 have keepd:∀ d,ReadsIn P ops md C s i oi v ({ a with defers:=d :: a.defers }:Act):=fun d=>hy.of_same rfl rfl
 unfold wpOp at *
 simp only [hj] at *
 rw [wanted_put oj a oi.dst v h1] at h
 split
 ·rename_i hw
  simp only [hw,if_true] at h
  left
  rcases h with h | ⟨_,_,_,hf⟩
  ·unfold Oper.wp at *
   rw [execOp_put oj hsj a oi.dst v h1] at h
   generalize (execOp a.eval oj).run P w=r at *
   cases r with
   | ok n w' =>
    cases n <;> simp only [Oper.upon] at h ⊢
    case value u=>exact ⟨keep a hy u,by rw [← Act.put_comm a v u h2]; exact h⟩
    case skip=>exact ⟨keep a hy undef,by rw [← Act.put_comm a v undef h2]; exact h⟩
    case defer d =>
     refine ⟨keep _ (keepd d) undef,?_⟩
     rw [Act.put_defers] at h
     rw [← Act.put_comm _ v undef h2]
     exact h
    case enter f args =>
     exact Calls.mono h (fun e w'' he=>by
      cases e
      case returned u=>exact ⟨keep a hy u,by rw [← Act.put_comm a v u h2]; exact he⟩
      case panicked c=>exact he
      case outgrown=>obtain ⟨_,_,hf⟩:=he; exact hf.elim)
    case row row args=>exact Rows.mono h (fun u w'' he=>⟨keep a hy u,by rw [← Act.put_comm a v u h2]; exact he⟩)
    all_goals exact h
   | halt x w'=>cases x <;> simp only [Oper.upon] at h <;> exact h.elim
  ·exact hf.elim
 ·rename_i hw
  simp only [hw] at h
  exact ⟨keep a hy _,by rw [← Act.put_comm a v undef h2]; exact h⟩
theorem anyR_first {s i:Nat} {oi:Oper} {v:Value} {Q:Act→World→Prop} (hi:ops[i]?=some oi) (his:i≠s) (hne:noEnter oi.op=true) (hsel:∀ (j:Nat) (o:Oper) cs b,ops[j]?=some o→o.op ≠ .select cs b) :
  ∀ (f:Nat) (listed:Array Bool) (a:Act) (w:World),RInv md ops listed →
   (∀ j oj,ops[j]?=some oj→j≠i→listed.getD j true=false→(∀ e∈oj.after,Region.binds md e=true→e.on≠i)→oi.apart ops oj=true) →
   i∈Region.ready md ops listed→ReadsIn P ops md C s i oi v a→safeW C s listed w →
   anyR P md ops C s Q f (listed.setIfInBounds i true) (a.put oi.dst v) w→anyR P md ops C s Q (f + 1) listed a w:=by
 intro f
 induction f with
 | zero =>
  intro listed a w inv _ hr hy hs H
  refine ⟨fun h=>(by rw [h] at hr; cases hr),fun j hj=>?_⟩
  by_cases hji:j=i
  ·subst hji
   exact reads_op hi hne inv hr hs hy ⟨hs.imp (fun h=>getD_set_true h) id,H⟩
  ·have:=ready_mono hj hji
   rw [H.1] at this
   cases this
 | succ f ih =>
  intro listed a w inv hfree hr hy hs H
  have hun:=(mem_ready.1 hr).1
  refine ⟨fun h=>(by rw [h] at hr; cases hr),fun j hj=>?_⟩
  by_cases hji:j=i
  ·subst hji
   exact reads_op hi hne inv hr hs hy ⟨hs.imp (fun h=>getD_set_true h) id,H⟩
  ·have h1:=H.2 j (ready_mono hj hji)
   obtain ⟨hjun,oj,hoj,hall⟩:=mem_ready.1 hj
   have hnot:∀ e∈oj.after,Region.binds md e=true→e.on≠i:=fun e he hb heq=>by
    have h1:=hall e he hb
    rw [heq,getD_both hun] at h1
    cases h1
   have h2:=wpOp_put hoj (hfree j oj hoj hji hjun hnot) (fun cs b=>hsel i oi cs b hi) (fun cs b=>hsel j oj cs b hoj) hy h1
   have hfree':∀ k ok,ops[k]?=some ok→k≠i→(listed.setIfInBounds j true).getD k true=false →
     (∀ e∈ok.after,Region.binds md e=true→e.on≠i)→oi.apart ops ok=true:=fun k ok hk hki hun hno=>by
    refine hfree k ok hk hki ?_ hno
    by_cases hjk:j=k
    ·subst hjk; exact hjun
    ·rw [getD_set_ne true hjk] at hun; exact hun
   have hr':=ready_mono hr (Ne.symm hji)
   refine wpOp_mono (fun a' w' h3=>?_) h2
   obtain ⟨hy',hs',H'⟩:=h3
   have hs2:safeW C s (listed.setIfInBounds j true) w':=by
    rcases hs' with h | h
    ·rw [Array.setIfInBounds_comm _ _ (Ne.symm hji),getD_set_ne false his] at h
     exact .inl h
    ·exact .inr h
   refine ⟨hs2,ih (listed.setIfInBounds j true) a' w' (inv.set hj) hfree' hr' hy' hs2 ?_⟩
   rw [Array.setIfInBounds_comm _ _ hji]
   exact H'
def ordB (md:Region.Mode) (ops:Array Oper) (s:Nat):List (Nat×Nat)→Array Bool→Bool
 | [],listed=>(Region.ready md ops listed).isEmpty
 | (k,i) :: l,listed =>
  (if k=0 then decide (Region.ready md ops listed=[i])
  else (Region.ready md ops listed).contains i && Region.free md ops listed i && (match ops[i]? with | some o=>noEnter o.op | none=>false) && decide (i≠s) && (k == 2 || reachB md ops 4 s i)) &&
  ordB md ops s l (listed.setIfInBounds i true)
def walkR (P:Program) (ops:Array Oper) (C:World→Prop) (s:Nat) (Q:Act→World→Prop):List (Nat×Nat)→Bool→Act→World→Prop
 | [],_,a,w=>Q a w
 | (k,i) :: l,b,a,w =>
  if k=0 then wpList P ops (fun e a' w'=>e = .normal∧((b || i == s)=true∨C w')∧walkR P ops C s Q l (b || i == s) a' w') (ops[i]?).toList a w
  else if k=2 then wpQuiet P ops (fun _=>True) (fun a'=>walkR P ops C s Q l b a' w) (ops[i]?).toList a
  else wpQuiet P ops C (fun a'=>walkR P ops C s Q l b a' w) (ops[i]?).toList a
theorem qOp_of_list {i:Nat} {o:Oper} {a:Act} {D:World→Prop} {K:Act→Prop} (hi:ops[i]?=some o) (h:wpQuiet P ops D K (ops[i]?).toList a):qOp P ops D i K a:=by
 rw [hi] at h
 unfold qOp
 simp only [hi]
 exact h
theorem anyR_walk {s:Nat} {Q:Act→World→Prop} (hsel:Region.noSelect ops=true) :
  ∀ (l:List (Nat×Nat)) (listed:Array Bool) (a:Act) (w:World),RInv md ops listed→safeW C s listed w→ordB md ops s l listed=true →
   walkR P ops C s Q l (listed.getD s false) a w→anyR P md ops C s Q l.length listed a w
 | [],listed,a,w,_,_,hB,h=>⟨by simpa [ordB] using hB,h⟩
 | (k,i) :: l,listed,a,w,inv,hs,hB,h=>by
  simp only [ordB,Bool.and_eq_true] at hB
  obtain ⟨hB1,hB2⟩:=hB
  by_cases hk:k=0
  ·subst hk
   simp only [if_true,decide_eq_true_eq] at hB1
   have hr:i∈Region.ready md ops listed:=by rw [hB1]; exact List.mem_singleton.2 rfl
   have hgs:(listed.setIfInBounds i true).getD s false=(listed.getD s false || i == s):=by
    by_cases his:i=s
    ·subst his
     obtain ⟨hun,o,ho,_⟩:=mem_ready.1 hr
     have hlt:i < listed.size:=by rw [inv.size]; exact (Array.getElem?_eq_some_iff.1 ho).1
     simp [hlt]
    ·rw [getD_set_ne false his]
     simp [his]
   refine ⟨by rw [hB1]; simp,fun j hj=>?_⟩
   rw [hB1] at hj
   obtain rfl:=List.mem_singleton.1 hj
   obtain ⟨hun,o,ho,_⟩:=mem_ready.1 hr
   simp only [walkR,if_true,ho,Option.toList] at h
   have h2:wpOp P ops (fun e a' w'=>e = .normal∧((listed.getD s false || j == s)=true∨C w')∧walkR P ops C s Q l (listed.getD s false || j == s) a' w') j (fun a' w'=>((listed.getD s false || j == s)=true∨C w')∧walkR P ops C s Q l (listed.getD s false || j == s) a' w') a w:=by
    unfold wpOp
    simp only [ho]
    simp only [wpList,true_and] at h
    exact h
   have h3:=wpOp_strong (fun e a' w' hq=>hq.1) h2
   refine wpOp_mono (fun a' w' h4=>?_) h3
   have hs2:safeW C s (listed.setIfInBounds j true) w':=by unfold safeW; rw [hgs]; exact h4.1
   exact ⟨hs2,anyR_walk hsel l _ a' w' (inv.set hr) hs2 hB2 (by rw [hgs]; exact h4.2)⟩
  ·rw [if_neg hk] at hB1
   simp only [Bool.and_eq_true,decide_eq_true_eq,Bool.or_eq_true,beq_iff_eq] at hB1
   obtain ⟨⟨⟨⟨hr,hf⟩,hne⟩,his⟩,hw⟩:=hB1
   have hr':i∈Region.ready md ops listed:=by simpa using hr
   obtain ⟨_,o,ho,_⟩:=mem_ready.1 hr'
   have hne':noEnter o.op=true:=by rw [ho] at hne; exact hne
   have hgs:(listed.setIfInBounds i true).getD s false=listed.getD s false:=getD_set_ne false his
   have hs2:safeW C s (listed.setIfInBounds i true) w:=by unfold safeW; rw [hgs]; exact hs
   simp only [walkR,if_neg hk] at h
   have hread:∃ v,ReadsIn P ops md C s i o v a∧walkR P ops C s Q l (listed.getD s false) (a.put o.dst v) w:=by
    by_cases h2:k=2
    ·rw [if_pos h2] at h
     obtain ⟨v,hy,hK⟩:=yieldsIn_of_qOp ho (qOp_of_list ho h)
     exact ⟨v,.inr hy,hK⟩
    ·rw [if_neg h2] at h
     obtain ⟨v,hy,hK⟩:=yieldsIn_of_qOp ho (qOp_of_list ho h)
     exact ⟨v,.inl ⟨hw.resolve_left h2,hy⟩,hK⟩
   obtain ⟨v,hy,hK⟩:=hread
   exact anyR_first ho his hne' (Region.noSelect_spec hsel) l.length listed a w inv (Region.free_spec ho hf) hr' hy hs
    (anyR_walk hsel l _ _ w (inv.set hr') hs2 hB2 (by rw [hgs]; exact hK))
theorem pick_one:∀ (l:List Oper) (i:Nat),(l.toArray[i]?).toList=(l.drop i).take 1
 | [],i=>by simp
 | o :: l,0=>by simp
 | o :: l,i + 1=>by
  have:=pick_one l i
  simpa using this
theorem walkR_read {s i:Nat} {Q:Act→World→Prop} {l:List (Nat×Nat)} {b:Bool} {a:Act} {w:World} {lo:List Oper} (h:wpQuiet P lo.toArray C (fun a'=>walkR P lo.toArray C s Q l b a' w) ((lo.drop i).take 1) a):walkR P lo.toArray C s Q ((1,i) :: l) b a w:=by
 simp only [walkR,pick_one]
 exact h
theorem walkR_any {s i:Nat} {Q:Act→World→Prop} {l:List (Nat×Nat)} {b:Bool} {a:Act} {w:World} {lo:List Oper} (h:wpQuiet P lo.toArray (fun _=>True) (fun a'=>walkR P lo.toArray C s Q l b a' w) ((lo.drop i).take 1) a):walkR P lo.toArray C s Q ((2,i) :: l) b a w:=by
 simp only [walkR,pick_one]
 exact h
theorem walkR_move {s i:Nat} {Q:Act→World→Prop} {l:List (Nat×Nat)} {b:Bool} {a:Act} {w:World} {lo:List Oper}
  (h:wpList P lo.toArray (fun e a' w'=>e = .normal∧((b || i == s)=true∨C w')∧walkR P lo.toArray C s Q l (b || i == s) a' w') ((lo.drop i).take 1) a w):walkR P lo.toArray C s Q ((0,i) :: l) b a w:=by
 simp only [walkR,pick_one]
 exact h
theorem wp_region_readers {id:Nat} {Q:Exit→Act→World→Prop} {a:Act} {w:World} {l:List Oper} (s:Nat) (ord:List (Nat×Nat)) (C:World→Prop) (hm:P.follows .mixedOrders=true)
  (hB:(Region.noSelect l.toArray && decide (ord.length=l.length) && ordB .any l.toArray s ord (Array.replicate l.length false))=true)
  (hC:C { w with drawn:=w.drawn + 1 }) (h:walkR P l.toArray C s (fun a' w'=>Q .normal a' w') ord false a { w with drawn:=w.drawn + 1 }):(Code.region id l.toArray true).wp P Q a w:=by
 simp only [Bool.and_eq_true,decide_eq_true_eq] at hB
 obtain ⟨⟨hsel,hlen⟩,hord⟩:=hB
 refine wp_region_any hm ?_
 have inv0:RInv .any l.toArray (Array.replicate l.length false):=⟨by simp,fun j oj _ hl=>(by rw [getD_replicate_false] at hl; cases hl)⟩
 have H:=anyR_walk (md := .any) hsel ord _ a _ inv0 (.inr hC) hord (by rw [getD_replicate_false]; exact h)
 have:=anyR_any (Q':=Q) (fun a w h=>h) _ _ _ _ H
 rw [hlen] at this
 simpa using this
end
section
variable {P:Program} {ops:Array Oper} {md:Region.Mode} {C:World→Prop}
inductive RTree where
 | nil:RTree
 | rd:Nat→Nat→RTree→RTree
 | mv:Nat→RTree→RTree
 | two:Nat→Nat→RTree→RTree→RTree
def RTree.len:RTree→Nat
 | .nil=>0
 | .rd _ _ t=>t.len + 1
 | .mv _ t=>t.len + 1
 | .two _ _ t _=>t.len + 1
def ordT (md:Region.Mode) (ops:Array Oper) (s:Nat):RTree→Array Bool→Bool
 | .nil,listed=>(Region.ready md ops listed).isEmpty
 | .rd k i t,listed =>
  ((Region.ready md ops listed).contains i && Region.free md ops listed i && (match ops[i]? with | some o=>noEnter o.op | none=>false) && decide (i≠s) && (k == 2 || reachB md ops 4 s i)) &&
  ordT md ops s t (listed.setIfInBounds i true)
 | .mv i t,listed=>decide (Region.ready md ops listed=[i]) && ordT md ops s t (listed.setIfInBounds i true)
 | .two i j t u,listed=>(decide (Region.ready md ops listed=[i,j]) && decide (t.len=u.len)) && (ordT md ops s t (listed.setIfInBounds i true) && ordT md ops s u (listed.setIfInBounds j true))
def walkT (P:Program) (ops:Array Oper) (C:World→Prop) (s:Nat) (Q:Act→World→Prop):RTree→Bool→Act→World→Prop
 | .nil,_,a,w=>Q a w
 | .rd k i t,b,a,w=>if k=2 then wpQuiet P ops (fun _=>True) (fun a'=>walkT P ops C s Q t b a' w) (ops[i]?).toList a else wpQuiet P ops C (fun a'=>walkT P ops C s Q t b a' w) (ops[i]?).toList a
 | .mv i t,b,a,w=>wpList P ops (fun e a' w'=>e = .normal∧((b || i == s)=true∨C w')∧walkT P ops C s Q t (b || i == s) a' w') (ops[i]?).toList a w
 | .two i j t u,b,a,w =>
  wpList P ops (fun e a' w'=>e = .normal∧((b || i == s)=true∨C w')∧walkT P ops C s Q t (b || i == s) a' w') (ops[i]?).toList a w ∧
  wpList P ops (fun e a' w'=>e = .normal∧((b || j == s)=true∨C w')∧walkT P ops C s Q u (b || j == s) a' w') (ops[j]?).toList a w
theorem set_getD {s i:Nat} {listed:Array Bool} (inv:RInv md ops listed) (hr:i∈Region.ready md ops listed):(listed.setIfInBounds i true).getD s false=(listed.getD s false || i == s):=by
 by_cases his:i=s
 ·subst his
  obtain ⟨hun,o,ho,_⟩:=mem_ready.1 hr
  have hlt:i < listed.size:=by rw [inv.size]; exact (Array.getElem?_eq_some_iff.1 ho).1
  simp [hlt]
 ·rw [getD_set_ne false his]
  simp [his]
theorem step_mv {s j:Nat} {K:Act→World→Prop} {listed:Array Bool} {a:Act} {w:World} (inv:RInv md ops listed) (hr:j∈Region.ready md ops listed)
  (h:wpList P ops (fun e a' w'=>e = .normal∧((listed.getD s false || j == s)=true∨C w')∧K a' w') (ops[j]?).toList a w) :
  wpOp P ops (fun _ _ _=>False) j (fun a' w'=>safeW C s (listed.setIfInBounds j true) w'∧K a' w') a w:=by
 obtain ⟨hun,o,ho,_⟩:=mem_ready.1 hr
 simp only [ho,Option.toList] at h
 have h2:wpOp P ops (fun e a' w'=>e = .normal∧((listed.getD s false || j == s)=true∨C w')∧K a' w') j (fun a' w'=>((listed.getD s false || j == s)=true∨C w')∧K a' w') a w:=by
  unfold wpOp
  simp only [ho]
  simp only [wpList,true_and] at h
  exact h
 have h3:=wpOp_strong (fun e a' w' hq=>hq.1) h2
 refine wpOp_mono (fun a' w' h4=>⟨?_,h4.2⟩) h3
 unfold safeW
 rw [set_getD inv hr]
 exact h4.1
theorem anyR_tree {s:Nat} {Q:Act→World→Prop} (hsel:Region.noSelect ops=true) :
  ∀ (l:RTree) (listed:Array Bool) (a:Act) (w:World),RInv md ops listed→safeW C s listed w→ordT md ops s l listed=true →
   walkT P ops C s Q l (listed.getD s false) a w→anyR P md ops C s Q l.len listed a w
 | .nil,listed,a,w,_,_,hB,h=>⟨by simpa [ordT] using hB,h⟩
 | .mv i t,listed,a,w,inv,hs,hB,h=>by
  simp only [ordT,Bool.and_eq_true,decide_eq_true_eq] at hB
  obtain ⟨hB1,hB2⟩:=hB
  have hr:i∈Region.ready md ops listed:=by rw [hB1]; exact List.mem_singleton.2 rfl
  refine ⟨by rw [hB1]; simp,fun j hj=>?_⟩
  rw [hB1] at hj
  obtain rfl:=List.mem_singleton.1 hj
  refine wpOp_mono (fun a' w' h4=>⟨h4.1,anyR_tree hsel t _ a' w' (inv.set hr) h4.1 hB2 ?_⟩) (step_mv inv hr h)
  rw [set_getD inv hr]
  exact h4.2
 | .two i k t u,listed,a,w,inv,hs,hB,h=>by
  simp only [ordT,Bool.and_eq_true,decide_eq_true_eq] at hB
  obtain ⟨⟨hB1,hlen⟩,hB2,hB3⟩:=hB
  have hr:i∈Region.ready md ops listed:=by rw [hB1]; simp
  have hr2:k∈Region.ready md ops listed:=by rw [hB1]; simp
  refine ⟨by rw [hB1]; simp,fun j hj=>?_⟩
  rw [hB1] at hj
  simp only [List.mem_cons,List.not_mem_nil,or_false] at hj
  by_cases hji:j=i
  ·subst hji
   refine wpOp_mono (fun a' w' h4=>⟨h4.1,anyR_tree hsel t _ a' w' (inv.set hr) h4.1 hB2 ?_⟩) (step_mv inv hr h.1)
   rw [set_getD inv hr]
   exact h4.2
  ·have hjk:j=k:=hj.resolve_left hji
   subst hjk
   have:=wpOp_mono (fun a' w' (h4:safeW C s (listed.setIfInBounds j true) w'∧walkT P ops C s Q u (listed.getD s false || j == s) a' w')=>(⟨h4.1,anyR_tree hsel u _ a' w' (inv.set hr2) h4.1 hB3 (by rw [set_getD inv hr2]; exact h4.2)⟩:safeW C s (listed.setIfInBounds j true) w'∧anyR P md ops C s Q u.len (listed.setIfInBounds j true) a' w')) (step_mv inv hr2 h.2)
   rw [← hlen] at this
   exact this
 | .rd k i t,listed,a,w,inv,hs,hB,h=>by
  simp only [ordT,Bool.and_eq_true] at hB
  obtain ⟨hB1,hB2⟩:=hB
  simp only [decide_eq_true_eq,Bool.or_eq_true,beq_iff_eq] at hB1
  obtain ⟨⟨⟨⟨hr,hf⟩,hne⟩,his⟩,hw⟩:=hB1
  have hr':i∈Region.ready md ops listed:=by simpa using hr
  obtain ⟨_,o,ho,_⟩:=mem_ready.1 hr'
  have hne':noEnter o.op=true:=by rw [ho] at hne; exact hne
  have hgs:(listed.setIfInBounds i true).getD s false=listed.getD s false:=getD_set_ne false his
  have hs2:safeW C s (listed.setIfInBounds i true) w:=by unfold safeW; rw [hgs]; exact hs
  simp only [walkT] at h
  have hread:∃ v,ReadsIn P ops md C s i o v a∧walkT P ops C s Q t (listed.getD s false) (a.put o.dst v) w:=by
   by_cases h2:k=2
   ·rw [if_pos h2] at h
    obtain ⟨v,hy,hK⟩:=yieldsIn_of_qOp ho (qOp_of_list ho h)
    exact ⟨v,.inr hy,hK⟩
   ·rw [if_neg h2] at h
    obtain ⟨v,hy,hK⟩:=yieldsIn_of_qOp ho (qOp_of_list ho h)
    exact ⟨v,.inl ⟨hw.resolve_left h2,hy⟩,hK⟩
  obtain ⟨v,hy,hK⟩:=hread
  exact anyR_first ho his hne' (Region.noSelect_spec hsel) t.len listed a w inv (Region.free_spec ho hf) hr' hy hs
   (anyR_tree hsel t _ _ w (inv.set hr') hs2 hB2 (by rw [hgs]; exact hK))
theorem walkT_read {s i:Nat} {Q:Act→World→Prop} {l:RTree} {b:Bool} {a:Act} {w:World} {lo:List Oper} (h:wpQuiet P lo.toArray C (fun a'=>walkT P lo.toArray C s Q l b a' w) ((lo.drop i).take 1) a):walkT P lo.toArray C s Q (.rd 1 i l) b a w:=by
 simp only [walkT,pick_one]
 exact h
theorem walkT_any {s i:Nat} {Q:Act→World→Prop} {l:RTree} {b:Bool} {a:Act} {w:World} {lo:List Oper} (h:wpQuiet P lo.toArray (fun _=>True) (fun a'=>walkT P lo.toArray C s Q l b a' w) ((lo.drop i).take 1) a):walkT P lo.toArray C s Q (.rd 2 i l) b a w:=by
 simp only [walkT,pick_one]
 exact h
theorem walkT_move {s i:Nat} {Q:Act→World→Prop} {l:RTree} {b:Bool} {a:Act} {w:World} {lo:List Oper}
  (h:wpList P lo.toArray (fun e a' w'=>e = .normal∧((b || i == s)=true∨C w')∧walkT P lo.toArray C s Q l (b || i == s) a' w') ((lo.drop i).take 1) a w):walkT P lo.toArray C s Q (.mv i l) b a w:=by
 simp only [walkT,pick_one]
 exact h
theorem walkT_two {s i j:Nat} {Q:Act→World→Prop} {l m:RTree} {b:Bool} {a:Act} {w:World} {lo:List Oper}
  (h1:wpList P lo.toArray (fun e a' w'=>e = .normal∧((b || i == s)=true∨C w')∧walkT P lo.toArray C s Q l (b || i == s) a' w') ((lo.drop i).take 1) a w)
  (h2:wpList P lo.toArray (fun e a' w'=>e = .normal∧((b || j == s)=true∨C w')∧walkT P lo.toArray C s Q m (b || j == s) a' w') ((lo.drop j).take 1) a w):walkT P lo.toArray C s Q (.two i j l m) b a w:=by
 simp only [walkT,pick_one]
 exact ⟨h1,h2⟩
theorem wp_region_tree {id:Nat} {Q:Exit→Act→World→Prop} {a:Act} {w:World} {l:List Oper} (s:Nat) (ord:RTree) (C:World→Prop) (hm:P.follows .mixedOrders=true)
  (hB:(Region.noSelect l.toArray && decide (ord.len=l.length) && ordT .any l.toArray s ord (Array.replicate l.length false))=true)
  (hC:C { w with drawn:=w.drawn + 1 }) (h:walkT P l.toArray C s (fun a' w'=>Q .normal a' w') ord false a { w with drawn:=w.drawn + 1 }):(Code.region id l.toArray true).wp P Q a w:=by
 simp only [Bool.and_eq_true,decide_eq_true_eq] at hB
 obtain ⟨⟨hsel,hlen⟩,hord⟩:=hB
 refine wp_region_any hm ?_
 have inv0:RInv .any l.toArray (Array.replicate l.length false):=⟨by simp,fun j oj _ hl=>(by rw [getD_replicate_false] at hl; cases hl)⟩
 have H:=anyR_tree (md := .any) hsel ord _ a _ inv0 (.inr hC) hord (by rw [getD_replicate_false]; exact h)
 have:=anyR_any (Q':=Q) (fun a w h=>h) _ _ _ _ H
 rw [hlen] at this
 simpa using this
end
end Go.Proofs.YtlomhfknmhaboaaGreatDoor.RY

namespace Go.Proofs.YtlomhfknmhaboaaGreatDoor
open Go.RowKit Go.Proofs.YtlomhfknmhaboaaGreatDoor.RY
set_option maxRecDepth 100000 in
set_option maxHeartbeats 8000000 in
theorem Sign_dec (w:World) (ps:List Int) (a0 a1:Option Addr) (c0 c1:Nat) (la:List Rat) (A:SizeOk w ps a0 a1 la 30) (hp:pcode ps=0) (g:Good ps la) (L:Laid w) :
  Gives Tryz.prog 27 #[.slice a0 ps.length c0,.slice a1 ps.length c1] w (.tuple #[.int .i64 (LN.sz ps la),.int .i64 0]):=by
 unfold Gives
 have hn:=A.n
 have Hc:Hid (Gives Tryz.prog 51 #[.slice a0 ps.length c0,.slice a1 ps.length c1] w (.int .i64 0)):=by
  have:=sizeCheck_any w a0 a1 c0 c1 ps (la.map qs) A.rp A.i64 (by omega) A.rl (by rw [List.length_map,A.len]; omega) (ssz_ok A.sm) L
  rw [List.length_map,A.len] at this
  unfold ccode at this
  rw [if_pos hp,scode_ok A.sm A.len] at this
  exact this
 have Ht:Hid (∀ W,Below w.heap.size w W→Calls Tryz.prog 66 #[.slice a0 ps.length c0,.slice a1 ps.length c1] W fun e w'=>∃ b1 d1 b2 d2,e = .returned (.agg (tcells b1 d1 b2 d2 (tlQ ps la).length (tden la)))∧TermsAt w' (tlQ ps la) b1 b2∧Below W.heap.size W w'):=fun W hW=>by
  have:=terms_ok (c0:=c0) (c:=c1) (A.below hW) (L.below hW)
  rw [A.len] at this
  exact this
 have Hs:Hid (∀ W b1 b2 d1 d2,TermsAt W (tlQ ps la) b1 b2→Below w.heap.size w W→Gives Tryz.prog 67 #[.agg (tcells b1 d1 b2 d2 (tlQ ps la).length (tden la))] W (.int .i64 (LN.sz ps la))):=fun W b1 b2 d1 d2 T hW =>
  sign_dec W b1 b2 d1 d2 _ 101 _ T g.trt (by decide) g.lt (g.dec hn) (L.below hW)
 clear A hp g L hn
 generalize LN.sz ps la=r at *
 generalize ps.length=n at *
 go_enter Tryz.func27,Tryz.ntmps27
 go_wp2_with fail
 refine Calls.mono Hc.out ?_
 rintro e w1 ⟨rfl,hb⟩
 have B1:=Lib.hid hb
 clear hb Hc
 go_wp2_with fail
 refine Calls.mono (Ht.out _ B1.out) ?_
 rintro e w2 ⟨b1,d1,b2,d2,rfl,T,hb⟩
 have B2:=Lib.hid (B1.out.trans (hb.mono B1.out.size))
 have Hs2:=Lib.hid (Hs.out w2 b1 b2 d1 d2 T B2.out)
 clear hb Ht T Hs
 go_wp2_with fail
 refine Calls.mono Hs2.out ?_
 rintro e w3 ⟨rfl,hb⟩
 have B3:=Lib.hid (B2.out.trans (hb.mono B2.out.size))
 clear hb Hs2
 go_wp2_with fail
 go_ret2
 exact ⟨rfl,B3.out⟩
theorem rat_neg_num (q:Int):((-q:Int):Rat).num = -q∧((-q:Int):Rat).den=1:=⟨Rat.num_intCast _,Rat.den_intCast _⟩
set_option maxRecDepth 100000 in
set_option maxHeartbeats 16000000 in
theorem Remainder_ok (w:World) (ps:List Int) (a0 a1 a2:Option Addr) (c0 c1 c2:Nat) (la lb:List Rat) (A:SizeOk w ps a0 a1 la 30) (B:SizeOk w ps a0 a2 lb 30) (hp:pcode ps=0) (L:Laid w) (hz:tlQ ps lb≠[]) (q:Int)
  (hf:∀ W,Below w.heap.size w W→Gives Tryz.prog 75 #[.slice a0 ps.length c0,.slice a1 la.length c1,.slice a2 lb.length c2] W (.string (itx q))) (hq:q.natAbs < 10 ^ 100) (hsh:shortAll (combineQ la lb 1 ((-q:Int):Rat))=true) :
  Calls Tryz.prog 32 #[.slice a0 ps.length c0,.slice a1 ps.length c1,.slice a2 ps.length c2] w fun e w'=>∃ a c,e = .returned (.tuple #[.slice a ps.length c,.int .i64 0])∧Rd w' a (cellsQ (combineQ la lb 1 ((-q:Int):Rat)))∧Below w.heap.size w w':=by
 have hn:=A.n
 have Hc:=Lib.hid (checkQuotient_ok w ps a0 a1 a2 c0 c1 c2 la lb A B hp L hz)
 have Hf:=Lib.hid hf
 rw [A.len,B.len] at Hc Hf
 have Hng:Hid (∀ W,Gives Tryz.prog 34 #[.string (itx q)] W (.string (itx (-q)))):=fun W=>neg_any W q (num_pow (D:=100) hq (by decide) (by decide))
 have Hnum:Hid (∀ W,Below w.heap.size w W→Gives Tryz.prog 65 #[.int .i64 1] W (.agg #[.string (itx 1),.string (dec 1)])):=fun W hW=>number_any W 1 (by decide) (by decide) (L.below hW)
 have hk:Sm 100 ((-q:Int):Rat):=⟨by rw [(rat_neg_num q).1]; omega,by rw [(rat_neg_num q).2]; exact Nat.one_lt_pow (by decide) (by decide)⟩
 have HS:Hid (∀ W g1 g2,Below w.heap.size w W→W.heap[g1]?=some (.cells #[.slice a1 ps.length c1,.slice a2 ps.length c2] 34 (0,0))→W.heap[g2]?=some (.cells #[.string (itx 1),.string (dec 1),.string (itx (-q)),.string ⟨#[49]⟩] 30 (0,0)) →
   Calls Tryz.prog 59 #[.int .i64 ps.length,.slice (some ⟨g1,0,none⟩) 2 2,.slice (some ⟨g2,0,none⟩) 2 2] W fun e w'=>∃ a c,e = .returned (.slice a ps.length c)∧Rd w' a (cellsQ (combineQ la lb 1 ((-q:Int):Rat)))∧Below W.heap.size W w'):=fun W g1 g2 hW h1 h2=>by
  have h1':W.heap[g1]?=some (.cells #[.slice a1 (la.map qs).length c1,.slice a2 (lb.map qs).length c2] 34 (0,0)):=by rw [List.length_map,List.length_map,A.len,B.len]; exact h1
  have h2':W.heap[g2]?=some (.cells #[.string (itx (1:Rat).num),.string (dec (1:Rat).den),.string (itx ((-q:Int):Rat).num),.string (dec ((-q:Int):Rat).den)] 30 (0,0)):=by
   rw [(rat_neg_num q).1,(rat_neg_num q).2,show (1:Rat).num=1 from rfl,show (1:Rat).den=1 from rfl,dec_one]
   rw [dec_one] at h2
   exact h2
  have h:=sum_any W _ _ 2 2 ps.length [la,lb] [1,((-q:Int):Rat)] 30 100 (rdl_two h1' (A.below hW).rl (B.below hW).rl) (rd_obj h2') (by intro l hl; simp only [List.mem_cons,List.not_mem_nil,or_false] at hl; rcases hl with rfl | rfl <;> first | exact A.len | exact B.len) rfl
   (by intro l hl; simp only [List.mem_cons,List.not_mem_nil,or_false] at hl; rcases hl with rfl | rfl <;> first | exact A.sm | exact B.sm)
   (by intro z hz; simp only [List.mem_cons,List.not_mem_nil,or_false] at hz; rcases hz with rfl | rfl <;> first | exact sm_one.le (by decide) | exact hk) (by omega) (by simp) (by simp only [List.length_cons,List.length_nil]; omega) (L.below hW)
  rw [sumQ_two _ _ _ _ _ A.len B.len] at h
  unfold GivesQ at h
  rw [combineQ_length _ _ _ _ (A.len.trans B.len.symm),A.len] at h
  refine Calls.mono h ?_
  rintro e w' ⟨a,c,rfl,ho,hb⟩
  exact ⟨a,c,rfl,ho.rd,hb⟩
 have Hres:Hid (∀ W a c,Rd W a (cellsQ (combineQ la lb 1 ((-q:Int):Rat)))→Gives Tryz.prog 58 #[.slice a ps.length c] W (.tuple #[.slice a ps.length c,.int .i64 0])):=fun W a c hr=>by
  have hl:=combineQ_length la lb 1 ((-q:Int):Rat) (A.len.trans B.len.symm)
  have:=result_fine W a c _ hr (by rw [hl,A.len]; omega) hsh
  rw [hl,A.len] at this
  exact this
 clear A B hp L hz hf hq hsh hk hn
 generalize combineQ la lb 1 ((-q:Int):Rat)=S at *
 generalize itx q=sq at *
 generalize itx (-q)=sn at *
 generalize itx 1=s1 at *
 generalize dec 1=s2 at *
 generalize ps.length=n at *
 go_enter Tryz.func32,Tryz.ntmps32
 go_wp2_with fail
 refine Calls.mono Hc.out ?_
 rintro e w1 ⟨rfl,hb⟩
 have B1:=Lib.hid hb
 clear hb Hc
 go_wp2_with fail
 refine Calls.mono (Hf.out _ B1.out) ?_
 rintro e w2 ⟨rfl,hb⟩
 have B2:=Lib.hid (B1.out.trans (hb.mono B1.out.size))
 clear hb Hf
 go_wp2_with fail
 refine Calls.mono (Hng.out _) ?_
 rintro e w3 ⟨rfl,hb⟩
 have B3:=Lib.hid (B2.out.trans (hb.mono B2.out.size))
 clear hb Hng
 go_wp2_with fail
 have B4:=Lib.hid (B3.out.alloc B3.out.size (.cells #[.string sn,.string ⟨#[49]⟩] 30))
 have K4:=Lib.hid (heap_at w3 #[.string sn,.string ⟨#[49]⟩] 30 _ rfl)
 generalize hN:w3.heap.size=g3 at *
 generalize w3.alloc (.cells #[.string sn,.string ⟨#[49]⟩] 30)=w4 at *
 clear hN B3
 obtain ⟨k0,k1,-,-⟩:=two_cells K4.out
 have q0:=BW.cell k0
 have q1:=BW.cell k1
 have hnon:Nonempty (BW w4):=⟨⟨w4,Below.refl _ _⟩⟩
 have I:Hid (Below w4.heap.size w4 w4.drew):=(Below.refl _ _).drew
 go_wp2_with fail
 clear k0 k1
 refine wp_region_tree 13 (.rd 1 0 (.rd 1 1 (.rd 1 2 (.rd 1 3 (.rd 1 6 (.two 4 5 (.mv 5 (.mv 7 (.mv 8 (.mv 9 (.rd 2 10 (.rd 2 11 (.mv 12 (.mv 13 .nil)))))))) (.two 4 7 (.mv 7 (.mv 8 (.mv 9 (.rd 2 10 (.rd 2 11 (.mv 12 (.mv 13 .nil))))))) (.mv 4 (.mv 8 (.mv 9 (.rd 2 10 (.rd 2 11 (.mv 12 (.mv 13 .nil)))))))))))))) (fun w'=>∃ p:BW w4,w'=p.w) (by kernel_rfl) (by kernel_rfl) ?_ ?_
 ·exact ⟨⟨_,I.out⟩,rfl⟩
 iterate 5 (refine walkT_read ?_; simp only [dsc_,dz_,tsc_,tz_]; go_big_quiet_step (fail); refine wpQuiet_nil ?_)
 clear hnon q0 q1
 refine walkT_two ?_ ?_
 ·simp only [dsc_,dz_,tsc_,tz_]
  go_wp2_with fail
  have N4:Hid ((w4.alloc (.cells #[.slice a1 n c1,.slice a2 n c2] 34)).drew.heap[w4.heap.size]?=some (.cells #[.slice a1 n c1,.slice a2 n c2] 34 (0,0))):=heap_at w4 #[.slice a1 n c1,.slice a2 n c2] 34 _ rfl
  have D1:Hid (Below w4.heap.size w4 (w4.alloc (.cells #[.slice a1 n c1,.slice a2 n c2] 34)).drew):=((Below.refl w4.heap.size w4).alloc nr_ _).drew
  generalize (w4.alloc (.cells #[.slice a1 n c1,.slice a2 n c2] 34)).drew=u1 at *
  clear I
  refine ⟨⟨⟨_,D1.out⟩,rfl⟩,?_⟩
  refine walkT_move ?_
  simp only [dsc_,dz_,tsc_,tz_]
  go_wp2_with fail
  refine Calls.mono (Hnum.out _ (B4.out.trans (D1.out.mono B4.out.size))) ?_
  rintro e_ u2 ⟨rfl,hb⟩
  have D2:=Lib.hid (D1.out.trans (hb.mono D1.out.size))
  replace N4:=Lib.hid (heap_kept N4.out hb nr_)
  clear hb D1
  go_wp2_with fail
  refine ⟨⟨⟨_,D2.out⟩,rfl⟩,?_⟩
  refine walkT_move ?_
  simp only [dsc_,dz_,tsc_,tz_]
  go_wp2_with fail
  have N7:=Lib.hid (heap_at u2 #[.string s1,.string s2,.string sn,.string ⟨#[49]⟩] 30 _ rfl)
  have D3:=Lib.hid (D2.out.alloc D2.out.size (.cells #[.string s1,.string s2,.string sn,.string ⟨#[49]⟩] 30))
  replace N4:=Lib.hid (heap_old N4.out (.cells #[.string s1,.string s2,.string sn,.string ⟨#[49]⟩] 30))
  generalize u2.alloc (.cells #[.string s1,.string s2,.string sn,.string ⟨#[49]⟩] 30)=u3 at *
  clear D2
  refine ⟨⟨⟨_,D3.out⟩,rfl⟩,?_⟩
  refine walkT_move ?_
  simp only [dsc_,dz_,tsc_,tz_]
  go_wp2_with fail
  refine Calls.mono (HS.out _ _ _ (B4.out.trans (D3.out.mono B4.out.size)) N4.out N7.out) ?_
  rintro e_ y1 ⟨a,c,rfl,hr,hb⟩
  have E1:=Lib.hid (D3.out.trans (hb.mono D3.out.size))
  have R1:=Lib.hid hr
  clear hb hr N4 N7 D3
  go_wp2_with fail
  refine ⟨⟨⟨_,E1.out⟩,rfl⟩,?_⟩
  refine walkT_move ?_
  simp only [dsc_,dz_,tsc_,tz_]
  go_wp2_with fail
  refine Calls.mono (Hres.out _ a c R1.out) ?_
  rintro e_ y2 ⟨rfl,hb⟩
  have E2:=Lib.hid (E1.out.trans (hb.mono E1.out.size))
  have R2:=Lib.hid (R1.out.below hb nr_)
  clear hb E1 R1
  go_wp2_with fail
  refine ⟨⟨⟨_,E2.out⟩,rfl⟩,?_⟩
  refine walkT_any ?_
  simp only [dsc_,dz_,tsc_,tz_]
  go_big_quiet_step (fail)
  refine wpQuiet_nil ?_
  refine walkT_any ?_
  simp only [dsc_,dz_,tsc_,tz_]
  go_big_quiet_step (fail)
  refine wpQuiet_nil ?_
  refine walkT_move ?_
  simp only [dsc_,dz_,tsc_,tz_]
  go_wp2_with fail
  refine ⟨⟨⟨_,E2.out⟩,rfl⟩,?_⟩
  refine walkT_move ?_
  simp only [dsc_,dz_,tsc_,tz_]
  go_wp2_with fail
  simp only [walkT]
  have B9:=Lib.hid (B4.out.trans (E2.out.mono B4.out.size))
  clear E2
  go_wp2_with fail
  go_ret2
  exact ⟨a,c,rfl,R2.out,B9.out⟩
 ·simp only [dsc_,dz_,tsc_,tz_]
  go_wp2_with fail
  refine Calls.mono (Hnum.out _ (B4.out.trans (I.out.mono B4.out.size))) ?_
  rintro e_ u1 ⟨rfl,hb⟩
  have D1:=Lib.hid (I.out.trans (hb.mono I.out.size))
  clear hb I
  go_wp2_with fail
  refine ⟨⟨⟨_,D1.out⟩,rfl⟩,?_⟩
  refine walkT_two ?_ ?_
  ·simp only [dsc_,dz_,tsc_,tz_]
   go_wp2_with fail
   have N4:=Lib.hid (heap_at u1 #[.slice a1 n c1,.slice a2 n c2] 34 _ rfl)
   have D2:=Lib.hid (D1.out.alloc D1.out.size (.cells #[.slice a1 n c1,.slice a2 n c2] 34))
   generalize u1.alloc (.cells #[.slice a1 n c1,.slice a2 n c2] 34)=u2 at *
   clear D1
   refine ⟨⟨⟨_,D2.out⟩,rfl⟩,?_⟩
   refine walkT_move ?_
   simp only [dsc_,dz_,tsc_,tz_]
   go_wp2_with fail
   have N7:=Lib.hid (heap_at u2 #[.string s1,.string s2,.string sn,.string ⟨#[49]⟩] 30 _ rfl)
   have D3:=Lib.hid (D2.out.alloc D2.out.size (.cells #[.string s1,.string s2,.string sn,.string ⟨#[49]⟩] 30))
   replace N4:=Lib.hid (heap_old N4.out (.cells #[.string s1,.string s2,.string sn,.string ⟨#[49]⟩] 30))
   generalize u2.alloc (.cells #[.string s1,.string s2,.string sn,.string ⟨#[49]⟩] 30)=u3 at *
   clear D2
   refine ⟨⟨⟨_,D3.out⟩,rfl⟩,?_⟩
   refine walkT_move ?_
   simp only [dsc_,dz_,tsc_,tz_]
   go_wp2_with fail
   refine Calls.mono (HS.out _ _ _ (B4.out.trans (D3.out.mono B4.out.size)) N4.out N7.out) ?_
   rintro e_ y1 ⟨a,c,rfl,hr,hb⟩
   have E1:=Lib.hid (D3.out.trans (hb.mono D3.out.size))
   have R1:=Lib.hid hr
   clear hb hr N4 N7 D3
   go_wp2_with fail
   refine ⟨⟨⟨_,E1.out⟩,rfl⟩,?_⟩
   refine walkT_move ?_
   simp only [dsc_,dz_,tsc_,tz_]
   go_wp2_with fail
   refine Calls.mono (Hres.out _ a c R1.out) ?_
   rintro e_ y2 ⟨rfl,hb⟩
   have E2:=Lib.hid (E1.out.trans (hb.mono E1.out.size))
   have R2:=Lib.hid (R1.out.below hb nr_)
   clear hb E1 R1
   go_wp2_with fail
   refine ⟨⟨⟨_,E2.out⟩,rfl⟩,?_⟩
   refine walkT_any ?_
   simp only [dsc_,dz_,tsc_,tz_]
   go_big_quiet_step (fail)
   refine wpQuiet_nil ?_
   refine walkT_any ?_
   simp only [dsc_,dz_,tsc_,tz_]
   go_big_quiet_step (fail)
   refine wpQuiet_nil ?_
   refine walkT_move ?_
   simp only [dsc_,dz_,tsc_,tz_]
   go_wp2_with fail
   refine ⟨⟨⟨_,E2.out⟩,rfl⟩,?_⟩
   refine walkT_move ?_
   simp only [dsc_,dz_,tsc_,tz_]
   go_wp2_with fail
   simp only [walkT]
   have B9:=Lib.hid (B4.out.trans (E2.out.mono B4.out.size))
   clear E2
   go_wp2_with fail
   go_ret2
   exact ⟨a,c,rfl,R2.out,B9.out⟩
  ·simp only [dsc_,dz_,tsc_,tz_]
   go_wp2_with fail
   have N7:=Lib.hid (heap_at u1 #[.string s1,.string s2,.string sn,.string ⟨#[49]⟩] 30 _ rfl)
   have D2:=Lib.hid (D1.out.alloc D1.out.size (.cells #[.string s1,.string s2,.string sn,.string ⟨#[49]⟩] 30))
   generalize u1.alloc (.cells #[.string s1,.string s2,.string sn,.string ⟨#[49]⟩] 30)=u2 at *
   clear D1
   refine ⟨⟨⟨_,D2.out⟩,rfl⟩,?_⟩
   refine walkT_move ?_
   simp only [dsc_,dz_,tsc_,tz_]
   go_wp2_with fail
   have N4:=Lib.hid (heap_at u2 #[.slice a1 n c1,.slice a2 n c2] 34 _ rfl)
   have D3:=Lib.hid (D2.out.alloc D2.out.size (.cells #[.slice a1 n c1,.slice a2 n c2] 34))
   replace N7:=Lib.hid (heap_old N7.out (.cells #[.slice a1 n c1,.slice a2 n c2] 34))
   generalize u2.alloc (.cells #[.slice a1 n c1,.slice a2 n c2] 34)=u3 at *
   clear D2
   refine ⟨⟨⟨_,D3.out⟩,rfl⟩,?_⟩
   refine walkT_move ?_
   simp only [dsc_,dz_,tsc_,tz_]
   go_wp2_with fail
   refine Calls.mono (HS.out _ _ _ (B4.out.trans (D3.out.mono B4.out.size)) N4.out N7.out) ?_
   rintro e_ y1 ⟨a,c,rfl,hr,hb⟩
   have E1:=Lib.hid (D3.out.trans (hb.mono D3.out.size))
   have R1:=Lib.hid hr
   clear hb hr N4 N7 D3
   go_wp2_with fail
   refine ⟨⟨⟨_,E1.out⟩,rfl⟩,?_⟩
   refine walkT_move ?_
   simp only [dsc_,dz_,tsc_,tz_]
   go_wp2_with fail
   refine Calls.mono (Hres.out _ a c R1.out) ?_
   rintro e_ y2 ⟨rfl,hb⟩
   have E2:=Lib.hid (E1.out.trans (hb.mono E1.out.size))
   have R2:=Lib.hid (R1.out.below hb nr_)
   clear hb E1 R1
   go_wp2_with fail
   refine ⟨⟨⟨_,E2.out⟩,rfl⟩,?_⟩
   refine walkT_any ?_
   simp only [dsc_,dz_,tsc_,tz_]
   go_big_quiet_step (fail)
   refine wpQuiet_nil ?_
   refine walkT_any ?_
   simp only [dsc_,dz_,tsc_,tz_]
   go_big_quiet_step (fail)
   refine wpQuiet_nil ?_
   refine walkT_move ?_
   simp only [dsc_,dz_,tsc_,tz_]
   go_wp2_with fail
   refine ⟨⟨⟨_,E2.out⟩,rfl⟩,?_⟩
   refine walkT_move ?_
   simp only [dsc_,dz_,tsc_,tz_]
   go_wp2_with fail
   simp only [walkT]
   have B9:=Lib.hid (B4.out.trans (E2.out.mono B4.out.size))
   clear E2
   go_wp2_with fail
   go_ret2
   exact ⟨a,c,rfl,R2.out,B9.out⟩
end Go.Proofs.YtlomhfknmhaboaaGreatDoor
