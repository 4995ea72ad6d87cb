/- Lemmas for the laws of this seat, part 5. -/
import Derived.Deep.OwnRows
import Derived.StillTail
import Derived.Lib.QuietBelow
import Derived.BigQuiet
import Derived.Test.YtlomhfknmhaboaaGreatDoorMf4
namespace Go.Proofs.YtlomhfknmhaboaaGreatDoor
open Go.RowKit
theorem prod_le5 {k a:Int} (hk : -100000≤k∧k≤100000) (ha:0≤a∧a≤469762049) : -46976204900000≤k * a∧k * a≤46976204900000:=by
 have h:(k * a).natAbs≤100000 * 469762049:=by rw [Int.natAbs_mul]; exact Nat.mul_le_mul (by omega) (by omega)
 omega
theorem sums_le5:∀ (l:List (Int×Int)),(∀ x∈l,okT 100000 x)→(∀ x∈l,2≤x.1∧x.1≤97) →
  (-((l.length:Int) * 46976204900000)≤lowT l∧lowT l≤(l.length:Int) * 46976204900000)∧(-((l.length:Int) * 46976204900000)≤highT l∧highT l≤(l.length:Int) * 46976204900000)
 | [],_,_=>⟨⟨Int.le_refl _,Int.le_refl _⟩,⟨Int.le_refl _,Int.le_refl _⟩⟩
 | x :: l,h,hp=>by
  have ih:=sums_le5 l (fun y hy=>h y (List.mem_cons_of_mem _ hy)) (fun y hy=>hp y (List.mem_cons_of_mem _ hy))
  have hx:=(h x List.mem_cons_self).1
  have hq:=hp x List.mem_cons_self
  have ha:=lgA_le x.1 hq.1 hq.2
  have t1:=prod_le5 hx (show 0≤lgA x.1∧lgA x.1≤469762049 by omega)
  have t2:=prod_le5 hx (show 0≤lgB x.1∧lgB x.1≤469762049 by unfold lgB; split <;> omega)
  have e1:lowT (x :: l)=min (x.2 * lgA x.1) (x.2 * lgB x.1) + lowT l:=by simp [lowT]
  have e2:highT (x :: l)=max (x.2 * lgA x.1) (x.2 * lgB x.1) + highT l:=by simp [highT]
  rw [e1,e2,List.length_cons]
  omega
theorem lowT_le:∀ l:List (Int×Int),lowT l≤highT l
 | []=>Int.le_refl _
 | x :: l=>by
  have ih:=lowT_le l
  have e1:lowT (x :: l)=min (x.2 * lgA x.1) (x.2 * lgB x.1) + lowT l:=by simp [lowT]
  have e2:highT (x :: l)=max (x.2 * lgA x.1) (x.2 * lgB x.1) + highT l:=by simp [highT]
  rw [e1,e2]
  omega
structure QuoT (tx ty:List (Int×Int)) (d g:Nat) (q:Int):Prop where
 okx:∀ x∈tx,okT 100000 x
 oky:∀ x∈ty,okT 100000 x
 r:(0 < lowT ty∧LN.quoL (lowT tx) (lowT ty) (highT ty) g d=q∧LN.quoH (highT tx) (lowT ty) (highT ty) g d=q) ∨
   (highT ty < 0∧LN.quoL (-highT tx) (-highT ty) (-lowT ty) g d=q∧LN.quoH (-lowT tx) (-highT ty) (-lowT ty) g d=q)
 lo : -4000000000000000000≤q
 hi:q≤4000000000000000000
theorem near_says (w:World) (b1 b2:Option Addr) (d1 d2 D:Nat) (tl:List (Int×Int)) (T:TermsAt w tl b1 b2) (hl:tl.length≤6) :
  ∃ (a h:Int) (b:Bool),(b=true→(∀ x∈tl,okT 100000 x)∧a=lowT tl∧h=highT tl)∧(-300000000000000≤a∧a≤300000000000000)∧(-300000000000000≤h∧h≤300000000000000) ∧
   ∀ W,Below w.heap.size w W→Laid W→Gives Tryz.prog 134 #[.agg (tcells b1 d1 b2 d2 tl.length D),.int .i64 100000] W (.tuple #[.int .i64 a,.int .i64 h,.bool b]):=by
 by_cases ho:∀ x∈tl,okT 100000 x
 ·have hs:=sums_le5 tl ho T.p
  refine ⟨lowT tl,highT tl,true,fun _=>⟨ho,rfl,rfl⟩,by omega,by omega,fun W hW LW=>?_⟩
  have:=near_any W b1 b2 d1 d2 D tl 100000 (by decide) (by decide) T.len (T.below hW).r1 (T.below hW).r2 T.p T.z LW
  unfold nearV at this
  rw [if_pos ho] at this
  exact this
 ·refine ⟨0,0,false,fun h=>(by cases h),by decide,by decide,fun W hW LW=>?_⟩
  have:=near_any W b1 b2 d1 d2 D tl 100000 (by decide) (by decide) T.len (T.below hW).r1 (T.below hW).r2 T.p T.z LW
  unfold nearV at this
  rw [if_neg ho] at this
  exact this
theorem small_says (d:Nat) (hd:Num d):∃ (a:Int) (b:Bool),(b=true→a=d)∧0≤a∧a≤9223372036854775807∧∀ W,Laid W→Gives Tryz.prog 110 #[.string (dec d)] W (.tuple #[.int .i64 a,.bool b]):=by
 by_cases h : -9223372036854775808≤(d:Int)∧(d:Int)≤9223372036854775807
 ·refine ⟨d,true,fun _=>rfl,by omega,h.2,fun W LW=>?_⟩
  have:=smallz_any W (d:Int) hd LW
  rw [if_pos h,itx_nat] at this
  exact this
 ·refine ⟨0,false,fun h=>(by cases h),by decide,by decide,fun W LW=>?_⟩
  have:=smallz_any W (d:Int) hd LW
  rw [if_neg h,itx_nat] at this
  exact this
set_option maxRecDepth 100000 in
set_option maxHeartbeats 64000000 in
theorem quotient_any (w:World) (x1 x2 y1 y2:Option Addr) (e1 e2 g1 g2 d g:Nat) (tx ty:List (Int×Int)) (X:TermsAt w tx x1 x2) (Y:TermsAt w ty y1 y2) (hlx:tx.length≤6) (hly:ty.length≤6) (hd:Num d) (hg:Num g) (hd0:0 < d) (hg0:0 < g) (L:Laid w) :
  Calls Tryz.prog 116 #[.agg (tcells x1 e1 x2 e2 tx.length d),.agg (tcells y1 g1 y2 g2 ty.length g)] w fun e w'=>∃ q b,e = .returned (.tuple #[.int .i64 q,.bool b])∧(b=true→QuoT tx ty d g q)∧Below w.heap.size w w':=by
 obtain ⟨X1,X2,bx,hX,hX1,hX2,NX⟩:=near_says w x1 x2 e1 e2 d tx X hlx
 obtain ⟨Y1,Y2,by_,hY,hY1,hY2,NY⟩:=near_says w y1 y2 g1 g2 g ty Y hly
 obtain ⟨D,bd,hD,hD0,hD1,ND⟩:=small_says d hd
 obtain ⟨G,bg,hG,hG0,hG1,NG⟩:=small_says g hg
 have Hnx:Hid (∀ W,Below w.heap.size w W→Gives Tryz.prog 134 #[.agg (tcells x1 e1 x2 e2 tx.length d),.int .i64 100000] W (.tuple #[.int .i64 X1,.int .i64 X2,.bool bx])):=fun W hW=>NX W hW (L.below hW)
 have Hny:Hid (∀ W,Below w.heap.size w W→Gives Tryz.prog 134 #[.agg (tcells y1 g1 y2 g2 ty.length g),.int .i64 100000] W (.tuple #[.int .i64 Y1,.int .i64 Y2,.bool by_])):=fun W hW=>NY W hW (L.below hW)
 have Hsd:Hid (∀ W,Below w.heap.size w W→Gives Tryz.prog 110 #[.string (dec d)] W (.tuple #[.int .i64 D,.bool bd])):=fun W hW=>ND W (L.below hW)
 have Hsg:Hid (∀ W,Below w.heap.size w W→Gives Tryz.prog 110 #[.string (dec g)] W (.tuple #[.int .i64 G,.bool bg])):=fun W hW=>NG W (L.below hW)
 have R1:Hid (((w.alloc (.cells (tcells x1 e1 x2 e2 tx.length d) 103)).alloc (.cells (tcells y1 g1 y2 g2 ty.length g) 103)).heap[w.heap.size]?=some (.cells #[.slice x1 tx.length e1,.slice x2 tx.length e2,.string (dec d)] 103 (0,0))):=heap_old (heap_at w _ _ _ rfl) _
 have R2:Hid (((w.alloc (.cells (tcells x1 e1 x2 e2 tx.length d) 103)).alloc (.cells (tcells y1 g1 y2 g2 ty.length g) 103)).heap[w.heap.size + 1]?=some (.cells #[.slice y1 ty.length g1,.slice y2 ty.length g2,.string (dec g)] 103 (0,0))):=heap_at _ _ _ _ (by show (w.heap.push _).size=_; exact Array.size_push ..)
 have B0:Hid (Below w.heap.size w ((w.alloc (.cells (tcells x1 e1 x2 e2 tx.length d) 103)).alloc (.cells (tcells y1 g1 y2 g2 ty.length g) 103))):=by
  show Below _ _ _
  have b1:=(Below.refl w.heap.size w).alloc nr_ (.cells (tcells x1 e1 x2 e2 tx.length d) 103)
  exact b1.alloc b1.size _
 have HX:=Lib.hid hX
 have HY:=Lib.hid hY
 have HD:=Lib.hid hD
 have HG:=Lib.hid hG
 clear NX NY ND NG hX hY hD hG X Y L hlx hly hd hg
 generalize tx.length=n at *
 generalize ty.length=m at *
 cases bx with
 | false =>
  go_enter Tryz.func116,Tryz.ntmps116
  go_wp2_with fail
  generalize (w.alloc (.cells (tcells x1 e1 x2 e2 n d) 103)).alloc (.cells (tcells y1 g1 y2 g2 m g) 103)=W0 at *
  refine Calls.mono (Hnx.out _ B0.out) ?_
  rintro e W1 ⟨rfl,hb⟩
  have B1:=Lib.hid (B0.out.trans (hb.mono B0.out.size))
  have R3:=Lib.hid (heap_kept R1.out hb nr_)
  have R4:=Lib.hid (heap_kept R2.out hb nr_)
  clear hb B0 R1 R2 Hnx
  obtain ⟨k0,k1,k2,-⟩:=obj_cells3 R3.out
  obtain ⟨m0,m1,m2,-⟩:=obj_cells3 R4.out
  go_wp2_with fail
  refine Calls.mono (Hny.out _ B1.out) ?_
  rintro e W2 ⟨rfl,hb⟩
  have B2:=Lib.hid (B1.out.trans (hb.mono B1.out.size))
  have R5:=Lib.hid (heap_kept R3.out hb nr_)
  have R6:=Lib.hid (heap_kept R4.out hb nr_)
  clear hb B1 R3 R4 Hny k0 k1 k2 m0 m1 m2
  obtain ⟨k0,k1,k2,-⟩:=obj_cells3 R5.out
  go_wp2_with fail
  refine Calls.mono (Hsd.out _ B2.out) ?_
  rintro e W3 ⟨rfl,hb⟩
  have B3:=Lib.hid (B2.out.trans (hb.mono B2.out.size))
  have R8:=Lib.hid (heap_kept R6.out hb nr_)
  clear hb B2 R5 R6 Hsd k0 k1 k2
  obtain ⟨m0,m1,m2,-⟩:=obj_cells3 R8.out
  go_wp2_with fail
  refine Calls.mono (Hsg.out _ B3.out) ?_
  rintro e W4 ⟨rfl,hb⟩
  have B4:=Lib.hid (B3.out.trans (hb.mono B3.out.size))
  clear hb B3 R8 Hsg m0 m1 m2
  go_wp2_with fail
  go_ret2
  exact ⟨0,false,rfl,fun h=>(by cases h),B4.out⟩
 | true =>
  cases by_ with
  | false =>
   go_enter Tryz.func116,Tryz.ntmps116
   go_wp2_with fail
   generalize (w.alloc (.cells (tcells x1 e1 x2 e2 n d) 103)).alloc (.cells (tcells y1 g1 y2 g2 m g) 103)=W0 at *
   refine Calls.mono (Hnx.out _ B0.out) ?_
   rintro e W1 ⟨rfl,hb⟩
   have B1:=Lib.hid (B0.out.trans (hb.mono B0.out.size))
   have R3:=Lib.hid (heap_kept R1.out hb nr_)
   have R4:=Lib.hid (heap_kept R2.out hb nr_)
   clear hb B0 R1 R2 Hnx
   obtain ⟨k0,k1,k2,-⟩:=obj_cells3 R3.out
   obtain ⟨m0,m1,m2,-⟩:=obj_cells3 R4.out
   go_wp2_with fail
   refine Calls.mono (Hny.out _ B1.out) ?_
   rintro e W2 ⟨rfl,hb⟩
   have B2:=Lib.hid (B1.out.trans (hb.mono B1.out.size))
   have R5:=Lib.hid (heap_kept R3.out hb nr_)
   have R6:=Lib.hid (heap_kept R4.out hb nr_)
   clear hb B1 R3 R4 Hny k0 k1 k2 m0 m1 m2
   obtain ⟨k0,k1,k2,-⟩:=obj_cells3 R5.out
   go_wp2_with fail
   refine Calls.mono (Hsd.out _ B2.out) ?_
   rintro e W3 ⟨rfl,hb⟩
   have B3:=Lib.hid (B2.out.trans (hb.mono B2.out.size))
   have R8:=Lib.hid (heap_kept R6.out hb nr_)
   clear hb B2 R5 R6 Hsd k0 k1 k2
   obtain ⟨m0,m1,m2,-⟩:=obj_cells3 R8.out
   go_wp2_with fail
   refine Calls.mono (Hsg.out _ B3.out) ?_
   rintro e W4 ⟨rfl,hb⟩
   have B4:=Lib.hid (B3.out.trans (hb.mono B3.out.size))
   clear hb B3 R8 Hsg m0 m1 m2
   go_wp2_with fail
   go_ret2
   exact ⟨0,false,rfl,fun h=>(by cases h),B4.out⟩
  | true =>
   cases bd with
   | false =>
    go_enter Tryz.func116,Tryz.ntmps116
    go_wp2_with fail
    generalize (w.alloc (.cells (tcells x1 e1 x2 e2 n d) 103)).alloc (.cells (tcells y1 g1 y2 g2 m g) 103)=W0 at *
    refine Calls.mono (Hnx.out _ B0.out) ?_
    rintro e W1 ⟨rfl,hb⟩
    have B1:=Lib.hid (B0.out.trans (hb.mono B0.out.size))
    have R3:=Lib.hid (heap_kept R1.out hb nr_)
    have R4:=Lib.hid (heap_kept R2.out hb nr_)
    clear hb B0 R1 R2 Hnx
    obtain ⟨k0,k1,k2,-⟩:=obj_cells3 R3.out
    obtain ⟨m0,m1,m2,-⟩:=obj_cells3 R4.out
    go_wp2_with fail
    refine Calls.mono (Hny.out _ B1.out) ?_
    rintro e W2 ⟨rfl,hb⟩
    have B2:=Lib.hid (B1.out.trans (hb.mono B1.out.size))
    have R5:=Lib.hid (heap_kept R3.out hb nr_)
    have R6:=Lib.hid (heap_kept R4.out hb nr_)
    clear hb B1 R3 R4 Hny k0 k1 k2 m0 m1 m2
    obtain ⟨k0,k1,k2,-⟩:=obj_cells3 R5.out
    go_wp2_with fail
    refine Calls.mono (Hsd.out _ B2.out) ?_
    rintro e W3 ⟨rfl,hb⟩
    have B3:=Lib.hid (B2.out.trans (hb.mono B2.out.size))
    have R8:=Lib.hid (heap_kept R6.out hb nr_)
    clear hb B2 R5 R6 Hsd k0 k1 k2
    obtain ⟨m0,m1,m2,-⟩:=obj_cells3 R8.out
    go_wp2_with fail
    refine Calls.mono (Hsg.out _ B3.out) ?_
    rintro e W4 ⟨rfl,hb⟩
    have B4:=Lib.hid (B3.out.trans (hb.mono B3.out.size))
    clear hb B3 R8 Hsg m0 m1 m2
    go_wp2_with fail
    go_ret2
    exact ⟨0,false,rfl,fun h=>(by cases h),B4.out⟩
   | true =>
    cases bg with
    | false =>
     go_enter Tryz.func116,Tryz.ntmps116
     go_wp2_with fail
     generalize (w.alloc (.cells (tcells x1 e1 x2 e2 n d) 103)).alloc (.cells (tcells y1 g1 y2 g2 m g) 103)=W0 at *
     refine Calls.mono (Hnx.out _ B0.out) ?_
     rintro e W1 ⟨rfl,hb⟩
     have B1:=Lib.hid (B0.out.trans (hb.mono B0.out.size))
     have R3:=Lib.hid (heap_kept R1.out hb nr_)
     have R4:=Lib.hid (heap_kept R2.out hb nr_)
     clear hb B0 R1 R2 Hnx
     obtain ⟨k0,k1,k2,-⟩:=obj_cells3 R3.out
     obtain ⟨m0,m1,m2,-⟩:=obj_cells3 R4.out
     go_wp2_with fail
     refine Calls.mono (Hny.out _ B1.out) ?_
     rintro e W2 ⟨rfl,hb⟩
     have B2:=Lib.hid (B1.out.trans (hb.mono B1.out.size))
     have R5:=Lib.hid (heap_kept R3.out hb nr_)
     have R6:=Lib.hid (heap_kept R4.out hb nr_)
     clear hb B1 R3 R4 Hny k0 k1 k2 m0 m1 m2
     obtain ⟨k0,k1,k2,-⟩:=obj_cells3 R5.out
     go_wp2_with fail
     refine Calls.mono (Hsd.out _ B2.out) ?_
     rintro e W3 ⟨rfl,hb⟩
     have B3:=Lib.hid (B2.out.trans (hb.mono B2.out.size))
     have R8:=Lib.hid (heap_kept R6.out hb nr_)
     clear hb B2 R5 R6 Hsd k0 k1 k2
     obtain ⟨m0,m1,m2,-⟩:=obj_cells3 R8.out
     go_wp2_with fail
     refine Calls.mono (Hsg.out _ B3.out) ?_
     rintro e W4 ⟨rfl,hb⟩
     have B4:=Lib.hid (B3.out.trans (hb.mono B3.out.size))
     clear hb B3 R8 Hsg m0 m1 m2
     go_wp2_with fail
     go_ret2
     exact ⟨0,false,rfl,fun h=>(by cases h),B4.out⟩
    | true =>
     have hDd:=HD.out rfl
     have hGg:=HG.out rfl
     have hXx:=HX.out rfl
     have hYy:=HY.out rfl
     by_cases hD2:(10000:Int) < D
     ·clear hDd hGg hXx hYy HX HY HD HG
      go_enter Tryz.func116,Tryz.ntmps116
      go_wp2_with fail
      generalize (w.alloc (.cells (tcells x1 e1 x2 e2 n d) 103)).alloc (.cells (tcells y1 g1 y2 g2 m g) 103)=W0 at *
      refine Calls.mono (Hnx.out _ B0.out) ?_
      rintro e W1 ⟨rfl,hb⟩
      have B1:=Lib.hid (B0.out.trans (hb.mono B0.out.size))
      have R3:=Lib.hid (heap_kept R1.out hb nr_)
      have R4:=Lib.hid (heap_kept R2.out hb nr_)
      clear hb B0 R1 R2 Hnx
      obtain ⟨k0,k1,k2,-⟩:=obj_cells3 R3.out
      obtain ⟨m0,m1,m2,-⟩:=obj_cells3 R4.out
      go_wp2_with fail
      refine Calls.mono (Hny.out _ B1.out) ?_
      rintro e W2 ⟨rfl,hb⟩
      have B2:=Lib.hid (B1.out.trans (hb.mono B1.out.size))
      have R5:=Lib.hid (heap_kept R3.out hb nr_)
      have R6:=Lib.hid (heap_kept R4.out hb nr_)
      clear hb B1 R3 R4 Hny k0 k1 k2 m0 m1 m2
      obtain ⟨k0,k1,k2,-⟩:=obj_cells3 R5.out
      go_wp2_with fail
      refine Calls.mono (Hsd.out _ B2.out) ?_
      rintro e W3 ⟨rfl,hb⟩
      have B3:=Lib.hid (B2.out.trans (hb.mono B2.out.size))
      have R8:=Lib.hid (heap_kept R6.out hb nr_)
      clear hb B2 R5 R6 Hsd k0 k1 k2
      obtain ⟨m0,m1,m2,-⟩:=obj_cells3 R8.out
      go_wp2_with fail
      refine Calls.mono (Hsg.out _ B3.out) ?_
      rintro e W4 ⟨rfl,hb⟩
      have B4:=Lib.hid (B3.out.trans (hb.mono B3.out.size))
      clear hb B3 R8 Hsg m0 m1 m2
      go_wp2_with fail
      go_ret2
      exact ⟨0,false,rfl,fun h=>(by cases h),B4.out⟩
     by_cases hG2:(10000:Int) < G
     ·clear hDd hGg hXx hYy HX HY HD HG
      go_enter Tryz.func116,Tryz.ntmps116
      go_wp2_with fail
      generalize (w.alloc (.cells (tcells x1 e1 x2 e2 n d) 103)).alloc (.cells (tcells y1 g1 y2 g2 m g) 103)=W0 at *
      refine Calls.mono (Hnx.out _ B0.out) ?_
      rintro e W1 ⟨rfl,hb⟩
      have B1:=Lib.hid (B0.out.trans (hb.mono B0.out.size))
      have R3:=Lib.hid (heap_kept R1.out hb nr_)
      have R4:=Lib.hid (heap_kept R2.out hb nr_)
      clear hb B0 R1 R2 Hnx
      obtain ⟨k0,k1,k2,-⟩:=obj_cells3 R3.out
      obtain ⟨m0,m1,m2,-⟩:=obj_cells3 R4.out
      go_wp2_with fail
      refine Calls.mono (Hny.out _ B1.out) ?_
      rintro e W2 ⟨rfl,hb⟩
      have B2:=Lib.hid (B1.out.trans (hb.mono B1.out.size))
      have R5:=Lib.hid (heap_kept R3.out hb nr_)
      have R6:=Lib.hid (heap_kept R4.out hb nr_)
      clear hb B1 R3 R4 Hny k0 k1 k2 m0 m1 m2
      obtain ⟨k0,k1,k2,-⟩:=obj_cells3 R5.out
      go_wp2_with fail
      refine Calls.mono (Hsd.out _ B2.out) ?_
      rintro e W3 ⟨rfl,hb⟩
      have B3:=Lib.hid (B2.out.trans (hb.mono B2.out.size))
      have R8:=Lib.hid (heap_kept R6.out hb nr_)
      clear hb B2 R5 R6 Hsd k0 k1 k2
      obtain ⟨m0,m1,m2,-⟩:=obj_cells3 R8.out
      go_wp2_with fail
      refine Calls.mono (Hsg.out _ B3.out) ?_
      rintro e W4 ⟨rfl,hb⟩
      have B4:=Lib.hid (B3.out.trans (hb.mono B3.out.size))
      clear hb B3 R8 Hsg m0 m1 m2
      go_wp2_with fail
      go_ret2
      exact ⟨0,false,rfl,fun h=>(by cases h),B4.out⟩
     have HXx:=Lib.hid hXx
     have HYy:=Lib.hid hYy
     have HDd:=Lib.hid hDd
     have HGg:=Lib.hid hGg
     have hD3:0 < D:=by omega
     have hG3:0 < G:=by omega
     clear hXx hYy hDd hGg HX HY HD HG hd0 hg0
     by_cases hy:Y2≤0
     ·have wn1:IntKind.i64.wrap (-X1) = -X1:=IntWalk.i64_in _ (by omega)
      have wn2:IntKind.i64.wrap (-X2) = -X2:=IntWalk.i64_in _ (by omega)
      have wn3:IntKind.i64.wrap (-Y1) = -Y1:=IntWalk.i64_in _ (by omega)
      have wn4:IntKind.i64.wrap (-Y2) = -Y2:=IntWalk.i64_in _ (by omega)
      by_cases hy2 : -Y2≤0
      ·clear HXx HYy HDd HGg
       go_enter Tryz.func116,Tryz.ntmps116
       go_wp2_with fail
       generalize (w.alloc (.cells (tcells x1 e1 x2 e2 n d) 103)).alloc (.cells (tcells y1 g1 y2 g2 m g) 103)=W0 at *
       refine Calls.mono (Hnx.out _ B0.out) ?_
       rintro e W1 ⟨rfl,hb⟩
       have B1:=Lib.hid (B0.out.trans (hb.mono B0.out.size))
       have R3:=Lib.hid (heap_kept R1.out hb nr_)
       have R4:=Lib.hid (heap_kept R2.out hb nr_)
       clear hb B0 R1 R2 Hnx
       obtain ⟨k0,k1,k2,-⟩:=obj_cells3 R3.out
       obtain ⟨m0,m1,m2,-⟩:=obj_cells3 R4.out
       go_wp2_with fail
       refine Calls.mono (Hny.out _ B1.out) ?_
       rintro e W2 ⟨rfl,hb⟩
       have B2:=Lib.hid (B1.out.trans (hb.mono B1.out.size))
       have R5:=Lib.hid (heap_kept R3.out hb nr_)
       have R6:=Lib.hid (heap_kept R4.out hb nr_)
       clear hb B1 R3 R4 Hny k0 k1 k2 m0 m1 m2
       obtain ⟨k0,k1,k2,-⟩:=obj_cells3 R5.out
       go_wp2_with fail
       refine Calls.mono (Hsd.out _ B2.out) ?_
       rintro e W3 ⟨rfl,hb⟩
       have B3:=Lib.hid (B2.out.trans (hb.mono B2.out.size))
       have R8:=Lib.hid (heap_kept R6.out hb nr_)
       clear hb B2 R5 R6 Hsd k0 k1 k2
       obtain ⟨m0,m1,m2,-⟩:=obj_cells3 R8.out
       go_wp2_with fail
       refine Calls.mono (Hsg.out _ B3.out) ?_
       rintro e W4 ⟨rfl,hb⟩
       have B4:=Lib.hid (B3.out.trans (hb.mono B3.out.size))
       clear hb B3 R8 Hsg m0 m1 m2
       go_wp2_with fail
       go_ret2
       exact ⟨0,false,rfl,fun h=>(by cases h),B4.out⟩
      ·have hle : -Y2 ≤ -Y1:=by
        obtain ⟨u1,u2,u3⟩:=HYy.out
        rw [u2,u3]
        have:=lowT_le ty
        omega
       by_cases hx1:(-X2) < 0
       ·by_cases hx2:(-X1) < 0
        ·skip
         have r1:((-X2) * G).natAbs≤300000000000000 * 10000:=by rw [Int.natAbs_mul]; exact Nat.mul_le_mul (by omega) (by omega)
         have r2:((-X1) * G).natAbs≤300000000000000 * 10000:=by rw [Int.natAbs_mul]; exact Nat.mul_le_mul (by omega) (by omega)
         have r3:((-Y2) * D).natAbs≤300000000000000 * 10000:=by rw [Int.natAbs_mul]; exact Nat.mul_le_mul (by omega) (by omega)
         have r4:((-Y1) * D).natAbs≤300000000000000 * 10000:=by rw [Int.natAbs_mul]; exact Nat.mul_le_mul (by omega) (by omega)
         have p3:0 < (-Y2) * D:=Int.mul_pos (by omega) hD3
         have p4:0 < (-Y1) * D:=Int.mul_pos (by omega) hD3
         have w1:IntKind.i64.wrap ((-X2) * G)=(-X2) * G:=IntWalk.i64_in _ (by omega)
         have w2:IntKind.i64.wrap ((-X1) * G)=(-X1) * G:=IntWalk.i64_in _ (by omega)
         have w3:IntKind.i64.wrap ((-Y2) * D)=(-Y2) * D:=IntWalk.i64_in _ (by omega)
         have w4:IntKind.i64.wrap ((-Y1) * D)=(-Y1) * D:=IntWalk.i64_in _ (by omega)
         have D1:Hid (∀ W,Gives Tryz.prog 140 #[.int .i64 ((-X2) * G),.int .i64 ((-Y2) * D)] W (.int .i64 ((-X2) * G / ((-Y2) * D)))):=fun W=>downward_any W _ _ (by omega) p3 (by omega)
         have D2:Hid (∀ W,Gives Tryz.prog 140 #[.int .i64 ((-X1) * G),.int .i64 ((-Y1) * D)] W (.int .i64 ((-X1) * G / ((-Y1) * D)))):=fun W=>downward_any W _ _ (by omega) p4 (by omega)
         have q5:(((-X2) * G / ((-Y2) * D)).natAbs:Int)≤4000000000000000000:=by
          have:=Int.natAbs_ediv_le_natAbs ((-X2) * G) ((-Y2) * D)
          omega
         have Hq:Hid ((-X2) * G / ((-Y2) * D)=(-X1) * G / ((-Y1) * D)→QuoT tx ty d g ((-X2) * G / ((-Y2) * D))):=fun h=>by
          obtain ⟨o1,o2,o3⟩:=HXx.out
          obtain ⟨u1,u2,u3⟩:=HYy.out
          refine ⟨o1,u1,?_,by omega,by omega⟩
          rw [← o2,← o3,← u2,← u3,← HDd.out,← HGg.out]
          refine .inr ⟨by omega,?_,?_⟩
          ·unfold LN.quoL
           rw [if_pos (by omega)]
          ·unfold LN.quoH
           rw [if_pos (by omega)]
           exact h.symm
         clear r1 r2 r3 r4 p3 p4 q5 HXx HYy HDd HGg
         obtain ⟨q1,hq1⟩:∃ q,(-X2) * G / ((-Y2) * D)=q:=⟨_,rfl⟩
         obtain ⟨q2,hq2⟩:∃ q,(-X1) * G / ((-Y1) * D)=q:=⟨_,rfl⟩
         rw [hq1] at D1 Hq
         rw [hq2] at D2 Hq
         clear hq1 hq2
         go_enter Tryz.func116,Tryz.ntmps116
         go_wp2_with fail
         generalize (w.alloc (.cells (tcells x1 e1 x2 e2 n d) 103)).alloc (.cells (tcells y1 g1 y2 g2 m g) 103)=W0 at *
         refine Calls.mono (Hnx.out _ B0.out) ?_
         rintro e W1 ⟨rfl,hb⟩
         have B1:=Lib.hid (B0.out.trans (hb.mono B0.out.size))
         have R3:=Lib.hid (heap_kept R1.out hb nr_)
         have R4:=Lib.hid (heap_kept R2.out hb nr_)
         clear hb B0 R1 R2 Hnx
         obtain ⟨k0,k1,k2,-⟩:=obj_cells3 R3.out
         obtain ⟨m0,m1,m2,-⟩:=obj_cells3 R4.out
         go_wp2_with fail
         refine Calls.mono (Hny.out _ B1.out) ?_
         rintro e W2 ⟨rfl,hb⟩
         have B2:=Lib.hid (B1.out.trans (hb.mono B1.out.size))
         have R5:=Lib.hid (heap_kept R3.out hb nr_)
         have R6:=Lib.hid (heap_kept R4.out hb nr_)
         clear hb B1 R3 R4 Hny k0 k1 k2 m0 m1 m2
         obtain ⟨k0,k1,k2,-⟩:=obj_cells3 R5.out
         go_wp2_with fail
         refine Calls.mono (Hsd.out _ B2.out) ?_
         rintro e W3 ⟨rfl,hb⟩
         have B3:=Lib.hid (B2.out.trans (hb.mono B2.out.size))
         have R8:=Lib.hid (heap_kept R6.out hb nr_)
         clear hb B2 R5 R6 Hsd k0 k1 k2
         obtain ⟨m0,m1,m2,-⟩:=obj_cells3 R8.out
         go_wp2_with fail
         refine Calls.mono (Hsg.out _ B3.out) ?_
         rintro e W4 ⟨rfl,hb⟩
         have B4:=Lib.hid (B3.out.trans (hb.mono B3.out.size))
         clear hb B3 R8 Hsg m0 m1 m2
         go_wp2_with fail
         refine Calls.mono (D1.out _) ?_
         rintro e W5 ⟨rfl,hb⟩
         have B5:=Lib.hid (B4.out.trans (hb.mono B4.out.size))
         clear hb B4
         go_wp2_with fail
         refine Calls.mono (D2.out _) ?_
         rintro e W6 ⟨rfl,hb⟩
         have B6:=Lib.hid (B5.out.trans (hb.mono B5.out.size))
         clear hb B5
         go_wp2_with fail
         go_ret2
         exact ⟨q1,q1 == q2,rfl,fun h=>Hq.out (by simpa using h),B6.out⟩
        ·skip
         have r1:((-X2) * G).natAbs≤300000000000000 * 10000:=by rw [Int.natAbs_mul]; exact Nat.mul_le_mul (by omega) (by omega)
         have r2:((-X1) * G).natAbs≤300000000000000 * 10000:=by rw [Int.natAbs_mul]; exact Nat.mul_le_mul (by omega) (by omega)
         have r3:((-Y2) * D).natAbs≤300000000000000 * 10000:=by rw [Int.natAbs_mul]; exact Nat.mul_le_mul (by omega) (by omega)
         have r4:((-Y2) * D).natAbs≤300000000000000 * 10000:=by rw [Int.natAbs_mul]; exact Nat.mul_le_mul (by omega) (by omega)
         have p3:0 < (-Y2) * D:=Int.mul_pos (by omega) hD3
         have p4:0 < (-Y2) * D:=Int.mul_pos (by omega) hD3
         have w1:IntKind.i64.wrap ((-X2) * G)=(-X2) * G:=IntWalk.i64_in _ (by omega)
         have w2:IntKind.i64.wrap ((-X1) * G)=(-X1) * G:=IntWalk.i64_in _ (by omega)
         have w3:IntKind.i64.wrap ((-Y2) * D)=(-Y2) * D:=IntWalk.i64_in _ (by omega)
         have w4:IntKind.i64.wrap ((-Y2) * D)=(-Y2) * D:=IntWalk.i64_in _ (by omega)
         have D1:Hid (∀ W,Gives Tryz.prog 140 #[.int .i64 ((-X2) * G),.int .i64 ((-Y2) * D)] W (.int .i64 ((-X2) * G / ((-Y2) * D)))):=fun W=>downward_any W _ _ (by omega) p3 (by omega)
         have D2:Hid (∀ W,Gives Tryz.prog 140 #[.int .i64 ((-X1) * G),.int .i64 ((-Y2) * D)] W (.int .i64 ((-X1) * G / ((-Y2) * D)))):=fun W=>downward_any W _ _ (by omega) p4 (by omega)
         have q5:(((-X2) * G / ((-Y2) * D)).natAbs:Int)≤4000000000000000000:=by
          have:=Int.natAbs_ediv_le_natAbs ((-X2) * G) ((-Y2) * D)
          omega
         have Hq:Hid ((-X2) * G / ((-Y2) * D)=(-X1) * G / ((-Y2) * D)→QuoT tx ty d g ((-X2) * G / ((-Y2) * D))):=fun h=>by
          obtain ⟨o1,o2,o3⟩:=HXx.out
          obtain ⟨u1,u2,u3⟩:=HYy.out
          refine ⟨o1,u1,?_,by omega,by omega⟩
          rw [← o2,← o3,← u2,← u3,← HDd.out,← HGg.out]
          refine .inr ⟨by omega,?_,?_⟩
          ·unfold LN.quoL
           rw [if_pos (by omega)]
          ·unfold LN.quoH
           rw [if_neg (by omega)]
           exact h.symm
         clear r1 r2 r3 r4 p3 p4 q5 HXx HYy HDd HGg
         obtain ⟨q1,hq1⟩:∃ q,(-X2) * G / ((-Y2) * D)=q:=⟨_,rfl⟩
         obtain ⟨q2,hq2⟩:∃ q,(-X1) * G / ((-Y2) * D)=q:=⟨_,rfl⟩
         rw [hq1] at D1 Hq
         rw [hq2] at D2 Hq
         clear hq1 hq2
         go_enter Tryz.func116,Tryz.ntmps116
         go_wp2_with fail
         generalize (w.alloc (.cells (tcells x1 e1 x2 e2 n d) 103)).alloc (.cells (tcells y1 g1 y2 g2 m g) 103)=W0 at *
         refine Calls.mono (Hnx.out _ B0.out) ?_
         rintro e W1 ⟨rfl,hb⟩
         have B1:=Lib.hid (B0.out.trans (hb.mono B0.out.size))
         have R3:=Lib.hid (heap_kept R1.out hb nr_)
         have R4:=Lib.hid (heap_kept R2.out hb nr_)
         clear hb B0 R1 R2 Hnx
         obtain ⟨k0,k1,k2,-⟩:=obj_cells3 R3.out
         obtain ⟨m0,m1,m2,-⟩:=obj_cells3 R4.out
         go_wp2_with fail
         refine Calls.mono (Hny.out _ B1.out) ?_
         rintro e W2 ⟨rfl,hb⟩
         have B2:=Lib.hid (B1.out.trans (hb.mono B1.out.size))
         have R5:=Lib.hid (heap_kept R3.out hb nr_)
         have R6:=Lib.hid (heap_kept R4.out hb nr_)
         clear hb B1 R3 R4 Hny k0 k1 k2 m0 m1 m2
         obtain ⟨k0,k1,k2,-⟩:=obj_cells3 R5.out
         go_wp2_with fail
         refine Calls.mono (Hsd.out _ B2.out) ?_
         rintro e W3 ⟨rfl,hb⟩
         have B3:=Lib.hid (B2.out.trans (hb.mono B2.out.size))
         have R8:=Lib.hid (heap_kept R6.out hb nr_)
         clear hb B2 R5 R6 Hsd k0 k1 k2
         obtain ⟨m0,m1,m2,-⟩:=obj_cells3 R8.out
         go_wp2_with fail
         refine Calls.mono (Hsg.out _ B3.out) ?_
         rintro e W4 ⟨rfl,hb⟩
         have B4:=Lib.hid (B3.out.trans (hb.mono B3.out.size))
         clear hb B3 R8 Hsg m0 m1 m2
         go_wp2_with fail
         refine Calls.mono (D1.out _) ?_
         rintro e W5 ⟨rfl,hb⟩
         have B5:=Lib.hid (B4.out.trans (hb.mono B4.out.size))
         clear hb B4
         go_wp2_with fail
         refine Calls.mono (D2.out _) ?_
         rintro e W6 ⟨rfl,hb⟩
         have B6:=Lib.hid (B5.out.trans (hb.mono B5.out.size))
         clear hb B5
         go_wp2_with fail
         go_ret2
         exact ⟨q1,q1 == q2,rfl,fun h=>Hq.out (by simpa using h),B6.out⟩
       ·by_cases hx2:(-X1) < 0
        ·skip
         have r1:((-X2) * G).natAbs≤300000000000000 * 10000:=by rw [Int.natAbs_mul]; exact Nat.mul_le_mul (by omega) (by omega)
         have r2:((-X1) * G).natAbs≤300000000000000 * 10000:=by rw [Int.natAbs_mul]; exact Nat.mul_le_mul (by omega) (by omega)
         have r3:((-Y1) * D).natAbs≤300000000000000 * 10000:=by rw [Int.natAbs_mul]; exact Nat.mul_le_mul (by omega) (by omega)
         have r4:((-Y1) * D).natAbs≤300000000000000 * 10000:=by rw [Int.natAbs_mul]; exact Nat.mul_le_mul (by omega) (by omega)
         have p3:0 < (-Y1) * D:=Int.mul_pos (by omega) hD3
         have p4:0 < (-Y1) * D:=Int.mul_pos (by omega) hD3
         have w1:IntKind.i64.wrap ((-X2) * G)=(-X2) * G:=IntWalk.i64_in _ (by omega)
         have w2:IntKind.i64.wrap ((-X1) * G)=(-X1) * G:=IntWalk.i64_in _ (by omega)
         have w3:IntKind.i64.wrap ((-Y1) * D)=(-Y1) * D:=IntWalk.i64_in _ (by omega)
         have w4:IntKind.i64.wrap ((-Y1) * D)=(-Y1) * D:=IntWalk.i64_in _ (by omega)
         have D1:Hid (∀ W,Gives Tryz.prog 140 #[.int .i64 ((-X2) * G),.int .i64 ((-Y1) * D)] W (.int .i64 ((-X2) * G / ((-Y1) * D)))):=fun W=>downward_any W _ _ (by omega) p3 (by omega)
         have D2:Hid (∀ W,Gives Tryz.prog 140 #[.int .i64 ((-X1) * G),.int .i64 ((-Y1) * D)] W (.int .i64 ((-X1) * G / ((-Y1) * D)))):=fun W=>downward_any W _ _ (by omega) p4 (by omega)
         have q5:(((-X2) * G / ((-Y1) * D)).natAbs:Int)≤4000000000000000000:=by
          have:=Int.natAbs_ediv_le_natAbs ((-X2) * G) ((-Y1) * D)
          omega
         have Hq:Hid ((-X2) * G / ((-Y1) * D)=(-X1) * G / ((-Y1) * D)→QuoT tx ty d g ((-X2) * G / ((-Y1) * D))):=fun h=>by
          obtain ⟨o1,o2,o3⟩:=HXx.out
          obtain ⟨u1,u2,u3⟩:=HYy.out
          refine ⟨o1,u1,?_,by omega,by omega⟩
          rw [← o2,← o3,← u2,← u3,← HDd.out,← HGg.out]
          refine .inr ⟨by omega,?_,?_⟩
          ·unfold LN.quoL
           rw [if_neg (by omega)]
          ·unfold LN.quoH
           rw [if_pos (by omega)]
           exact h.symm
         clear r1 r2 r3 r4 p3 p4 q5 HXx HYy HDd HGg
         obtain ⟨q1,hq1⟩:∃ q,(-X2) * G / ((-Y1) * D)=q:=⟨_,rfl⟩
         obtain ⟨q2,hq2⟩:∃ q,(-X1) * G / ((-Y1) * D)=q:=⟨_,rfl⟩
         rw [hq1] at D1 Hq
         rw [hq2] at D2 Hq
         clear hq1 hq2
         go_enter Tryz.func116,Tryz.ntmps116
         go_wp2_with fail
         generalize (w.alloc (.cells (tcells x1 e1 x2 e2 n d) 103)).alloc (.cells (tcells y1 g1 y2 g2 m g) 103)=W0 at *
         refine Calls.mono (Hnx.out _ B0.out) ?_
         rintro e W1 ⟨rfl,hb⟩
         have B1:=Lib.hid (B0.out.trans (hb.mono B0.out.size))
         have R3:=Lib.hid (heap_kept R1.out hb nr_)
         have R4:=Lib.hid (heap_kept R2.out hb nr_)
         clear hb B0 R1 R2 Hnx
         obtain ⟨k0,k1,k2,-⟩:=obj_cells3 R3.out
         obtain ⟨m0,m1,m2,-⟩:=obj_cells3 R4.out
         go_wp2_with fail
         refine Calls.mono (Hny.out _ B1.out) ?_
         rintro e W2 ⟨rfl,hb⟩
         have B2:=Lib.hid (B1.out.trans (hb.mono B1.out.size))
         have R5:=Lib.hid (heap_kept R3.out hb nr_)
         have R6:=Lib.hid (heap_kept R4.out hb nr_)
         clear hb B1 R3 R4 Hny k0 k1 k2 m0 m1 m2
         obtain ⟨k0,k1,k2,-⟩:=obj_cells3 R5.out
         go_wp2_with fail
         refine Calls.mono (Hsd.out _ B2.out) ?_
         rintro e W3 ⟨rfl,hb⟩
         have B3:=Lib.hid (B2.out.trans (hb.mono B2.out.size))
         have R8:=Lib.hid (heap_kept R6.out hb nr_)
         clear hb B2 R5 R6 Hsd k0 k1 k2
         obtain ⟨m0,m1,m2,-⟩:=obj_cells3 R8.out
         go_wp2_with fail
         refine Calls.mono (Hsg.out _ B3.out) ?_
         rintro e W4 ⟨rfl,hb⟩
         have B4:=Lib.hid (B3.out.trans (hb.mono B3.out.size))
         clear hb B3 R8 Hsg m0 m1 m2
         go_wp2_with fail
         refine Calls.mono (D1.out _) ?_
         rintro e W5 ⟨rfl,hb⟩
         have B5:=Lib.hid (B4.out.trans (hb.mono B4.out.size))
         clear hb B4
         go_wp2_with fail
         refine Calls.mono (D2.out _) ?_
         rintro e W6 ⟨rfl,hb⟩
         have B6:=Lib.hid (B5.out.trans (hb.mono B5.out.size))
         clear hb B5
         go_wp2_with fail
         go_ret2
         exact ⟨q1,q1 == q2,rfl,fun h=>Hq.out (by simpa using h),B6.out⟩
        ·skip
         have r1:((-X2) * G).natAbs≤300000000000000 * 10000:=by rw [Int.natAbs_mul]; exact Nat.mul_le_mul (by omega) (by omega)
         have r2:((-X1) * G).natAbs≤300000000000000 * 10000:=by rw [Int.natAbs_mul]; exact Nat.mul_le_mul (by omega) (by omega)
         have r3:((-Y1) * D).natAbs≤300000000000000 * 10000:=by rw [Int.natAbs_mul]; exact Nat.mul_le_mul (by omega) (by omega)
         have r4:((-Y2) * D).natAbs≤300000000000000 * 10000:=by rw [Int.natAbs_mul]; exact Nat.mul_le_mul (by omega) (by omega)
         have p3:0 < (-Y1) * D:=Int.mul_pos (by omega) hD3
         have p4:0 < (-Y2) * D:=Int.mul_pos (by omega) hD3
         have w1:IntKind.i64.wrap ((-X2) * G)=(-X2) * G:=IntWalk.i64_in _ (by omega)
         have w2:IntKind.i64.wrap ((-X1) * G)=(-X1) * G:=IntWalk.i64_in _ (by omega)
         have w3:IntKind.i64.wrap ((-Y1) * D)=(-Y1) * D:=IntWalk.i64_in _ (by omega)
         have w4:IntKind.i64.wrap ((-Y2) * D)=(-Y2) * D:=IntWalk.i64_in _ (by omega)
         have D1:Hid (∀ W,Gives Tryz.prog 140 #[.int .i64 ((-X2) * G),.int .i64 ((-Y1) * D)] W (.int .i64 ((-X2) * G / ((-Y1) * D)))):=fun W=>downward_any W _ _ (by omega) p3 (by omega)
         have D2:Hid (∀ W,Gives Tryz.prog 140 #[.int .i64 ((-X1) * G),.int .i64 ((-Y2) * D)] W (.int .i64 ((-X1) * G / ((-Y2) * D)))):=fun W=>downward_any W _ _ (by omega) p4 (by omega)
         have q5:(((-X2) * G / ((-Y1) * D)).natAbs:Int)≤4000000000000000000:=by
          have:=Int.natAbs_ediv_le_natAbs ((-X2) * G) ((-Y1) * D)
          omega
         have Hq:Hid ((-X2) * G / ((-Y1) * D)=(-X1) * G / ((-Y2) * D)→QuoT tx ty d g ((-X2) * G / ((-Y1) * D))):=fun h=>by
          obtain ⟨o1,o2,o3⟩:=HXx.out
          obtain ⟨u1,u2,u3⟩:=HYy.out
          refine ⟨o1,u1,?_,by omega,by omega⟩
          rw [← o2,← o3,← u2,← u3,← HDd.out,← HGg.out]
          refine .inr ⟨by omega,?_,?_⟩
          ·unfold LN.quoL
           rw [if_neg (by omega)]
          ·unfold LN.quoH
           rw [if_neg (by omega)]
           exact h.symm
         clear r1 r2 r3 r4 p3 p4 q5 HXx HYy HDd HGg
         obtain ⟨q1,hq1⟩:∃ q,(-X2) * G / ((-Y1) * D)=q:=⟨_,rfl⟩
         obtain ⟨q2,hq2⟩:∃ q,(-X1) * G / ((-Y2) * D)=q:=⟨_,rfl⟩
         rw [hq1] at D1 Hq
         rw [hq2] at D2 Hq
         clear hq1 hq2
         go_enter Tryz.func116,Tryz.ntmps116
         go_wp2_with fail
         generalize (w.alloc (.cells (tcells x1 e1 x2 e2 n d) 103)).alloc (.cells (tcells y1 g1 y2 g2 m g) 103)=W0 at *
         refine Calls.mono (Hnx.out _ B0.out) ?_
         rintro e W1 ⟨rfl,hb⟩
         have B1:=Lib.hid (B0.out.trans (hb.mono B0.out.size))
         have R3:=Lib.hid (heap_kept R1.out hb nr_)
         have R4:=Lib.hid (heap_kept R2.out hb nr_)
         clear hb B0 R1 R2 Hnx
         obtain ⟨k0,k1,k2,-⟩:=obj_cells3 R3.out
         obtain ⟨m0,m1,m2,-⟩:=obj_cells3 R4.out
         go_wp2_with fail
         refine Calls.mono (Hny.out _ B1.out) ?_
         rintro e W2 ⟨rfl,hb⟩
         have B2:=Lib.hid (B1.out.trans (hb.mono B1.out.size))
         have R5:=Lib.hid (heap_kept R3.out hb nr_)
         have R6:=Lib.hid (heap_kept R4.out hb nr_)
         clear hb B1 R3 R4 Hny k0 k1 k2 m0 m1 m2
         obtain ⟨k0,k1,k2,-⟩:=obj_cells3 R5.out
         go_wp2_with fail
         refine Calls.mono (Hsd.out _ B2.out) ?_
         rintro e W3 ⟨rfl,hb⟩
         have B3:=Lib.hid (B2.out.trans (hb.mono B2.out.size))
         have R8:=Lib.hid (heap_kept R6.out hb nr_)
         clear hb B2 R5 R6 Hsd k0 k1 k2
         obtain ⟨m0,m1,m2,-⟩:=obj_cells3 R8.out
         go_wp2_with fail
         refine Calls.mono (Hsg.out _ B3.out) ?_
         rintro e W4 ⟨rfl,hb⟩
         have B4:=Lib.hid (B3.out.trans (hb.mono B3.out.size))
         clear hb B3 R8 Hsg m0 m1 m2
         go_wp2_with fail
         refine Calls.mono (D1.out _) ?_
         rintro e W5 ⟨rfl,hb⟩
         have B5:=Lib.hid (B4.out.trans (hb.mono B4.out.size))
         clear hb B4
         go_wp2_with fail
         refine Calls.mono (D2.out _) ?_
         rintro e W6 ⟨rfl,hb⟩
         have B6:=Lib.hid (B5.out.trans (hb.mono B5.out.size))
         clear hb B5
         go_wp2_with fail
         go_ret2
         exact ⟨q1,q1 == q2,rfl,fun h=>Hq.out (by simpa using h),B6.out⟩
     ·by_cases hy2:Y1≤0
      ·clear HXx HYy HDd HGg
       go_enter Tryz.func116,Tryz.ntmps116
       go_wp2_with fail
       generalize (w.alloc (.cells (tcells x1 e1 x2 e2 n d) 103)).alloc (.cells (tcells y1 g1 y2 g2 m g) 103)=W0 at *
       refine Calls.mono (Hnx.out _ B0.out) ?_
       rintro e W1 ⟨rfl,hb⟩
       have B1:=Lib.hid (B0.out.trans (hb.mono B0.out.size))
       have R3:=Lib.hid (heap_kept R1.out hb nr_)
       have R4:=Lib.hid (heap_kept R2.out hb nr_)
       clear hb B0 R1 R2 Hnx
       obtain ⟨k0,k1,k2,-⟩:=obj_cells3 R3.out
       obtain ⟨m0,m1,m2,-⟩:=obj_cells3 R4.out
       go_wp2_with fail
       refine Calls.mono (Hny.out _ B1.out) ?_
       rintro e W2 ⟨rfl,hb⟩
       have B2:=Lib.hid (B1.out.trans (hb.mono B1.out.size))
       have R5:=Lib.hid (heap_kept R3.out hb nr_)
       have R6:=Lib.hid (heap_kept R4.out hb nr_)
       clear hb B1 R3 R4 Hny k0 k1 k2 m0 m1 m2
       obtain ⟨k0,k1,k2,-⟩:=obj_cells3 R5.out
       go_wp2_with fail
       refine Calls.mono (Hsd.out _ B2.out) ?_
       rintro e W3 ⟨rfl,hb⟩
       have B3:=Lib.hid (B2.out.trans (hb.mono B2.out.size))
       have R8:=Lib.hid (heap_kept R6.out hb nr_)
       clear hb B2 R5 R6 Hsd k0 k1 k2
       obtain ⟨m0,m1,m2,-⟩:=obj_cells3 R8.out
       go_wp2_with fail
       refine Calls.mono (Hsg.out _ B3.out) ?_
       rintro e W4 ⟨rfl,hb⟩
       have B4:=Lib.hid (B3.out.trans (hb.mono B3.out.size))
       clear hb B3 R8 Hsg m0 m1 m2
       go_wp2_with fail
       go_ret2
       exact ⟨0,false,rfl,fun h=>(by cases h),B4.out⟩
      ·skip
       by_cases hx1:X1 < 0
       ·by_cases hx2:X2 < 0
        ·skip
         have r1:(X1 * G).natAbs≤300000000000000 * 10000:=by rw [Int.natAbs_mul]; exact Nat.mul_le_mul (by omega) (by omega)
         have r2:(X2 * G).natAbs≤300000000000000 * 10000:=by rw [Int.natAbs_mul]; exact Nat.mul_le_mul (by omega) (by omega)
         have r3:(Y1 * D).natAbs≤300000000000000 * 10000:=by rw [Int.natAbs_mul]; exact Nat.mul_le_mul (by omega) (by omega)
         have r4:(Y2 * D).natAbs≤300000000000000 * 10000:=by rw [Int.natAbs_mul]; exact Nat.mul_le_mul (by omega) (by omega)
         have p3:0 < Y1 * D:=Int.mul_pos (by omega) hD3
         have p4:0 < Y2 * D:=Int.mul_pos (by omega) hD3
         have w1:IntKind.i64.wrap (X1 * G)=X1 * G:=IntWalk.i64_in _ (by omega)
         have w2:IntKind.i64.wrap (X2 * G)=X2 * G:=IntWalk.i64_in _ (by omega)
         have w3:IntKind.i64.wrap (Y1 * D)=Y1 * D:=IntWalk.i64_in _ (by omega)
         have w4:IntKind.i64.wrap (Y2 * D)=Y2 * D:=IntWalk.i64_in _ (by omega)
         have D1:Hid (∀ W,Gives Tryz.prog 140 #[.int .i64 (X1 * G),.int .i64 (Y1 * D)] W (.int .i64 (X1 * G / (Y1 * D)))):=fun W=>downward_any W _ _ (by omega) p3 (by omega)
         have D2:Hid (∀ W,Gives Tryz.prog 140 #[.int .i64 (X2 * G),.int .i64 (Y2 * D)] W (.int .i64 (X2 * G / (Y2 * D)))):=fun W=>downward_any W _ _ (by omega) p4 (by omega)
         have q5:((X1 * G / (Y1 * D)).natAbs:Int)≤4000000000000000000:=by
          have:=Int.natAbs_ediv_le_natAbs (X1 * G) (Y1 * D)
          omega
         have Hq:Hid (X1 * G / (Y1 * D)=X2 * G / (Y2 * D)→QuoT tx ty d g (X1 * G / (Y1 * D))):=fun h=>by
          obtain ⟨o1,o2,o3⟩:=HXx.out
          obtain ⟨u1,u2,u3⟩:=HYy.out
          refine ⟨o1,u1,?_,by omega,by omega⟩
          rw [← o2,← o3,← u2,← u3,← HDd.out,← HGg.out]
          refine .inl ⟨by omega,?_,?_⟩
          ·unfold LN.quoL
           rw [if_pos (by omega)]
          ·unfold LN.quoH
           rw [if_pos (by omega)]
           exact h.symm
         clear r1 r2 r3 r4 p3 p4 q5 HXx HYy HDd HGg
         obtain ⟨q1,hq1⟩:∃ q,X1 * G / (Y1 * D)=q:=⟨_,rfl⟩
         obtain ⟨q2,hq2⟩:∃ q,X2 * G / (Y2 * D)=q:=⟨_,rfl⟩
         rw [hq1] at D1 Hq
         rw [hq2] at D2 Hq
         clear hq1 hq2
         go_enter Tryz.func116,Tryz.ntmps116
         go_wp2_with fail
         generalize (w.alloc (.cells (tcells x1 e1 x2 e2 n d) 103)).alloc (.cells (tcells y1 g1 y2 g2 m g) 103)=W0 at *
         refine Calls.mono (Hnx.out _ B0.out) ?_
         rintro e W1 ⟨rfl,hb⟩
         have B1:=Lib.hid (B0.out.trans (hb.mono B0.out.size))
         have R3:=Lib.hid (heap_kept R1.out hb nr_)
         have R4:=Lib.hid (heap_kept R2.out hb nr_)
         clear hb B0 R1 R2 Hnx
         obtain ⟨k0,k1,k2,-⟩:=obj_cells3 R3.out
         obtain ⟨m0,m1,m2,-⟩:=obj_cells3 R4.out
         go_wp2_with fail
         refine Calls.mono (Hny.out _ B1.out) ?_
         rintro e W2 ⟨rfl,hb⟩
         have B2:=Lib.hid (B1.out.trans (hb.mono B1.out.size))
         have R5:=Lib.hid (heap_kept R3.out hb nr_)
         have R6:=Lib.hid (heap_kept R4.out hb nr_)
         clear hb B1 R3 R4 Hny k0 k1 k2 m0 m1 m2
         obtain ⟨k0,k1,k2,-⟩:=obj_cells3 R5.out
         go_wp2_with fail
         refine Calls.mono (Hsd.out _ B2.out) ?_
         rintro e W3 ⟨rfl,hb⟩
         have B3:=Lib.hid (B2.out.trans (hb.mono B2.out.size))
         have R8:=Lib.hid (heap_kept R6.out hb nr_)
         clear hb B2 R5 R6 Hsd k0 k1 k2
         obtain ⟨m0,m1,m2,-⟩:=obj_cells3 R8.out
         go_wp2_with fail
         refine Calls.mono (Hsg.out _ B3.out) ?_
         rintro e W4 ⟨rfl,hb⟩
         have B4:=Lib.hid (B3.out.trans (hb.mono B3.out.size))
         clear hb B3 R8 Hsg m0 m1 m2
         go_wp2_with fail
         refine Calls.mono (D1.out _) ?_
         rintro e W5 ⟨rfl,hb⟩
         have B5:=Lib.hid (B4.out.trans (hb.mono B4.out.size))
         clear hb B4
         go_wp2_with fail
         refine Calls.mono (D2.out _) ?_
         rintro e W6 ⟨rfl,hb⟩
         have B6:=Lib.hid (B5.out.trans (hb.mono B5.out.size))
         clear hb B5
         go_wp2_with fail
         go_ret2
         exact ⟨q1,q1 == q2,rfl,fun h=>Hq.out (by simpa using h),B6.out⟩
        ·skip
         have r1:(X1 * G).natAbs≤300000000000000 * 10000:=by rw [Int.natAbs_mul]; exact Nat.mul_le_mul (by omega) (by omega)
         have r2:(X2 * G).natAbs≤300000000000000 * 10000:=by rw [Int.natAbs_mul]; exact Nat.mul_le_mul (by omega) (by omega)
         have r3:(Y1 * D).natAbs≤300000000000000 * 10000:=by rw [Int.natAbs_mul]; exact Nat.mul_le_mul (by omega) (by omega)
         have r4:(Y1 * D).natAbs≤300000000000000 * 10000:=by rw [Int.natAbs_mul]; exact Nat.mul_le_mul (by omega) (by omega)
         have p3:0 < Y1 * D:=Int.mul_pos (by omega) hD3
         have p4:0 < Y1 * D:=Int.mul_pos (by omega) hD3
         have w1:IntKind.i64.wrap (X1 * G)=X1 * G:=IntWalk.i64_in _ (by omega)
         have w2:IntKind.i64.wrap (X2 * G)=X2 * G:=IntWalk.i64_in _ (by omega)
         have w3:IntKind.i64.wrap (Y1 * D)=Y1 * D:=IntWalk.i64_in _ (by omega)
         have w4:IntKind.i64.wrap (Y1 * D)=Y1 * D:=IntWalk.i64_in _ (by omega)
         have D1:Hid (∀ W,Gives Tryz.prog 140 #[.int .i64 (X1 * G),.int .i64 (Y1 * D)] W (.int .i64 (X1 * G / (Y1 * D)))):=fun W=>downward_any W _ _ (by omega) p3 (by omega)
         have D2:Hid (∀ W,Gives Tryz.prog 140 #[.int .i64 (X2 * G),.int .i64 (Y1 * D)] W (.int .i64 (X2 * G / (Y1 * D)))):=fun W=>downward_any W _ _ (by omega) p4 (by omega)
         have q5:((X1 * G / (Y1 * D)).natAbs:Int)≤4000000000000000000:=by
          have:=Int.natAbs_ediv_le_natAbs (X1 * G) (Y1 * D)
          omega
         have Hq:Hid (X1 * G / (Y1 * D)=X2 * G / (Y1 * D)→QuoT tx ty d g (X1 * G / (Y1 * D))):=fun h=>by
          obtain ⟨o1,o2,o3⟩:=HXx.out
          obtain ⟨u1,u2,u3⟩:=HYy.out
          refine ⟨o1,u1,?_,by omega,by omega⟩
          rw [← o2,← o3,← u2,← u3,← HDd.out,← HGg.out]
          refine .inl ⟨by omega,?_,?_⟩
          ·unfold LN.quoL
           rw [if_pos (by omega)]
          ·unfold LN.quoH
           rw [if_neg (by omega)]
           exact h.symm
         clear r1 r2 r3 r4 p3 p4 q5 HXx HYy HDd HGg
         obtain ⟨q1,hq1⟩:∃ q,X1 * G / (Y1 * D)=q:=⟨_,rfl⟩
         obtain ⟨q2,hq2⟩:∃ q,X2 * G / (Y1 * D)=q:=⟨_,rfl⟩
         rw [hq1] at D1 Hq
         rw [hq2] at D2 Hq
         clear hq1 hq2
         go_enter Tryz.func116,Tryz.ntmps116
         go_wp2_with fail
         generalize (w.alloc (.cells (tcells x1 e1 x2 e2 n d) 103)).alloc (.cells (tcells y1 g1 y2 g2 m g) 103)=W0 at *
         refine Calls.mono (Hnx.out _ B0.out) ?_
         rintro e W1 ⟨rfl,hb⟩
         have B1:=Lib.hid (B0.out.trans (hb.mono B0.out.size))
         have R3:=Lib.hid (heap_kept R1.out hb nr_)
         have R4:=Lib.hid (heap_kept R2.out hb nr_)
         clear hb B0 R1 R2 Hnx
         obtain ⟨k0,k1,k2,-⟩:=obj_cells3 R3.out
         obtain ⟨m0,m1,m2,-⟩:=obj_cells3 R4.out
         go_wp2_with fail
         refine Calls.mono (Hny.out _ B1.out) ?_
         rintro e W2 ⟨rfl,hb⟩
         have B2:=Lib.hid (B1.out.trans (hb.mono B1.out.size))
         have R5:=Lib.hid (heap_kept R3.out hb nr_)
         have R6:=Lib.hid (heap_kept R4.out hb nr_)
         clear hb B1 R3 R4 Hny k0 k1 k2 m0 m1 m2
         obtain ⟨k0,k1,k2,-⟩:=obj_cells3 R5.out
         go_wp2_with fail
         refine Calls.mono (Hsd.out _ B2.out) ?_
         rintro e W3 ⟨rfl,hb⟩
         have B3:=Lib.hid (B2.out.trans (hb.mono B2.out.size))
         have R8:=Lib.hid (heap_kept R6.out hb nr_)
         clear hb B2 R5 R6 Hsd k0 k1 k2
         obtain ⟨m0,m1,m2,-⟩:=obj_cells3 R8.out
         go_wp2_with fail
         refine Calls.mono (Hsg.out _ B3.out) ?_
         rintro e W4 ⟨rfl,hb⟩
         have B4:=Lib.hid (B3.out.trans (hb.mono B3.out.size))
         clear hb B3 R8 Hsg m0 m1 m2
         go_wp2_with fail
         refine Calls.mono (D1.out _) ?_
         rintro e W5 ⟨rfl,hb⟩
         have B5:=Lib.hid (B4.out.trans (hb.mono B4.out.size))
         clear hb B4
         go_wp2_with fail
         refine Calls.mono (D2.out _) ?_
         rintro e W6 ⟨rfl,hb⟩
         have B6:=Lib.hid (B5.out.trans (hb.mono B5.out.size))
         clear hb B5
         go_wp2_with fail
         go_ret2
         exact ⟨q1,q1 == q2,rfl,fun h=>Hq.out (by simpa using h),B6.out⟩
       ·by_cases hx2:X2 < 0
        ·skip
         have r1:(X1 * G).natAbs≤300000000000000 * 10000:=by rw [Int.natAbs_mul]; exact Nat.mul_le_mul (by omega) (by omega)
         have r2:(X2 * G).natAbs≤300000000000000 * 10000:=by rw [Int.natAbs_mul]; exact Nat.mul_le_mul (by omega) (by omega)
         have r3:(Y2 * D).natAbs≤300000000000000 * 10000:=by rw [Int.natAbs_mul]; exact Nat.mul_le_mul (by omega) (by omega)
         have r4:(Y2 * D).natAbs≤300000000000000 * 10000:=by rw [Int.natAbs_mul]; exact Nat.mul_le_mul (by omega) (by omega)
         have p3:0 < Y2 * D:=Int.mul_pos (by omega) hD3
         have p4:0 < Y2 * D:=Int.mul_pos (by omega) hD3
         have w1:IntKind.i64.wrap (X1 * G)=X1 * G:=IntWalk.i64_in _ (by omega)
         have w2:IntKind.i64.wrap (X2 * G)=X2 * G:=IntWalk.i64_in _ (by omega)
         have w3:IntKind.i64.wrap (Y2 * D)=Y2 * D:=IntWalk.i64_in _ (by omega)
         have w4:IntKind.i64.wrap (Y2 * D)=Y2 * D:=IntWalk.i64_in _ (by omega)
         have D1:Hid (∀ W,Gives Tryz.prog 140 #[.int .i64 (X1 * G),.int .i64 (Y2 * D)] W (.int .i64 (X1 * G / (Y2 * D)))):=fun W=>downward_any W _ _ (by omega) p3 (by omega)
         have D2:Hid (∀ W,Gives Tryz.prog 140 #[.int .i64 (X2 * G),.int .i64 (Y2 * D)] W (.int .i64 (X2 * G / (Y2 * D)))):=fun W=>downward_any W _ _ (by omega) p4 (by omega)
         have q5:((X1 * G / (Y2 * D)).natAbs:Int)≤4000000000000000000:=by
          have:=Int.natAbs_ediv_le_natAbs (X1 * G) (Y2 * D)
          omega
         have Hq:Hid (X1 * G / (Y2 * D)=X2 * G / (Y2 * D)→QuoT tx ty d g (X1 * G / (Y2 * D))):=fun h=>by
          obtain ⟨o1,o2,o3⟩:=HXx.out
          obtain ⟨u1,u2,u3⟩:=HYy.out
          refine ⟨o1,u1,?_,by omega,by omega⟩
          rw [← o2,← o3,← u2,← u3,← HDd.out,← HGg.out]
          refine .inl ⟨by omega,?_,?_⟩
          ·unfold LN.quoL
           rw [if_neg (by omega)]
          ·unfold LN.quoH
           rw [if_pos (by omega)]
           exact h.symm
         clear r1 r2 r3 r4 p3 p4 q5 HXx HYy HDd HGg
         obtain ⟨q1,hq1⟩:∃ q,X1 * G / (Y2 * D)=q:=⟨_,rfl⟩
         obtain ⟨q2,hq2⟩:∃ q,X2 * G / (Y2 * D)=q:=⟨_,rfl⟩
         rw [hq1] at D1 Hq
         rw [hq2] at D2 Hq
         clear hq1 hq2
         go_enter Tryz.func116,Tryz.ntmps116
         go_wp2_with fail
         generalize (w.alloc (.cells (tcells x1 e1 x2 e2 n d) 103)).alloc (.cells (tcells y1 g1 y2 g2 m g) 103)=W0 at *
         refine Calls.mono (Hnx.out _ B0.out) ?_
         rintro e W1 ⟨rfl,hb⟩
         have B1:=Lib.hid (B0.out.trans (hb.mono B0.out.size))
         have R3:=Lib.hid (heap_kept R1.out hb nr_)
         have R4:=Lib.hid (heap_kept R2.out hb nr_)
         clear hb B0 R1 R2 Hnx
         obtain ⟨k0,k1,k2,-⟩:=obj_cells3 R3.out
         obtain ⟨m0,m1,m2,-⟩:=obj_cells3 R4.out
         go_wp2_with fail
         refine Calls.mono (Hny.out _ B1.out) ?_
         rintro e W2 ⟨rfl,hb⟩
         have B2:=Lib.hid (B1.out.trans (hb.mono B1.out.size))
         have R5:=Lib.hid (heap_kept R3.out hb nr_)
         have R6:=Lib.hid (heap_kept R4.out hb nr_)
         clear hb B1 R3 R4 Hny k0 k1 k2 m0 m1 m2
         obtain ⟨k0,k1,k2,-⟩:=obj_cells3 R5.out
         go_wp2_with fail
         refine Calls.mono (Hsd.out _ B2.out) ?_
         rintro e W3 ⟨rfl,hb⟩
         have B3:=Lib.hid (B2.out.trans (hb.mono B2.out.size))
         have R8:=Lib.hid (heap_kept R6.out hb nr_)
         clear hb B2 R5 R6 Hsd k0 k1 k2
         obtain ⟨m0,m1,m2,-⟩:=obj_cells3 R8.out
         go_wp2_with fail
         refine Calls.mono (Hsg.out _ B3.out) ?_
         rintro e W4 ⟨rfl,hb⟩
         have B4:=Lib.hid (B3.out.trans (hb.mono B3.out.size))
         clear hb B3 R8 Hsg m0 m1 m2
         go_wp2_with fail
         refine Calls.mono (D1.out _) ?_
         rintro e W5 ⟨rfl,hb⟩
         have B5:=Lib.hid (B4.out.trans (hb.mono B4.out.size))
         clear hb B4
         go_wp2_with fail
         refine Calls.mono (D2.out _) ?_
         rintro e W6 ⟨rfl,hb⟩
         have B6:=Lib.hid (B5.out.trans (hb.mono B5.out.size))
         clear hb B5
         go_wp2_with fail
         go_ret2
         exact ⟨q1,q1 == q2,rfl,fun h=>Hq.out (by simpa using h),B6.out⟩
        ·skip
         have r1:(X1 * G).natAbs≤300000000000000 * 10000:=by rw [Int.natAbs_mul]; exact Nat.mul_le_mul (by omega) (by omega)
         have r2:(X2 * G).natAbs≤300000000000000 * 10000:=by rw [Int.natAbs_mul]; exact Nat.mul_le_mul (by omega) (by omega)
         have r3:(Y2 * D).natAbs≤300000000000000 * 10000:=by rw [Int.natAbs_mul]; exact Nat.mul_le_mul (by omega) (by omega)
         have r4:(Y1 * D).natAbs≤300000000000000 * 10000:=by rw [Int.natAbs_mul]; exact Nat.mul_le_mul (by omega) (by omega)
         have p3:0 < Y2 * D:=Int.mul_pos (by omega) hD3
         have p4:0 < Y1 * D:=Int.mul_pos (by omega) hD3
         have w1:IntKind.i64.wrap (X1 * G)=X1 * G:=IntWalk.i64_in _ (by omega)
         have w2:IntKind.i64.wrap (X2 * G)=X2 * G:=IntWalk.i64_in _ (by omega)
         have w3:IntKind.i64.wrap (Y2 * D)=Y2 * D:=IntWalk.i64_in _ (by omega)
         have w4:IntKind.i64.wrap (Y1 * D)=Y1 * D:=IntWalk.i64_in _ (by omega)
         have D1:Hid (∀ W,Gives Tryz.prog 140 #[.int .i64 (X1 * G),.int .i64 (Y2 * D)] W (.int .i64 (X1 * G / (Y2 * D)))):=fun W=>downward_any W _ _ (by omega) p3 (by omega)
         have D2:Hid (∀ W,Gives Tryz.prog 140 #[.int .i64 (X2 * G),.int .i64 (Y1 * D)] W (.int .i64 (X2 * G / (Y1 * D)))):=fun W=>downward_any W _ _ (by omega) p4 (by omega)
         have q5:((X1 * G / (Y2 * D)).natAbs:Int)≤4000000000000000000:=by
          have:=Int.natAbs_ediv_le_natAbs (X1 * G) (Y2 * D)
          omega
         have Hq:Hid (X1 * G / (Y2 * D)=X2 * G / (Y1 * D)→QuoT tx ty d g (X1 * G / (Y2 * D))):=fun h=>by
          obtain ⟨o1,o2,o3⟩:=HXx.out
          obtain ⟨u1,u2,u3⟩:=HYy.out
          refine ⟨o1,u1,?_,by omega,by omega⟩
          rw [← o2,← o3,← u2,← u3,← HDd.out,← HGg.out]
          refine .inl ⟨by omega,?_,?_⟩
          ·unfold LN.quoL
           rw [if_neg (by omega)]
          ·unfold LN.quoH
           rw [if_neg (by omega)]
           exact h.symm
         clear r1 r2 r3 r4 p3 p4 q5 HXx HYy HDd HGg
         obtain ⟨q1,hq1⟩:∃ q,X1 * G / (Y2 * D)=q:=⟨_,rfl⟩
         obtain ⟨q2,hq2⟩:∃ q,X2 * G / (Y1 * D)=q:=⟨_,rfl⟩
         rw [hq1] at D1 Hq
         rw [hq2] at D2 Hq
         clear hq1 hq2
         go_enter Tryz.func116,Tryz.ntmps116
         go_wp2_with fail
         generalize (w.alloc (.cells (tcells x1 e1 x2 e2 n d) 103)).alloc (.cells (tcells y1 g1 y2 g2 m g) 103)=W0 at *
         refine Calls.mono (Hnx.out _ B0.out) ?_
         rintro e W1 ⟨rfl,hb⟩
         have B1:=Lib.hid (B0.out.trans (hb.mono B0.out.size))
         have R3:=Lib.hid (heap_kept R1.out hb nr_)
         have R4:=Lib.hid (heap_kept R2.out hb nr_)
         clear hb B0 R1 R2 Hnx
         obtain ⟨k0,k1,k2,-⟩:=obj_cells3 R3.out
         obtain ⟨m0,m1,m2,-⟩:=obj_cells3 R4.out
         go_wp2_with fail
         refine Calls.mono (Hny.out _ B1.out) ?_
         rintro e W2 ⟨rfl,hb⟩
         have B2:=Lib.hid (B1.out.trans (hb.mono B1.out.size))
         have R5:=Lib.hid (heap_kept R3.out hb nr_)
         have R6:=Lib.hid (heap_kept R4.out hb nr_)
         clear hb B1 R3 R4 Hny k0 k1 k2 m0 m1 m2
         obtain ⟨k0,k1,k2,-⟩:=obj_cells3 R5.out
         go_wp2_with fail
         refine Calls.mono (Hsd.out _ B2.out) ?_
         rintro e W3 ⟨rfl,hb⟩
         have B3:=Lib.hid (B2.out.trans (hb.mono B2.out.size))
         have R8:=Lib.hid (heap_kept R6.out hb nr_)
         clear hb B2 R5 R6 Hsd k0 k1 k2
         obtain ⟨m0,m1,m2,-⟩:=obj_cells3 R8.out
         go_wp2_with fail
         refine Calls.mono (Hsg.out _ B3.out) ?_
         rintro e W4 ⟨rfl,hb⟩
         have B4:=Lib.hid (B3.out.trans (hb.mono B3.out.size))
         clear hb B3 R8 Hsg m0 m1 m2
         go_wp2_with fail
         refine Calls.mono (D1.out _) ?_
         rintro e W5 ⟨rfl,hb⟩
         have B5:=Lib.hid (B4.out.trans (hb.mono B4.out.size))
         clear hb B4
         go_wp2_with fail
         refine Calls.mono (D2.out _) ?_
         rintro e W6 ⟨rfl,hb⟩
         have B6:=Lib.hid (B5.out.trans (hb.mono B5.out.size))
         clear hb B5
         go_wp2_with fail
         go_ret2
         exact ⟨q1,q1 == q2,rfl,fun h=>Hq.out (by simpa using h),B6.out⟩
end Go.Proofs.YtlomhfknmhaboaaGreatDoor

namespace Go.Proofs.YtlomhfknmhaboaaGreatDoor
open Go.RowKit
def flE (xl xh yl yh g d:Int):Option Int:=if yl≤0 then none else if LN.quoL xl yl yh g d=LN.quoH xh yl yh g d then some (LN.quoL xl yl yh g d) else none
def flS (xl xh yl yh g d:Int):Option Int:=if yh≤0 then flE (-xh) (-xl) (-yh) (-yl) g d else flE xl xh yl yh g d
def flAt (n:Nat) (tx ty:List (Int×Int)) (d g:Nat):Option Int:=flS (LN.eLo (lf n) tx) (LN.eHi (lf n) tx) (LN.eLo (lf n) ty) (LN.eHi (lf n) ty) g d
theorem eLo_le (f:Int→Nat):∀ l:List (Int×Int),LN.eLo f l≤LN.eHi f l
 | []=>Int.le_refl _
 | x :: l=>by
  have ih:=eLo_le f l
  have e1:LN.eLo f (x :: l)=(if x.2 < 0 then x.2 * (LN.hiL f x.1:Int) else x.2 * (f x.1:Int)) + LN.eLo f l:=by simp [LN.eLo]
  have e2:LN.eHi f (x :: l)=(if x.2 < 0 then x.2 * (f x.1:Int) else x.2 * (LN.hiL f x.1:Int)) + LN.eHi f l:=by simp [LN.eHi]
  have hle:f x.1≤LN.hiL f x.1:=by unfold LN.hiL; split <;> omega
  rw [e1,e2]
  by_cases hk:x.2 < 0
  ·have h1:x.2 * (LN.hiL f x.1:Int)≤x.2 * (f x.1:Int):=Int.mul_le_mul_of_nonpos_left (by omega) (by omega)
   rw [if_pos hk,if_pos hk]; omega
  ·have h1:x.2 * (f x.1:Int)≤x.2 * (LN.hiL f x.1:Int):=Int.mul_le_mul_of_nonneg_left (by omega) (by omega)
   rw [if_neg hk,if_neg hk]; omega
theorem flE_some {xl xh yl yh g d q:Int} (h:flE xl xh yl yh g d=some q):0 < yl∧LN.quoL xl yl yh g d=q∧LN.quoH xh yl yh g d=q:=by
 unfold flE at h
 split at h
 ·cases h
 ·rename_i h1
  split at h
  ·rename_i h2
   have h3:LN.quoL xl yl yh g d=q:=by simpa using h
   exact ⟨by omega,h3,by rw [← h2]; exact h3⟩
  ·cases h
theorem smallP_log {ps:List Int} (h:∀ p∈ps,p∈smallP) {n:Nat} (hn:n≤1056):∀ p∈ps,LN.LogAt n p (lf n p):=fun p hp=>by
 obtain ⟨q,rfl,hq⟩:=smallP_pr (h p hp)
 exact lgN_at hq hn
theorem smallP_pos' {ps:List Int} (h:∀ p∈ps,p∈smallP):∀ p∈ps,0 < p:=fun p hp=>by
 have key:∀ q∈smallP,0 < q:=by decide
 exact key p (h p hp)
theorem flAt_floor {ps:List Int} {la lb:List Rat} (h:∀ p∈ps,p∈smallP) (hl:la.length=lb.length) {n:Nat} (hn:n≤1056) {q:Int} (hq:flAt n (tlQ ps la) (tlQ ps lb) (tden la) (tden lb)=some q):LN.FloorOf ps la lb q:=by
 unfold flAt flS at hq
 have hy:=eLo_le (lf n) (tlQ ps lb)
 split at hq
 ·obtain ⟨h1,h2,h3⟩:=flE_some hq
  exact LN.floor_neg (smallP_pos' h) hl (smallP_log h hn) rfl rfl rfl rfl (by show LN.eHi (lf n) (tlQ ps lb) < 0; omega) hy h2 h3
 ·obtain ⟨h1,h2,h3⟩:=flE_some hq
  exact LN.floor_pos (smallP_pos' h) hl (smallP_log h hn) rfl rfl rfl rfl h1 hy h2 h3
theorem quoT_floor {ps:List Int} {la lb:List Rat} (h:∀ p∈ps,p∈smallP) (hl:la.length=lb.length) {q:Int} (hq:QuoT (tlQ ps la) (tlQ ps lb) (tden la) (tden lb) q):LN.FloorOf ps la lb q:=by
 have pa:PrT (tlQ ps la):=fun x hx=>smallP_pr (h _ (tlist_mem hx).1)
 have pb:PrT (tlQ ps lb):=fun x hx=>smallP_pr (h _ (tlist_mem hx).1)
 obtain ⟨a1,a2⟩:=lowT_eq _ pa hq.okx
 obtain ⟨b1,b2⟩:=lowT_eq _ pb hq.oky
 have hr:=hq.r
 rw [a1,a2,b1,b2] at hr
 have hy:=eLo_le (lf 26) (tlQ ps lb)
 rcases hr with ⟨h1,h2,h3⟩ | ⟨h1,h2,h3⟩
 ·exact LN.floor_pos (smallP_pos' h) hl (smallP_log h (by decide)) rfl rfl rfl rfl h1 hy h2 h3
 ·exact LN.floor_neg (smallP_pos' h) hl (smallP_log h (by decide)) rfl rfl rfl rfl h1 hy h2 h3
theorem ratio_floor {ps:List Int} {la lb:List Rat} (h:∀ p∈ps,p∈smallP) (h1:la.length=ps.length) (h2:lb.length=ps.length) {k:Rat} (hr:ratioB la lb ps.length k=true) (h0:LN.sz ps lb≠0):LN.FloorOf ps la lb k.floor:=by
 refine LN.floor_mult (smallP_pos' h) (k:=k) ?_ h0
 have hr':=of_decide_eq_true hr
 refine List.ext_getElem (by simp; omega) fun i i1 i2=>?_
 have:=hr' i (by omega)
 rw [List.getElem_map]
 rw [List.getD_eq_getElem?_getD,List.getD_eq_getElem?_getD,List.getElem?_eq_getElem (by omega),List.getElem?_eq_getElem i1] at this
 exact this.symm
theorem divZ (w:World) (a b:Int) (K:Nat) (hK:K < 90000) (ha:a.natAbs < 2 ^ K) (hb:b.natAbs < 2 ^ K) (h0:0 < b) (L:Laid w):Gives Tryz.prog 107 #[.string (itx a),.string (itx b)] w (.tuple #[.string (itx (a / b)),.string (itx (a % b)),.int .i64 0]):=by
 obtain ⟨n,rfl⟩:=Int.eq_ofNat_of_zero_le (Int.le_of_lt h0)
 have hs:Num (a.natAbs + 1):=num_two (K:=K + 1) (by rw [Nat.pow_succ]; omega) (by omega)
 have:=divmodz_any w a n (num_two ha (by omega)) (num_two hb (by omega)) (by omega) hs L
 rw [itx_nat]
 exact this
theorem same_itx (a b:Int):((itx a).toList == (itx b).toList)=decide (a=b):=by
 by_cases h:a=b
 ·subst h; simp
 ·rw [decide_eq_false h,beq_eq_false_iff_ne]
  intro e
  rw [toList_lb,toList_lb] at e
  exact h (itx_inj (by
   have h1:(itx a).data.toList=(itx b).data.toList:=e
   exact ByteArray.ext (Array.toList_inj.1 h1)))
def FlrPost (ps:List Int) (la lb:List Rat) (e:Ending):Prop:=∃ q,e = .returned (.string (itx q))∧LN.FloorOf ps la lb q
structure FlrOk (ps:List Int) (la lb:List Rat) (E:Nat):Prop where
 pr:∀ p∈ps,p∈smallP
 n6:ps.length≤6
 kx:∀ x∈tlQ ps la,x.2.natAbs < 2 ^ E
 ky:∀ x∈tlQ ps lb,x.2.natAbs < 2 ^ E
 d:tden la < 2 ^ E
 g:tden lb < 2 ^ E
 e:E≤3000
 nz:LN.sz ps lb≠0
 dec:ratioB la lb ps.length (ratioK la lb ps.length)=false→flAt 1024 (tlQ ps la) (tlQ ps lb) (tden la) (tden lb)≠none
set_option maxRecDepth 100000 in
set_option maxHeartbeats 64000000 in
theorem floor_any (w:World) (ps:List Int) (a0 a1 a2:Option Addr) (c0 c1 c2 D E:Nat) (la lb:List Rat) (A:SizeOk w ps a0 a1 la D) (B:SizeOk w ps a0 a2 lb D) (hD0:0 < D) (F:FlrOk ps la lb E) (L:Laid w) :
  Calls Tryz.prog 75 #[.slice a0 ps.length c0,.slice a1 la.length c1,.slice a2 lb.length c2] w fun e w'=>FlrPost ps la lb e∧Below w.heap.size w w':=by
 cases hr:ratioB la lb ps.length (ratioK la lb ps.length) with
 | true =>
  refine Calls.mono (floor_ratio w ps a0 a1 a2 c0 c1 c2 D la lb A B hD0 L hr) ?_
  rintro e w' ⟨rfl,hb⟩
  exact ⟨⟨_,rfl,ratio_floor F.pr A.len B.len hr F.nz⟩,hb⟩
 | false =>
  have hn:=A.n
  have hdd:=A.d
  have HL:=Lib.hid L
  have HF:=Lib.hid F
  have Hdec:=Lib.hid (F.dec hr)
  have Hra:=Lib.hid (ratio_any w a1 a2 c1 c2 ps.length D la lb A.rl B.rl A.len B.len A.sm B.sm (by omega) hD0 hdd L)
  rw [hr] at Hra
  have Ht1:Hid (∀ W,Below w.heap.size w W→Calls Tryz.prog 66 #[.slice a0 ps.length c0,.slice a1 ps.length c1] W fun e w'=>∃ b1 d1 b2 d2,e = .returned (.agg (tcells b1 d1 b2 d2 (tlQ ps la).length (tden la)))∧TermsAt w' (tlQ ps la) b1 b2∧Below W.heap.size W w'):=fun W hW=>by
   have:=terms_ok (c0:=c0) (c:=c1) (A.below hW) (L.below hW)
   rw [A.len] at this
   exact this
  have Ht2:Hid (∀ W,Below w.heap.size w W→Calls Tryz.prog 66 #[.slice a0 ps.length c0,.slice a2 ps.length c2] W fun e w'=>∃ b1 d1 b2 d2,e = .returned (.agg (tcells b1 d1 b2 d2 (tlQ ps lb).length (tden lb)))∧TermsAt w' (tlQ ps lb) b1 b2∧Below W.heap.size W w'):=fun W hW=>by
   have:=terms_ok (c0:=c0) (c:=c2) (B.below hW) (L.below hW)
   rw [B.len] at this
   exact this
  have hE:=F.e
  have lx:(tlQ ps la).length≤6:=Nat.le_trans (by have:=(tlist_fst (tden la) ps la).length_le; rw [List.length_map] at this; exact this) F.n6
  have ly:(tlQ ps lb).length≤6:=Nat.le_trans (by have:=(tlist_fst (tden lb) ps lb).length_le; rw [List.length_map] at this; exact this) F.n6
  have hd0:=LN.tden_pos' la
  have hg0:=LN.tden_pos' lb
  have px:PrT (tlQ ps la):=fun x hx=>smallP_pr (F.pr _ (tlist_mem hx).1)
  have py:PrT (tlQ ps lb):=fun x hx=>smallP_pr (F.pr _ (tlist_mem hx).1)
  have hll:la.length=lb.length:=A.len.trans B.len.symm
  have Hqu:Hid (∀ W x1 x2 y1 y2 e1 e2 g1 g2,TermsAt W (tlQ ps la) x1 x2→TermsAt W (tlQ ps lb) y1 y2→Laid W→Calls Tryz.prog 116 #[.agg (tcells x1 e1 x2 e2 (tlQ ps la).length (tden la)),.agg (tcells y1 g1 y2 g2 (tlQ ps lb).length (tden lb))] W fun e w'=>∃ q b,e = .returned (.tuple #[.int .i64 q,.bool b])∧(b=true→QuoT (tlQ ps la) (tlQ ps lb) (tden la) (tden lb) q)∧Below W.heap.size W w'):=fun W x1 x2 y1 y2 e1 e2 g1 g2 X Y LW =>
   quotient_any W x1 x2 y1 y2 e1 e2 g1 g2 _ _ _ _ X Y lx ly (num_two F.d (by omega)) (num_two F.g (by omega)) hd0 hg0 LW
  have Hof:Hid (∀ W q,-9223372036854775808≤q→q≤9223372036854775807→Below w.heap.size w W→Gives Tryz.prog 97 #[.int .i64 q] W (.string (itx q))):=fun W q h1 h2 hW=>ofz_any W q h1 h2 (L.below hW)
  have HqF:Hid (∀ q,QuoT (tlQ ps la) (tlQ ps lb) (tden la) (tden lb) q→LN.FloorOf ps la lb q):=fun q h=>quoT_floor F.pr hll h
  have HfF:Hid (∀ n q,n≤1056→flAt n (tlQ ps la) (tlQ ps lb) (tden la) (tden lb)=some q→LN.FloorOf ps la lb q):=fun n q hn h=>flAt_floor F.pr hll hn h
  have Hen1:Hid (∀ (n:Nat) W x1 x2 e1 e2,n≤1056→TermsAt W (tlQ ps la) x1 x2→Laid W→Gives Tryz.prog 109 #[.agg (tcells x1 e1 x2 e2 (tlQ ps la).length (tden la)),.int .i64 n] W (.tuple #[.string (itx (LN.eLo (lf n) (tlQ ps la))),.string (itx (LN.eHi (lf n) (tlQ ps la)))])):=fun n W x1 x2 e1 e2 hn T LW =>
   ends_any W x1 x2 e1 e2 _ n E _ T px (by omega) F.kx hn LW
  have Hen2:Hid (∀ (n:Nat) W x1 x2 e1 e2,n≤1056→TermsAt W (tlQ ps lb) x1 x2→Laid W→Gives Tryz.prog 109 #[.agg (tcells x1 e1 x2 e2 (tlQ ps lb).length (tden lb)),.int .i64 n] W (.tuple #[.string (itx (LN.eLo (lf n) (tlQ ps lb))),.string (itx (LN.eHi (lf n) (tlQ ps lb)))])):=fun n W x1 x2 e1 e2 hn T LW =>
   ends_any W x1 x2 e1 e2 _ n E _ T py (by omega) F.ky hn LW
  obtain ⟨K,hK⟩:∃ K:Nat,K=E + 1060 + 10:=⟨_,rfl⟩
  have Hbx:Hid (∀ n:Nat,n≤1024→(LN.eLo (lf n) (tlQ ps la)).natAbs < 2 ^ K∧(LN.eHi (lf n) (tlQ ps la)).natAbs < 2 ^ K):=fun n hn=>by
   obtain ⟨h1,h2⟩:=eSum_num (n:=n) (E:=E) (by omega) (tlQ ps la) (by omega) px F.kx
   exact ⟨Nat.lt_of_lt_of_le h1 (Nat.pow_le_pow_right (by decide) (by omega)),Nat.lt_of_lt_of_le h2 (Nat.pow_le_pow_right (by decide) (by omega))⟩
  have Hby:Hid (∀ n:Nat,n≤1024→(LN.eLo (lf n) (tlQ ps lb)).natAbs < 2 ^ K∧(LN.eHi (lf n) (tlQ ps lb)).natAbs < 2 ^ K):=fun n hn=>by
   obtain ⟨h1,h2⟩:=eSum_num (n:=n) (E:=E) (by omega) (tlQ ps lb) (by omega) py F.ky
   exact ⟨Nat.lt_of_lt_of_le h1 (Nat.pow_le_pow_right (by decide) (by omega)),Nat.lt_of_lt_of_le h2 (Nat.pow_le_pow_right (by decide) (by omega))⟩
  have hKK:K + K < 90000:=by omega
  have hdK:tden la < 2 ^ K:=Nat.lt_of_lt_of_le F.d (Nat.pow_le_pow_right (by decide) (by omega))
  have hgK:tden lb < 2 ^ K:=Nat.lt_of_lt_of_le F.g (Nat.pow_le_pow_right (by decide) (by omega))
  have HS:Hid (∀ (z:Int) W,Gives Tryz.prog 54 #[.string (itx z)] W (.int .i64 z.sign)):=fun z W=>sign_any W z
  have HN:Hid (∀ (z:Int) W,z.natAbs < 2 ^ K→Gives Tryz.prog 34 #[.string (itx z)] W (.string (itx (-z)))):=fun z W hz=>neg_any W z (num_two hz (by omega))
  have HMd:Hid (∀ (a:Int) W,a.natAbs < 2 ^ K→Below w.heap.size w W→Gives Tryz.prog 82 #[.string (itx a),.string (dec (tden la))] W (.string (itx (a * (tden la:Int))))):=fun a W ha hW=>by
   have:=mulZ W a (tden la:Int) K K hKK ha (by rw [Int.natAbs_natCast]; exact hdK) (L.below hW)
   rw [itx_nat] at this; exact this
  have HMg:Hid (∀ (a:Int) W,a.natAbs < 2 ^ K→Below w.heap.size w W→Gives Tryz.prog 82 #[.string (itx a),.string (dec (tden lb))] W (.string (itx (a * (tden lb:Int))))):=fun a W ha hW=>by
   have:=mulZ W a (tden lb:Int) K K hKK ha (by rw [Int.natAbs_natCast]; exact hgK) (L.below hW)
   rw [itx_nat] at this; exact this
  have HDv:Hid (∀ (a b:Int) W,a.natAbs < 2 ^ K→b.natAbs < 2 ^ K→0 < b→Below w.heap.size w W→Gives Tryz.prog 107 #[.string (itx (a * (tden lb:Int))),.string (itx (b * (tden la:Int)))] W (.tuple #[.string (itx (a * (tden lb:Int) / (b * (tden la:Int)))),.string (itx (a * (tden lb:Int) % (b * (tden la:Int)))),.int .i64 0])):=fun a b W ha hb hb0 hW =>
   divZ W _ _ (K + K) hKK (abs_mul_lt ha hgK) (abs_mul_lt hb hdK) (Int.mul_pos hb0 (by omega)) (L.below hW)
  have Hfl:Hid (∀ n,flAt n (tlQ ps la) (tlQ ps lb) (tden la) (tden lb)=flS (LN.eLo (lf n) (tlQ ps la)) (LN.eHi (lf n) (tlQ ps la)) (LN.eLo (lf n) (tlQ ps lb)) (LN.eHi (lf n) (tlQ ps lb)) (tden lb) (tden la)):=fun n=>rfl
  unfold fr fv at Hra
  rw [A.len,B.len]
  clear A B L hr F hn hdd hE lx ly hd0 hg0 px py hll hK hKK hdK hgK hD0
  generalize ratioK la lb ps.length=k at *
  generalize tlQ ps la=tx at *
  generalize tlQ ps lb=ty at *
  generalize tden la=dx at *
  generalize tden lb=dy at *
  go_enter Tryz.func75,Tryz.ntmps75
  go_wp2_with fail
  refine Calls.mono Hra.out ?_
  rintro e w1 ⟨rfl,hb⟩
  have B2:=Lib.hid (hb.alloc hb.size (.cells #[.string (itx k.num),.string (dec k.den)] 30))
  clear hb Hra
  go_wp2_with fail
  generalize w1.alloc (.cells #[.string (itx k.num),.string (dec k.den)] 30)=w2 at *
  refine Calls.mono (Ht1.out _ B2.out) ?_
  rintro e w3 ⟨b1,d1,b2,d2,rfl,X,hb⟩
  have B3:=Lib.hid (B2.out.trans (hb.mono B2.out.size))
  have HX:=Lib.hid X
  clear hb Ht1 X B2
  go_wp2_with fail
  refine Calls.mono (Ht2.out _ B3.out) ?_
  rintro e w4 ⟨b3,d3,b4,d4,rfl,Y,hb⟩
  have B4:=Lib.hid (B3.out.trans (hb.mono B3.out.size))
  have HX4:=Lib.hid (HX.out.below hb)
  have HY:=Lib.hid Y
  clear hb Ht2 Y B3 HX
  go_wp2_with fail
  have Bx:=Lib.hid (((Below.refl w4.heap.size w4).alloc nr_ (.cells #[.slice b1 tx.length d1,.slice b2 tx.length d2,.string (dec dx)] 103)).alloc ((Below.refl w4.heap.size w4).alloc nr_ (.cells #[.slice b1 tx.length d1,.slice b2 tx.length d2,.string (dec dx)] 103)).size (.cells #[.slice b3 ty.length d3,.slice b4 ty.length d4,.string (dec dy)] 103))
  have S1:=Lib.hid (heap_old (heap_at w4 #[.slice b1 tx.length d1,.slice b2 tx.length d2,.string (dec dx)] 103 _ rfl) (.cells #[.slice b3 ty.length d3,.slice b4 ty.length d4,.string (dec dy)] 103))
  have S2:=Lib.hid (heap_at (w4.alloc (.cells #[.slice b1 tx.length d1,.slice b2 tx.length d2,.string (dec dx)] 103)) #[.slice b3 ty.length d3,.slice b4 ty.length d4,.string (dec dy)] 103 (w4.heap.size + 1) (by show (w4.heap.push _).size=_; exact Array.size_push ..))
  have HX5:=Lib.hid (HX4.out.below Bx.out)
  have HY5:=Lib.hid (HY.out.below Bx.out)
  have B5:=Lib.hid (B4.out.trans (Bx.out.mono B4.out.size))
  clear HX4 HY Bx
  generalize hN:w4.heap.size=N9 at *
  generalize (w4.alloc (.cells #[.slice b1 tx.length d1,.slice b2 tx.length d2,.string (dec dx)] 103)).alloc (.cells #[.slice b3 ty.length d3,.slice b4 ty.length d4,.string (dec dy)] 103)=w5 at *
  clear hN B4
  refine Calls.mono (Hqu.out _ _ _ _ _ d1 d2 d3 d4 HX5.out HY5.out (HL.out.below B5.out)) ?_
  rintro e w6 ⟨q0,bq,rfl,hq0,hb⟩
  have B6:=Lib.hid (B5.out.trans (hb.mono B5.out.size))
  have T1:=Lib.hid (heap_kept S1.out hb nr_)
  have T2:=Lib.hid (heap_kept S2.out hb nr_)
  have HX6:=Lib.hid (HX5.out.below hb)
  have HY6:=Lib.hid (HY5.out.below hb)
  have Hq0:=Lib.hid hq0
  clear hb Hqu HX5 HY5 S1 S2 B5 hq0
  cases bq with
  | true =>
   have hqt:=Hq0.out rfl
   have Hfo:=Lib.hid (HqF.out q0 hqt)
   have Hoq:=Lib.hid (Hof.out w6 q0 (by have:=hqt.lo; omega) (by have:=hqt.hi; omega) B6.out)
   clear hqt
   go_wp2_with fail
   refine Calls.mono Hoq.out ?_
   rintro e w7 ⟨rfl,hb⟩
   have B7:=Lib.hid (B6.out.trans (hb.mono B6.out.size))
   clear hb Hoq
   go_wp2_with fail
   go_ret
   exact ⟨⟨q0,rfl,Hfo.out⟩,B7.out⟩
  | false =>
   clear Hq0 HqF Hof
   go_wp2_with fail
   go_loopw [13] (fun a wr=>∃ (n:Nat),Hid (Pw n)∧n≤1024∧a = .int .i64 n∧Hid (Below w.heap.size w wr)∧Hid (wr.heap[N9]?=some (.cells #[.slice b1 tx.length d1,.slice b2 tx.length d2,.string (dec dx)] 103 (0,0)))∧Hid (wr.heap[N9 + 1]?=some (.cells #[.slice b3 ty.length d3,.slice b4 ty.length d4,.string (dec dy)] 103 (0,0)))∧Hid (TermsAt wr tx b1 b2)∧Hid (TermsAt wr ty b3 b4)) (fun a _=>1024 - (intOf a).toNat)
   case atStart=>exact ⟨64,.inl rfl,by decide,rfl,B6,T1,T2,HX6,HY6⟩
   case round =>
    clear B6 T1 T2 HX6 HY6
    obtain ⟨n,Hp,hn,rfl,B1,T1,T2,HX,HY⟩:=hrel
    obtain ⟨vx1,vx2⟩:=Hbx.out n hn
    obtain ⟨vy1,vy2⟩:=Hby.out n hn
    have HE1:=Lib.hid (Hen1.out n wr b1 b2 d1 d2 (by omega) HX.out (HL.out.below B1.out))
    have HE2:Hid (∀ W,Below wr.heap.size wr W→Gives Tryz.prog 109 #[.agg (tcells b3 d3 b4 d4 ty.length dy),.int .i64 n] W (.tuple #[.string (itx (LN.eLo (lf n) ty)),.string (itx (LN.eHi (lf n) ty))])):=fun W hW=>Hen2.out n W b3 b4 d3 d4 (by omega) (HY.out.below hW) (HL.out.below (B1.out.trans (hW.mono B1.out.size)))
    have Hf:=Lib.hid (Hfl.out n)
    have Hspec:Hid (∀ q,flAt n tx ty dx dy=some q→LN.FloorOf ps la lb q):=fun q h=>HfF.out n q (by omega) h
    have hn0:0 < n:=by rcases Hp.out with h | h | h | h | h <;> omega
    have Hnx:Hid (flAt n tx ty dx dy=none→n * 2≤1024∧Pw (n * 2)):=fun h=>by
     rcases Hp.out with e | e | e | e | e
     ·subst e; exact ⟨by decide,.inr (.inl rfl)⟩
     ·subst e; exact ⟨by decide,.inr (.inr (.inl rfl))⟩
     ·subst e; exact ⟨by decide,.inr (.inr (.inr (.inl rfl)))⟩
     ·subst e; exact ⟨by decide,.inr (.inr (.inr (.inr rfl)))⟩
     ·subst e; exact absurd h Hdec.out
    clear Hen1 Hen2 Hfl HfF Hdec Hbx Hby
    have hyy:=eLo_le (lf n) ty
    generalize flAt n tx ty dx dy=fl at *
    generalize LN.eLo (lf n) tx=xl at *
    generalize LN.eHi (lf n) tx=xh at *
    generalize LN.eLo (lf n) ty=yl at *
    generalize LN.eHi (lf n) ty=yh at *
    have hwn:IntKind.i64.wrap ((n:Int) * 2)=((n * 2:Nat):Int):=by rw [show (n:Int) * 2=((n * 2:Nat):Int) by omega]; exact IntWalk.i64_in _ (by omega)
    obtain ⟨m0,m1,m2,-⟩:=obj_cells3 T1.out
    go_wp2_with fail
    refine Calls.mono HE1.out ?_
    rintro e_ w2 ⟨rfl,hb⟩
    replace HE2:=Lib.hid (HE2.out w2 hb)
    have B2:=Lib.hid (B1.out.trans (hb.mono B1.out.size))
    replace T1:=Lib.hid (heap_kept T1.out hb nr_)
    replace T2:=Lib.hid (heap_kept T2.out hb nr_)
    replace HX:=Lib.hid (HX.out.below hb)
    replace HY:=Lib.hid (HY.out.below hb)
    clear hb HE1 B1 m0 m1 m2
    obtain ⟨m0,m1,m2,-⟩:=obj_cells3 T2.out
    go_wp2_with fail
    clear m0 m1 m2
    refine Calls.mono (HE2.out) ?_
    rintro e_ w3 ⟨rfl,hb⟩
    have B3:=Lib.hid (B2.out.trans (hb.mono B2.out.size))
    replace T1:=Lib.hid (heap_kept T1.out hb nr_)
    replace T2:=Lib.hid (heap_kept T2.out hb nr_)
    replace HX:=Lib.hid (HX.out.below hb)
    replace HY:=Lib.hid (HY.out.below hb)
    clear hb B2
    clear HE2
    go_wp2_with fail
    refine Calls.mono (HS.out yh _) ?_
    rintro e_ w4 ⟨rfl,hb⟩
    have B4:=Lib.hid (B3.out.trans (hb.mono B3.out.size))
    replace T1:=Lib.hid (heap_kept T1.out hb nr_)
    replace T2:=Lib.hid (heap_kept T2.out hb nr_)
    replace HX:=Lib.hid (HX.out.below hb)
    replace HY:=Lib.hid (HY.out.below hb)
    clear hb B3
    by_cases hyh:yh≤0
    ·have hsg0:yh.sign≤0:=by have:=sign_cases yh; omega
     generalize yh.sign=sg0 at *
     go_wp2_with fail
     refine Calls.mono (HN.out xh _ (by omega)) ?_
     rintro e_ w5 ⟨rfl,hb⟩
     have B5:=Lib.hid (B4.out.trans (hb.mono B4.out.size))
     replace T1:=Lib.hid (heap_kept T1.out hb nr_)
     replace T2:=Lib.hid (heap_kept T2.out hb nr_)
     replace HX:=Lib.hid (HX.out.below hb)
     replace HY:=Lib.hid (HY.out.below hb)
     clear hb B4
     go_wp2_with fail
     refine Calls.mono (HN.out xl _ (by omega)) ?_
     rintro e_ w6 ⟨rfl,hb⟩
     have B6:=Lib.hid (B5.out.trans (hb.mono B5.out.size))
     replace T1:=Lib.hid (heap_kept T1.out hb nr_)
     replace T2:=Lib.hid (heap_kept T2.out hb nr_)
     replace HX:=Lib.hid (HX.out.below hb)
     replace HY:=Lib.hid (HY.out.below hb)
     clear hb B5
     go_wp2_with fail
     refine Calls.mono (HN.out yh _ (by omega)) ?_
     rintro e_ w7 ⟨rfl,hb⟩
     have B7:=Lib.hid (B6.out.trans (hb.mono B6.out.size))
     replace T1:=Lib.hid (heap_kept T1.out hb nr_)
     replace T2:=Lib.hid (heap_kept T2.out hb nr_)
     replace HX:=Lib.hid (HX.out.below hb)
     replace HY:=Lib.hid (HY.out.below hb)
     clear hb B6
     go_wp2_with fail
     refine Calls.mono (HN.out yl _ (by omega)) ?_
     rintro e_ w8 ⟨rfl,hb⟩
     have B8:=Lib.hid (B7.out.trans (hb.mono B7.out.size))
     replace T1:=Lib.hid (heap_kept T1.out hb nr_)
     replace T2:=Lib.hid (heap_kept T2.out hb nr_)
     replace HX:=Lib.hid (HX.out.below hb)
     replace HY:=Lib.hid (HY.out.below hb)
     clear hb B7
     go_wp2_with fail
     refine Calls.mono (HS.out (-yh) _) ?_
     rintro e_ w9 ⟨rfl,hb⟩
     have B9:=Lib.hid (B8.out.trans (hb.mono B8.out.size))
     replace T1:=Lib.hid (heap_kept T1.out hb nr_)
     replace T2:=Lib.hid (heap_kept T2.out hb nr_)
     replace HX:=Lib.hid (HX.out.below hb)
     replace HY:=Lib.hid (HY.out.below hb)
     clear hb B8
     by_cases hyl2:(-yh)≤0
     ·have hsg:(-yh).sign≤0:=by have:=sign_cases (-yh); omega
      have hfl:fl=none:=by
       rw [Hf.out]
       unfold flS
       rw [if_pos (by omega)]
       unfold flE
       rw [if_pos (by omega)]
      obtain ⟨hn2,hp2⟩:=Hnx.out hfl
      have Hp2:=Lib.hid hp2
      clear hfl Hspec Hnx hp2 Hf
      generalize (-yh).sign=sg at *
      go_wp2_with fail
      go_roundw
      case rel=>exact ⟨n * 2,Hp2,hn2,rfl,B9,T1,T2,HX,HY⟩
      case measure=>simp [intOf]; omega
     ·have hsg:0 < (-yh).sign:=by have:=sign_cases (-yh); omega
      generalize (-yh).sign=sg at *
      go_wp2_with fail
      clear hsg
      refine Calls.mono (HS.out (-xh) _) ?_
      rintro e_ w10 ⟨rfl,hb⟩
      have B10:=Lib.hid (B9.out.trans (hb.mono B9.out.size))
      replace T1:=Lib.hid (heap_kept T1.out hb nr_)
      replace T2:=Lib.hid (heap_kept T2.out hb nr_)
      replace HX:=Lib.hid (HX.out.below hb)
      replace HY:=Lib.hid (HY.out.below hb)
      clear hb B9
      by_cases hx1:(-xh) < 0
      ·have hsg:(-xh).sign < 0:=by have:=sign_cases (-xh); omega
       generalize (-xh).sign=sg at *
       go_wp2_with fail
       clear hsg
       refine Calls.mono (HS.out (-xl) _) ?_
       rintro e_ w11 ⟨rfl,hb⟩
       have B11:=Lib.hid (B10.out.trans (hb.mono B10.out.size))
       replace T1:=Lib.hid (heap_kept T1.out hb nr_)
       replace T2:=Lib.hid (heap_kept T2.out hb nr_)
       replace HX:=Lib.hid (HX.out.below hb)
       replace HY:=Lib.hid (HY.out.below hb)
       clear hb B10
       by_cases hx2:(-xl) < 0
       ·have hsg:(-xl).sign < 0:=by have:=sign_cases (-xl); omega
        generalize (-xl).sign=sg at *
        obtain ⟨k0,k1,k2,-⟩:=obj_cells3 T1.out
        obtain ⟨m0,m1,m2,-⟩:=obj_cells3 T2.out
        have s2:=BW.cell k2
        have r2:=BW.cell m2
        have hnon:Nonempty (BW w11):=⟨⟨w11,Below.refl _ _⟩⟩
        have I:Hid (Below w11.heap.size w11 w11.drew):=(Below.refl _ _).drew
        go_wp2_with fail
        clear k0 k1 k2 m0 m1 m2
        refine RX.wp_region_readers 15 [(1,0),(1,1),(1,2),(1,4),(1,5),(1,6),(0,3),(0,7),(0,8),(2,9),(2,10),(2,11),(2,12),(0,13),(0,14),(0,15)] (fun w'=>∃ p:BW w11,w'=p.w) (by kernel_rfl) (by kernel_rfl) ?_ ?_
        ·exact ⟨⟨_,I.out⟩,rfl⟩
        iterate 6 (refine RX.walkR_read ?_; simp only [dsc_,dz_,tsc_,tz_]; go_big_quiet_step (fail); refine wpQuiet_nil ?_)
        clear hnon s2 r2
        refine RX.walkR_move ?_
        simp only [dsc_,dz_,tsc_,tz_]
        go_wp2_with fail
        refine Calls.mono (HMg.out (-xh) _ (by omega) (B11.out.drew)) ?_
        rintro e_ wa ⟨rfl,hb⟩
        have Wa:Hid (Below w11.heap.size w11 wa):=(Below.refl w11.heap.size w11).drew.trans hb
        clear hb I
        go_wp2_with fail
        refine ⟨⟨⟨_,Wa.out⟩,rfl⟩,?_⟩
        refine RX.walkR_move ?_
        simp only [dsc_,dz_,tsc_,tz_]
        go_wp2_with fail
        refine Calls.mono (HMd.out (-yh) _ (by omega) (B11.out.trans (Wa.out.mono B11.out.size))) ?_
        rintro e_ wb ⟨rfl,hb⟩
        have Wb:=Lib.hid (Wa.out.trans (hb.mono Wa.out.size))
        clear hb Wa
        go_wp2_with fail
        refine ⟨⟨⟨_,Wb.out⟩,rfl⟩,?_⟩
        refine RX.walkR_move ?_
        simp only [dsc_,dz_,tsc_,tz_]
        go_wp2_with fail
        refine Calls.mono (HDv.out (-xh) (-yh) _ (by omega) (by omega) (by omega) (B11.out.trans (Wb.out.mono B11.out.size))) ?_
        rintro e_ wc ⟨rfl,hb⟩
        have Wc:=Lib.hid (Wb.out.trans (hb.mono Wb.out.size))
        clear hb Wb
        go_wp2_with fail
        refine ⟨⟨⟨_,Wc.out⟩,rfl⟩,?_⟩
        refine RX.walkR_any ?_
        simp only [dsc_,dz_,tsc_,tz_]
        go_big_quiet_step (fail)
        refine wpQuiet_nil ?_
        refine RX.walkR_any ?_
        simp only [dsc_,dz_,tsc_,tz_]
        go_big_quiet_step (fail)
        refine wpQuiet_nil ?_
        refine RX.walkR_any ?_
        simp only [dsc_,dz_,tsc_,tz_]
        go_big_quiet_step (fail)
        refine wpQuiet_nil ?_
        refine RX.walkR_any ?_
        simp only [dsc_,dz_,tsc_,tz_]
        go_big_quiet_step (fail)
        refine wpQuiet_nil ?_
        refine RX.walkR_move ?_
        simp only [dsc_,dz_,tsc_,tz_]
        go_wp2_with fail
        refine ⟨⟨⟨_,Wc.out⟩,rfl⟩,?_⟩
        refine RX.walkR_move ?_
        simp only [dsc_,dz_,tsc_,tz_]
        go_wp2_with fail
        refine ⟨⟨⟨_,Wc.out⟩,rfl⟩,?_⟩
        refine RX.walkR_move ?_
        simp only [dsc_,dz_,tsc_,tz_]
        go_wp2_with fail
        simp only [RX.walkR]
        have hb:=Wc.out
        have B12:=Lib.hid (B11.out.trans (hb.mono B11.out.size))
        replace T1:=Lib.hid (heap_kept T1.out hb nr_)
        replace T2:=Lib.hid (heap_kept T2.out hb nr_)
        replace HX:=Lib.hid (HX.out.below hb)
        replace HY:=Lib.hid (HY.out.below hb)
        clear hb Wc B11
        generalize wc=w12 at *
        go_wp2_with fail
        obtain ⟨k0,k1,k2,-⟩:=obj_cells3 T1.out
        obtain ⟨m0,m1,m2,-⟩:=obj_cells3 T2.out
        have s2:=BW.cell k2
        have r2:=BW.cell m2
        have hnon:Nonempty (BW w12):=⟨⟨w12,Below.refl _ _⟩⟩
        have I:Hid (Below w12.heap.size w12 w12.drew):=(Below.refl _ _).drew
        go_wp2_with fail
        clear k0 k1 k2 m0 m1 m2
        refine RX.wp_region_readers 15 [(1,0),(1,1),(1,2),(1,4),(1,5),(1,6),(0,3),(0,7),(0,8),(2,9),(2,10),(2,11),(2,12),(0,13),(0,14),(0,15)] (fun w'=>∃ p:BW w12,w'=p.w) (by kernel_rfl) (by kernel_rfl) ?_ ?_
        ·exact ⟨⟨_,I.out⟩,rfl⟩
        iterate 6 (refine RX.walkR_read ?_; simp only [dsc_,dz_,tsc_,tz_]; go_big_quiet_step (fail); refine wpQuiet_nil ?_)
        clear hnon s2 r2
        refine RX.walkR_move ?_
        simp only [dsc_,dz_,tsc_,tz_]
        go_wp2_with fail
        refine Calls.mono (HMg.out (-xl) _ (by omega) (B12.out.drew)) ?_
        rintro e_ wa ⟨rfl,hb⟩
        have Wa:Hid (Below w12.heap.size w12 wa):=(Below.refl w12.heap.size w12).drew.trans hb
        clear hb I
        go_wp2_with fail
        refine ⟨⟨⟨_,Wa.out⟩,rfl⟩,?_⟩
        refine RX.walkR_move ?_
        simp only [dsc_,dz_,tsc_,tz_]
        go_wp2_with fail
        refine Calls.mono (HMd.out (-yl) _ (by omega) (B12.out.trans (Wa.out.mono B12.out.size))) ?_
        rintro e_ wb ⟨rfl,hb⟩
        have Wb:=Lib.hid (Wa.out.trans (hb.mono Wa.out.size))
        clear hb Wa
        go_wp2_with fail
        refine ⟨⟨⟨_,Wb.out⟩,rfl⟩,?_⟩
        refine RX.walkR_move ?_
        simp only [dsc_,dz_,tsc_,tz_]
        go_wp2_with fail
        refine Calls.mono (HDv.out (-xl) (-yl) _ (by omega) (by omega) (by omega) (B12.out.trans (Wb.out.mono B12.out.size))) ?_
        rintro e_ wc ⟨rfl,hb⟩
        have Wc:=Lib.hid (Wb.out.trans (hb.mono Wb.out.size))
        clear hb Wb
        go_wp2_with fail
        refine ⟨⟨⟨_,Wc.out⟩,rfl⟩,?_⟩
        refine RX.walkR_any ?_
        simp only [dsc_,dz_,tsc_,tz_]
        go_big_quiet_step (fail)
        refine wpQuiet_nil ?_
        refine RX.walkR_any ?_
        simp only [dsc_,dz_,tsc_,tz_]
        go_big_quiet_step (fail)
        refine wpQuiet_nil ?_
        refine RX.walkR_any ?_
        simp only [dsc_,dz_,tsc_,tz_]
        go_big_quiet_step (fail)
        refine wpQuiet_nil ?_
        refine RX.walkR_any ?_
        simp only [dsc_,dz_,tsc_,tz_]
        go_big_quiet_step (fail)
        refine wpQuiet_nil ?_
        refine RX.walkR_move ?_
        simp only [dsc_,dz_,tsc_,tz_]
        go_wp2_with fail
        refine ⟨⟨⟨_,Wc.out⟩,rfl⟩,?_⟩
        refine RX.walkR_move ?_
        simp only [dsc_,dz_,tsc_,tz_]
        go_wp2_with fail
        refine ⟨⟨⟨_,Wc.out⟩,rfl⟩,?_⟩
        refine RX.walkR_move ?_
        simp only [dsc_,dz_,tsc_,tz_]
        go_wp2_with fail
        simp only [RX.walkR]
        have hb:=Wc.out
        have B13:=Lib.hid (B12.out.trans (hb.mono B12.out.size))
        replace T1:=Lib.hid (heap_kept T1.out hb nr_)
        replace T2:=Lib.hid (heap_kept T2.out hb nr_)
        replace HX:=Lib.hid (HX.out.below hb)
        replace HY:=Lib.hid (HY.out.below hb)
        clear hb Wc B12
        generalize wc=w13 at *
        have hfl:fl=if (-xh) * (dy:Int) / ((-yh) * (dx:Int))=(-xl) * (dy:Int) / ((-yl) * (dx:Int)) then some ((-xh) * (dy:Int) / ((-yh) * (dx:Int))) else none:=by
         rw [Hf.out]
         unfold flS
         rw [if_pos (show yh≤0 by omega)]
         unfold flE LN.quoL LN.quoH
         rw [if_neg (show ¬ (-yh)≤0 by omega),if_pos (show (-xh) < 0 by omega),if_pos (show (-xl) < 0 by omega)]
        have hsame:=same_itx ((-xh) * (dy:Int) / ((-yh) * (dx:Int))) ((-xl) * (dy:Int) / ((-yl) * (dx:Int)))
        clear Hf
        generalize (-xh) * (dy:Int) / ((-yh) * (dx:Int))=q1 at *
        generalize (-xl) * (dy:Int) / ((-yl) * (dx:Int))=q2 at *
        by_cases hqq:q1=q2
        ·rw [if_pos hqq] at hfl
         rw [decide_eq_true hqq] at hsame
         have Hans:=Lib.hid (Hspec.out _ hfl)
         clear hfl hqq Hspec Hnx
         go_wp2_with fail
         go_ret
         exact ⟨⟨q1,rfl,Hans.out⟩,B13.out⟩
        ·rw [if_neg hqq] at hfl
         rw [decide_eq_false hqq] at hsame
         obtain ⟨hn2,hp2⟩:=Hnx.out hfl
         have Hp2:=Lib.hid hp2
         clear hfl hqq Hspec Hnx hp2
         go_wp2_with fail
         go_roundw
         case rel=>exact ⟨n * 2,Hp2,hn2,rfl,B13,T1,T2,HX,HY⟩
         case measure=>simp [intOf]; omega
       ·have hsg:¬ (-xl).sign < 0:=by have:=sign_cases (-xl); omega
        generalize (-xl).sign=sg at *
        obtain ⟨k0,k1,k2,-⟩:=obj_cells3 T1.out
        obtain ⟨m0,m1,m2,-⟩:=obj_cells3 T2.out
        have s2:=BW.cell k2
        have r2:=BW.cell m2
        have hnon:Nonempty (BW w11):=⟨⟨w11,Below.refl _ _⟩⟩
        have I:Hid (Below w11.heap.size w11 w11.drew):=(Below.refl _ _).drew
        go_wp2_with fail
        clear k0 k1 k2 m0 m1 m2
        refine RX.wp_region_readers 15 [(1,0),(1,1),(1,2),(1,4),(1,5),(1,6),(0,3),(0,7),(0,8),(2,9),(2,10),(2,11),(2,12),(0,13),(0,14),(0,15)] (fun w'=>∃ p:BW w11,w'=p.w) (by kernel_rfl) (by kernel_rfl) ?_ ?_
        ·exact ⟨⟨_,I.out⟩,rfl⟩
        iterate 6 (refine RX.walkR_read ?_; simp only [dsc_,dz_,tsc_,tz_]; go_big_quiet_step (fail); refine wpQuiet_nil ?_)
        clear hnon s2 r2
        refine RX.walkR_move ?_
        simp only [dsc_,dz_,tsc_,tz_]
        go_wp2_with fail
        refine Calls.mono (HMg.out (-xh) _ (by omega) (B11.out.drew)) ?_
        rintro e_ wa ⟨rfl,hb⟩
        have Wa:Hid (Below w11.heap.size w11 wa):=(Below.refl w11.heap.size w11).drew.trans hb
        clear hb I
        go_wp2_with fail
        refine ⟨⟨⟨_,Wa.out⟩,rfl⟩,?_⟩
        refine RX.walkR_move ?_
        simp only [dsc_,dz_,tsc_,tz_]
        go_wp2_with fail
        refine Calls.mono (HMd.out (-yh) _ (by omega) (B11.out.trans (Wa.out.mono B11.out.size))) ?_
        rintro e_ wb ⟨rfl,hb⟩
        have Wb:=Lib.hid (Wa.out.trans (hb.mono Wa.out.size))
        clear hb Wa
        go_wp2_with fail
        refine ⟨⟨⟨_,Wb.out⟩,rfl⟩,?_⟩
        refine RX.walkR_move ?_
        simp only [dsc_,dz_,tsc_,tz_]
        go_wp2_with fail
        refine Calls.mono (HDv.out (-xh) (-yh) _ (by omega) (by omega) (by omega) (B11.out.trans (Wb.out.mono B11.out.size))) ?_
        rintro e_ wc ⟨rfl,hb⟩
        have Wc:=Lib.hid (Wb.out.trans (hb.mono Wb.out.size))
        clear hb Wb
        go_wp2_with fail
        refine ⟨⟨⟨_,Wc.out⟩,rfl⟩,?_⟩
        refine RX.walkR_any ?_
        simp only [dsc_,dz_,tsc_,tz_]
        go_big_quiet_step (fail)
        refine wpQuiet_nil ?_
        refine RX.walkR_any ?_
        simp only [dsc_,dz_,tsc_,tz_]
        go_big_quiet_step (fail)
        refine wpQuiet_nil ?_
        refine RX.walkR_any ?_
        simp only [dsc_,dz_,tsc_,tz_]
        go_big_quiet_step (fail)
        refine wpQuiet_nil ?_
        refine RX.walkR_any ?_
        simp only [dsc_,dz_,tsc_,tz_]
        go_big_quiet_step (fail)
        refine wpQuiet_nil ?_
        refine RX.walkR_move ?_
        simp only [dsc_,dz_,tsc_,tz_]
        go_wp2_with fail
        refine ⟨⟨⟨_,Wc.out⟩,rfl⟩,?_⟩
        refine RX.walkR_move ?_
        simp only [dsc_,dz_,tsc_,tz_]
        go_wp2_with fail
        refine ⟨⟨⟨_,Wc.out⟩,rfl⟩,?_⟩
        refine RX.walkR_move ?_
        simp only [dsc_,dz_,tsc_,tz_]
        go_wp2_with fail
        simp only [RX.walkR]
        have hb:=Wc.out
        have B12:=Lib.hid (B11.out.trans (hb.mono B11.out.size))
        replace T1:=Lib.hid (heap_kept T1.out hb nr_)
        replace T2:=Lib.hid (heap_kept T2.out hb nr_)
        replace HX:=Lib.hid (HX.out.below hb)
        replace HY:=Lib.hid (HY.out.below hb)
        clear hb Wc B11
        generalize wc=w12 at *
        go_wp2_with fail
        obtain ⟨k0,k1,k2,-⟩:=obj_cells3 T1.out
        obtain ⟨m0,m1,m2,-⟩:=obj_cells3 T2.out
        have s2:=BW.cell k2
        have r2:=BW.cell m2
        have hnon:Nonempty (BW w12):=⟨⟨w12,Below.refl _ _⟩⟩
        have I:Hid (Below w12.heap.size w12 w12.drew):=(Below.refl _ _).drew
        go_wp2_with fail
        clear k0 k1 k2 m0 m1 m2
        refine RX.wp_region_readers 15 [(1,0),(1,1),(1,2),(1,4),(1,5),(1,6),(0,3),(0,7),(0,8),(2,9),(2,10),(2,11),(2,12),(0,13),(0,14),(0,15)] (fun w'=>∃ p:BW w12,w'=p.w) (by kernel_rfl) (by kernel_rfl) ?_ ?_
        ·exact ⟨⟨_,I.out⟩,rfl⟩
        iterate 6 (refine RX.walkR_read ?_; simp only [dsc_,dz_,tsc_,tz_]; go_big_quiet_step (fail); refine wpQuiet_nil ?_)
        clear hnon s2 r2
        refine RX.walkR_move ?_
        simp only [dsc_,dz_,tsc_,tz_]
        go_wp2_with fail
        refine Calls.mono (HMg.out (-xl) _ (by omega) (B12.out.drew)) ?_
        rintro e_ wa ⟨rfl,hb⟩
        have Wa:Hid (Below w12.heap.size w12 wa):=(Below.refl w12.heap.size w12).drew.trans hb
        clear hb I
        go_wp2_with fail
        refine ⟨⟨⟨_,Wa.out⟩,rfl⟩,?_⟩
        refine RX.walkR_move ?_
        simp only [dsc_,dz_,tsc_,tz_]
        go_wp2_with fail
        refine Calls.mono (HMd.out (-yh) _ (by omega) (B12.out.trans (Wa.out.mono B12.out.size))) ?_
        rintro e_ wb ⟨rfl,hb⟩
        have Wb:=Lib.hid (Wa.out.trans (hb.mono Wa.out.size))
        clear hb Wa
        go_wp2_with fail
        refine ⟨⟨⟨_,Wb.out⟩,rfl⟩,?_⟩
        refine RX.walkR_move ?_
        simp only [dsc_,dz_,tsc_,tz_]
        go_wp2_with fail
        refine Calls.mono (HDv.out (-xl) (-yh) _ (by omega) (by omega) (by omega) (B12.out.trans (Wb.out.mono B12.out.size))) ?_
        rintro e_ wc ⟨rfl,hb⟩
        have Wc:=Lib.hid (Wb.out.trans (hb.mono Wb.out.size))
        clear hb Wb
        go_wp2_with fail
        refine ⟨⟨⟨_,Wc.out⟩,rfl⟩,?_⟩
        refine RX.walkR_any ?_
        simp only [dsc_,dz_,tsc_,tz_]
        go_big_quiet_step (fail)
        refine wpQuiet_nil ?_
        refine RX.walkR_any ?_
        simp only [dsc_,dz_,tsc_,tz_]
        go_big_quiet_step (fail)
        refine wpQuiet_nil ?_
        refine RX.walkR_any ?_
        simp only [dsc_,dz_,tsc_,tz_]
        go_big_quiet_step (fail)
        refine wpQuiet_nil ?_
        refine RX.walkR_any ?_
        simp only [dsc_,dz_,tsc_,tz_]
        go_big_quiet_step (fail)
        refine wpQuiet_nil ?_
        refine RX.walkR_move ?_
        simp only [dsc_,dz_,tsc_,tz_]
        go_wp2_with fail
        refine ⟨⟨⟨_,Wc.out⟩,rfl⟩,?_⟩
        refine RX.walkR_move ?_
        simp only [dsc_,dz_,tsc_,tz_]
        go_wp2_with fail
        refine ⟨⟨⟨_,Wc.out⟩,rfl⟩,?_⟩
        refine RX.walkR_move ?_
        simp only [dsc_,dz_,tsc_,tz_]
        go_wp2_with fail
        simp only [RX.walkR]
        have hb:=Wc.out
        have B13:=Lib.hid (B12.out.trans (hb.mono B12.out.size))
        replace T1:=Lib.hid (heap_kept T1.out hb nr_)
        replace T2:=Lib.hid (heap_kept T2.out hb nr_)
        replace HX:=Lib.hid (HX.out.below hb)
        replace HY:=Lib.hid (HY.out.below hb)
        clear hb Wc B12
        generalize wc=w13 at *
        have hfl:fl=if (-xh) * (dy:Int) / ((-yh) * (dx:Int))=(-xl) * (dy:Int) / ((-yh) * (dx:Int)) then some ((-xh) * (dy:Int) / ((-yh) * (dx:Int))) else none:=by
         rw [Hf.out]
         unfold flS
         rw [if_pos (show yh≤0 by omega)]
         unfold flE LN.quoL LN.quoH
         rw [if_neg (show ¬ (-yh)≤0 by omega),if_pos (show (-xh) < 0 by omega),if_neg (show ¬ (-xl) < 0 by omega)]
        have hsame:=same_itx ((-xh) * (dy:Int) / ((-yh) * (dx:Int))) ((-xl) * (dy:Int) / ((-yh) * (dx:Int)))
        clear Hf
        generalize (-xh) * (dy:Int) / ((-yh) * (dx:Int))=q1 at *
        generalize (-xl) * (dy:Int) / ((-yh) * (dx:Int))=q2 at *
        by_cases hqq:q1=q2
        ·rw [if_pos hqq] at hfl
         rw [decide_eq_true hqq] at hsame
         have Hans:=Lib.hid (Hspec.out _ hfl)
         clear hfl hqq Hspec Hnx
         go_wp2_with fail
         go_ret
         exact ⟨⟨q1,rfl,Hans.out⟩,B13.out⟩
        ·rw [if_neg hqq] at hfl
         rw [decide_eq_false hqq] at hsame
         obtain ⟨hn2,hp2⟩:=Hnx.out hfl
         have Hp2:=Lib.hid hp2
         clear hfl hqq Hspec Hnx hp2
         go_wp2_with fail
         go_roundw
         case rel=>exact ⟨n * 2,Hp2,hn2,rfl,B13,T1,T2,HX,HY⟩
         case measure=>simp [intOf]; omega
      ·have hsg:¬ (-xh).sign < 0:=by have:=sign_cases (-xh); omega
       generalize (-xh).sign=sg at *
       go_wp2_with fail
       clear hsg
       refine Calls.mono (HS.out (-xl) _) ?_
       rintro e_ w11 ⟨rfl,hb⟩
       have B11:=Lib.hid (B10.out.trans (hb.mono B10.out.size))
       replace T1:=Lib.hid (heap_kept T1.out hb nr_)
       replace T2:=Lib.hid (heap_kept T2.out hb nr_)
       replace HX:=Lib.hid (HX.out.below hb)
       replace HY:=Lib.hid (HY.out.below hb)
       clear hb B10
       by_cases hx2:(-xl) < 0
       ·have hsg:(-xl).sign < 0:=by have:=sign_cases (-xl); omega
        generalize (-xl).sign=sg at *
        obtain ⟨k0,k1,k2,-⟩:=obj_cells3 T1.out
        obtain ⟨m0,m1,m2,-⟩:=obj_cells3 T2.out
        have s2:=BW.cell k2
        have r2:=BW.cell m2
        have hnon:Nonempty (BW w11):=⟨⟨w11,Below.refl _ _⟩⟩
        have I:Hid (Below w11.heap.size w11 w11.drew):=(Below.refl _ _).drew
        go_wp2_with fail
        clear k0 k1 k2 m0 m1 m2
        refine RX.wp_region_readers 15 [(1,0),(1,1),(1,2),(1,4),(1,5),(1,6),(0,3),(0,7),(0,8),(2,9),(2,10),(2,11),(2,12),(0,13),(0,14),(0,15)] (fun w'=>∃ p:BW w11,w'=p.w) (by kernel_rfl) (by kernel_rfl) ?_ ?_
        ·exact ⟨⟨_,I.out⟩,rfl⟩
        iterate 6 (refine RX.walkR_read ?_; simp only [dsc_,dz_,tsc_,tz_]; go_big_quiet_step (fail); refine wpQuiet_nil ?_)
        clear hnon s2 r2
        refine RX.walkR_move ?_
        simp only [dsc_,dz_,tsc_,tz_]
        go_wp2_with fail
        refine Calls.mono (HMg.out (-xh) _ (by omega) (B11.out.drew)) ?_
        rintro e_ wa ⟨rfl,hb⟩
        have Wa:Hid (Below w11.heap.size w11 wa):=(Below.refl w11.heap.size w11).drew.trans hb
        clear hb I
        go_wp2_with fail
        refine ⟨⟨⟨_,Wa.out⟩,rfl⟩,?_⟩
        refine RX.walkR_move ?_
        simp only [dsc_,dz_,tsc_,tz_]
        go_wp2_with fail
        refine Calls.mono (HMd.out (-yl) _ (by omega) (B11.out.trans (Wa.out.mono B11.out.size))) ?_
        rintro e_ wb ⟨rfl,hb⟩
        have Wb:=Lib.hid (Wa.out.trans (hb.mono Wa.out.size))
        clear hb Wa
        go_wp2_with fail
        refine ⟨⟨⟨_,Wb.out⟩,rfl⟩,?_⟩
        refine RX.walkR_move ?_
        simp only [dsc_,dz_,tsc_,tz_]
        go_wp2_with fail
        refine Calls.mono (HDv.out (-xh) (-yl) _ (by omega) (by omega) (by omega) (B11.out.trans (Wb.out.mono B11.out.size))) ?_
        rintro e_ wc ⟨rfl,hb⟩
        have Wc:=Lib.hid (Wb.out.trans (hb.mono Wb.out.size))
        clear hb Wb
        go_wp2_with fail
        refine ⟨⟨⟨_,Wc.out⟩,rfl⟩,?_⟩
        refine RX.walkR_any ?_
        simp only [dsc_,dz_,tsc_,tz_]
        go_big_quiet_step (fail)
        refine wpQuiet_nil ?_
        refine RX.walkR_any ?_
        simp only [dsc_,dz_,tsc_,tz_]
        go_big_quiet_step (fail)
        refine wpQuiet_nil ?_
        refine RX.walkR_any ?_
        simp only [dsc_,dz_,tsc_,tz_]
        go_big_quiet_step (fail)
        refine wpQuiet_nil ?_
        refine RX.walkR_any ?_
        simp only [dsc_,dz_,tsc_,tz_]
        go_big_quiet_step (fail)
        refine wpQuiet_nil ?_
        refine RX.walkR_move ?_
        simp only [dsc_,dz_,tsc_,tz_]
        go_wp2_with fail
        refine ⟨⟨⟨_,Wc.out⟩,rfl⟩,?_⟩
        refine RX.walkR_move ?_
        simp only [dsc_,dz_,tsc_,tz_]
        go_wp2_with fail
        refine ⟨⟨⟨_,Wc.out⟩,rfl⟩,?_⟩
        refine RX.walkR_move ?_
        simp only [dsc_,dz_,tsc_,tz_]
        go_wp2_with fail
        simp only [RX.walkR]
        have hb:=Wc.out
        have B12:=Lib.hid (B11.out.trans (hb.mono B11.out.size))
        replace T1:=Lib.hid (heap_kept T1.out hb nr_)
        replace T2:=Lib.hid (heap_kept T2.out hb nr_)
        replace HX:=Lib.hid (HX.out.below hb)
        replace HY:=Lib.hid (HY.out.below hb)
        clear hb Wc B11
        generalize wc=w12 at *
        go_wp2_with fail
        obtain ⟨k0,k1,k2,-⟩:=obj_cells3 T1.out
        obtain ⟨m0,m1,m2,-⟩:=obj_cells3 T2.out
        have s2:=BW.cell k2
        have r2:=BW.cell m2
        have hnon:Nonempty (BW w12):=⟨⟨w12,Below.refl _ _⟩⟩
        have I:Hid (Below w12.heap.size w12 w12.drew):=(Below.refl _ _).drew
        go_wp2_with fail
        clear k0 k1 k2 m0 m1 m2
        refine RX.wp_region_readers 15 [(1,0),(1,1),(1,2),(1,4),(1,5),(1,6),(0,3),(0,7),(0,8),(2,9),(2,10),(2,11),(2,12),(0,13),(0,14),(0,15)] (fun w'=>∃ p:BW w12,w'=p.w) (by kernel_rfl) (by kernel_rfl) ?_ ?_
        ·exact ⟨⟨_,I.out⟩,rfl⟩
        iterate 6 (refine RX.walkR_read ?_; simp only [dsc_,dz_,tsc_,tz_]; go_big_quiet_step (fail); refine wpQuiet_nil ?_)
        clear hnon s2 r2
        refine RX.walkR_move ?_
        simp only [dsc_,dz_,tsc_,tz_]
        go_wp2_with fail
        refine Calls.mono (HMg.out (-xl) _ (by omega) (B12.out.drew)) ?_
        rintro e_ wa ⟨rfl,hb⟩
        have Wa:Hid (Below w12.heap.size w12 wa):=(Below.refl w12.heap.size w12).drew.trans hb
        clear hb I
        go_wp2_with fail
        refine ⟨⟨⟨_,Wa.out⟩,rfl⟩,?_⟩
        refine RX.walkR_move ?_
        simp only [dsc_,dz_,tsc_,tz_]
        go_wp2_with fail
        refine Calls.mono (HMd.out (-yl) _ (by omega) (B12.out.trans (Wa.out.mono B12.out.size))) ?_
        rintro e_ wb ⟨rfl,hb⟩
        have Wb:=Lib.hid (Wa.out.trans (hb.mono Wa.out.size))
        clear hb Wa
        go_wp2_with fail
        refine ⟨⟨⟨_,Wb.out⟩,rfl⟩,?_⟩
        refine RX.walkR_move ?_
        simp only [dsc_,dz_,tsc_,tz_]
        go_wp2_with fail
        refine Calls.mono (HDv.out (-xl) (-yl) _ (by omega) (by omega) (by omega) (B12.out.trans (Wb.out.mono B12.out.size))) ?_
        rintro e_ wc ⟨rfl,hb⟩
        have Wc:=Lib.hid (Wb.out.trans (hb.mono Wb.out.size))
        clear hb Wb
        go_wp2_with fail
        refine ⟨⟨⟨_,Wc.out⟩,rfl⟩,?_⟩
        refine RX.walkR_any ?_
        simp only [dsc_,dz_,tsc_,tz_]
        go_big_quiet_step (fail)
        refine wpQuiet_nil ?_
        refine RX.walkR_any ?_
        simp only [dsc_,dz_,tsc_,tz_]
        go_big_quiet_step (fail)
        refine wpQuiet_nil ?_
        refine RX.walkR_any ?_
        simp only [dsc_,dz_,tsc_,tz_]
        go_big_quiet_step (fail)
        refine wpQuiet_nil ?_
        refine RX.walkR_any ?_
        simp only [dsc_,dz_,tsc_,tz_]
        go_big_quiet_step (fail)
        refine wpQuiet_nil ?_
        refine RX.walkR_move ?_
        simp only [dsc_,dz_,tsc_,tz_]
        go_wp2_with fail
        refine ⟨⟨⟨_,Wc.out⟩,rfl⟩,?_⟩
        refine RX.walkR_move ?_
        simp only [dsc_,dz_,tsc_,tz_]
        go_wp2_with fail
        refine ⟨⟨⟨_,Wc.out⟩,rfl⟩,?_⟩
        refine RX.walkR_move ?_
        simp only [dsc_,dz_,tsc_,tz_]
        go_wp2_with fail
        simp only [RX.walkR]
        have hb:=Wc.out
        have B13:=Lib.hid (B12.out.trans (hb.mono B12.out.size))
        replace T1:=Lib.hid (heap_kept T1.out hb nr_)
        replace T2:=Lib.hid (heap_kept T2.out hb nr_)
        replace HX:=Lib.hid (HX.out.below hb)
        replace HY:=Lib.hid (HY.out.below hb)
        clear hb Wc B12
        generalize wc=w13 at *
        have hfl:fl=if (-xh) * (dy:Int) / ((-yl) * (dx:Int))=(-xl) * (dy:Int) / ((-yl) * (dx:Int)) then some ((-xh) * (dy:Int) / ((-yl) * (dx:Int))) else none:=by
         rw [Hf.out]
         unfold flS
         rw [if_pos (show yh≤0 by omega)]
         unfold flE LN.quoL LN.quoH
         rw [if_neg (show ¬ (-yh)≤0 by omega),if_neg (show ¬ (-xh) < 0 by omega),if_pos (show (-xl) < 0 by omega)]
        have hsame:=same_itx ((-xh) * (dy:Int) / ((-yl) * (dx:Int))) ((-xl) * (dy:Int) / ((-yl) * (dx:Int)))
        clear Hf
        generalize (-xh) * (dy:Int) / ((-yl) * (dx:Int))=q1 at *
        generalize (-xl) * (dy:Int) / ((-yl) * (dx:Int))=q2 at *
        by_cases hqq:q1=q2
        ·rw [if_pos hqq] at hfl
         rw [decide_eq_true hqq] at hsame
         have Hans:=Lib.hid (Hspec.out _ hfl)
         clear hfl hqq Hspec Hnx
         go_wp2_with fail
         go_ret
         exact ⟨⟨q1,rfl,Hans.out⟩,B13.out⟩
        ·rw [if_neg hqq] at hfl
         rw [decide_eq_false hqq] at hsame
         obtain ⟨hn2,hp2⟩:=Hnx.out hfl
         have Hp2:=Lib.hid hp2
         clear hfl hqq Hspec Hnx hp2
         go_wp2_with fail
         go_roundw
         case rel=>exact ⟨n * 2,Hp2,hn2,rfl,B13,T1,T2,HX,HY⟩
         case measure=>simp [intOf]; omega
       ·have hsg:¬ (-xl).sign < 0:=by have:=sign_cases (-xl); omega
        generalize (-xl).sign=sg at *
        obtain ⟨k0,k1,k2,-⟩:=obj_cells3 T1.out
        obtain ⟨m0,m1,m2,-⟩:=obj_cells3 T2.out
        have s2:=BW.cell k2
        have r2:=BW.cell m2
        have hnon:Nonempty (BW w11):=⟨⟨w11,Below.refl _ _⟩⟩
        have I:Hid (Below w11.heap.size w11 w11.drew):=(Below.refl _ _).drew
        go_wp2_with fail
        clear k0 k1 k2 m0 m1 m2
        refine RX.wp_region_readers 15 [(1,0),(1,1),(1,2),(1,4),(1,5),(1,6),(0,3),(0,7),(0,8),(2,9),(2,10),(2,11),(2,12),(0,13),(0,14),(0,15)] (fun w'=>∃ p:BW w11,w'=p.w) (by kernel_rfl) (by kernel_rfl) ?_ ?_
        ·exact ⟨⟨_,I.out⟩,rfl⟩
        iterate 6 (refine RX.walkR_read ?_; simp only [dsc_,dz_,tsc_,tz_]; go_big_quiet_step (fail); refine wpQuiet_nil ?_)
        clear hnon s2 r2
        refine RX.walkR_move ?_
        simp only [dsc_,dz_,tsc_,tz_]
        go_wp2_with fail
        refine Calls.mono (HMg.out (-xh) _ (by omega) (B11.out.drew)) ?_
        rintro e_ wa ⟨rfl,hb⟩
        have Wa:Hid (Below w11.heap.size w11 wa):=(Below.refl w11.heap.size w11).drew.trans hb
        clear hb I
        go_wp2_with fail
        refine ⟨⟨⟨_,Wa.out⟩,rfl⟩,?_⟩
        refine RX.walkR_move ?_
        simp only [dsc_,dz_,tsc_,tz_]
        go_wp2_with fail
        refine Calls.mono (HMd.out (-yl) _ (by omega) (B11.out.trans (Wa.out.mono B11.out.size))) ?_
        rintro e_ wb ⟨rfl,hb⟩
        have Wb:=Lib.hid (Wa.out.trans (hb.mono Wa.out.size))
        clear hb Wa
        go_wp2_with fail
        refine ⟨⟨⟨_,Wb.out⟩,rfl⟩,?_⟩
        refine RX.walkR_move ?_
        simp only [dsc_,dz_,tsc_,tz_]
        go_wp2_with fail
        refine Calls.mono (HDv.out (-xh) (-yl) _ (by omega) (by omega) (by omega) (B11.out.trans (Wb.out.mono B11.out.size))) ?_
        rintro e_ wc ⟨rfl,hb⟩
        have Wc:=Lib.hid (Wb.out.trans (hb.mono Wb.out.size))
        clear hb Wb
        go_wp2_with fail
        refine ⟨⟨⟨_,Wc.out⟩,rfl⟩,?_⟩
        refine RX.walkR_any ?_
        simp only [dsc_,dz_,tsc_,tz_]
        go_big_quiet_step (fail)
        refine wpQuiet_nil ?_
        refine RX.walkR_any ?_
        simp only [dsc_,dz_,tsc_,tz_]
        go_big_quiet_step (fail)
        refine wpQuiet_nil ?_
        refine RX.walkR_any ?_
        simp only [dsc_,dz_,tsc_,tz_]
        go_big_quiet_step (fail)
        refine wpQuiet_nil ?_
        refine RX.walkR_any ?_
        simp only [dsc_,dz_,tsc_,tz_]
        go_big_quiet_step (fail)
        refine wpQuiet_nil ?_
        refine RX.walkR_move ?_
        simp only [dsc_,dz_,tsc_,tz_]
        go_wp2_with fail
        refine ⟨⟨⟨_,Wc.out⟩,rfl⟩,?_⟩
        refine RX.walkR_move ?_
        simp only [dsc_,dz_,tsc_,tz_]
        go_wp2_with fail
        refine ⟨⟨⟨_,Wc.out⟩,rfl⟩,?_⟩
        refine RX.walkR_move ?_
        simp only [dsc_,dz_,tsc_,tz_]
        go_wp2_with fail
        simp only [RX.walkR]
        have hb:=Wc.out
        have B12:=Lib.hid (B11.out.trans (hb.mono B11.out.size))
        replace T1:=Lib.hid (heap_kept T1.out hb nr_)
        replace T2:=Lib.hid (heap_kept T2.out hb nr_)
        replace HX:=Lib.hid (HX.out.below hb)
        replace HY:=Lib.hid (HY.out.below hb)
        clear hb Wc B11
        generalize wc=w12 at *
        go_wp2_with fail
        obtain ⟨k0,k1,k2,-⟩:=obj_cells3 T1.out
        obtain ⟨m0,m1,m2,-⟩:=obj_cells3 T2.out
        have s2:=BW.cell k2
        have r2:=BW.cell m2
        have hnon:Nonempty (BW w12):=⟨⟨w12,Below.refl _ _⟩⟩
        have I:Hid (Below w12.heap.size w12 w12.drew):=(Below.refl _ _).drew
        go_wp2_with fail
        clear k0 k1 k2 m0 m1 m2
        refine RX.wp_region_readers 15 [(1,0),(1,1),(1,2),(1,4),(1,5),(1,6),(0,3),(0,7),(0,8),(2,9),(2,10),(2,11),(2,12),(0,13),(0,14),(0,15)] (fun w'=>∃ p:BW w12,w'=p.w) (by kernel_rfl) (by kernel_rfl) ?_ ?_
        ·exact ⟨⟨_,I.out⟩,rfl⟩
        iterate 6 (refine RX.walkR_read ?_; simp only [dsc_,dz_,tsc_,tz_]; go_big_quiet_step (fail); refine wpQuiet_nil ?_)
        clear hnon s2 r2
        refine RX.walkR_move ?_
        simp only [dsc_,dz_,tsc_,tz_]
        go_wp2_with fail
        refine Calls.mono (HMg.out (-xl) _ (by omega) (B12.out.drew)) ?_
        rintro e_ wa ⟨rfl,hb⟩
        have Wa:Hid (Below w12.heap.size w12 wa):=(Below.refl w12.heap.size w12).drew.trans hb
        clear hb I
        go_wp2_with fail
        refine ⟨⟨⟨_,Wa.out⟩,rfl⟩,?_⟩
        refine RX.walkR_move ?_
        simp only [dsc_,dz_,tsc_,tz_]
        go_wp2_with fail
        refine Calls.mono (HMd.out (-yh) _ (by omega) (B12.out.trans (Wa.out.mono B12.out.size))) ?_
        rintro e_ wb ⟨rfl,hb⟩
        have Wb:=Lib.hid (Wa.out.trans (hb.mono Wa.out.size))
        clear hb Wa
        go_wp2_with fail
        refine ⟨⟨⟨_,Wb.out⟩,rfl⟩,?_⟩
        refine RX.walkR_move ?_
        simp only [dsc_,dz_,tsc_,tz_]
        go_wp2_with fail
        refine Calls.mono (HDv.out (-xl) (-yh) _ (by omega) (by omega) (by omega) (B12.out.trans (Wb.out.mono B12.out.size))) ?_
        rintro e_ wc ⟨rfl,hb⟩
        have Wc:=Lib.hid (Wb.out.trans (hb.mono Wb.out.size))
        clear hb Wb
        go_wp2_with fail
        refine ⟨⟨⟨_,Wc.out⟩,rfl⟩,?_⟩
        refine RX.walkR_any ?_
        simp only [dsc_,dz_,tsc_,tz_]
        go_big_quiet_step (fail)
        refine wpQuiet_nil ?_
        refine RX.walkR_any ?_
        simp only [dsc_,dz_,tsc_,tz_]
        go_big_quiet_step (fail)
        refine wpQuiet_nil ?_
        refine RX.walkR_any ?_
        simp only [dsc_,dz_,tsc_,tz_]
        go_big_quiet_step (fail)
        refine wpQuiet_nil ?_
        refine RX.walkR_any ?_
        simp only [dsc_,dz_,tsc_,tz_]
        go_big_quiet_step (fail)
        refine wpQuiet_nil ?_
        refine RX.walkR_move ?_
        simp only [dsc_,dz_,tsc_,tz_]
        go_wp2_with fail
        refine ⟨⟨⟨_,Wc.out⟩,rfl⟩,?_⟩
        refine RX.walkR_move ?_
        simp only [dsc_,dz_,tsc_,tz_]
        go_wp2_with fail
        refine ⟨⟨⟨_,Wc.out⟩,rfl⟩,?_⟩
        refine RX.walkR_move ?_
        simp only [dsc_,dz_,tsc_,tz_]
        go_wp2_with fail
        simp only [RX.walkR]
        have hb:=Wc.out
        have B13:=Lib.hid (B12.out.trans (hb.mono B12.out.size))
        replace T1:=Lib.hid (heap_kept T1.out hb nr_)
        replace T2:=Lib.hid (heap_kept T2.out hb nr_)
        replace HX:=Lib.hid (HX.out.below hb)
        replace HY:=Lib.hid (HY.out.below hb)
        clear hb Wc B12
        generalize wc=w13 at *
        have hfl:fl=if (-xh) * (dy:Int) / ((-yl) * (dx:Int))=(-xl) * (dy:Int) / ((-yh) * (dx:Int)) then some ((-xh) * (dy:Int) / ((-yl) * (dx:Int))) else none:=by
         rw [Hf.out]
         unfold flS
         rw [if_pos (show yh≤0 by omega)]
         unfold flE LN.quoL LN.quoH
         rw [if_neg (show ¬ (-yh)≤0 by omega),if_neg (show ¬ (-xh) < 0 by omega),if_neg (show ¬ (-xl) < 0 by omega)]
        have hsame:=same_itx ((-xh) * (dy:Int) / ((-yl) * (dx:Int))) ((-xl) * (dy:Int) / ((-yh) * (dx:Int)))
        clear Hf
        generalize (-xh) * (dy:Int) / ((-yl) * (dx:Int))=q1 at *
        generalize (-xl) * (dy:Int) / ((-yh) * (dx:Int))=q2 at *
        by_cases hqq:q1=q2
        ·rw [if_pos hqq] at hfl
         rw [decide_eq_true hqq] at hsame
         have Hans:=Lib.hid (Hspec.out _ hfl)
         clear hfl hqq Hspec Hnx
         go_wp2_with fail
         go_ret
         exact ⟨⟨q1,rfl,Hans.out⟩,B13.out⟩
        ·rw [if_neg hqq] at hfl
         rw [decide_eq_false hqq] at hsame
         obtain ⟨hn2,hp2⟩:=Hnx.out hfl
         have Hp2:=Lib.hid hp2
         clear hfl hqq Hspec Hnx hp2
         go_wp2_with fail
         go_roundw
         case rel=>exact ⟨n * 2,Hp2,hn2,rfl,B13,T1,T2,HX,HY⟩
         case measure=>simp [intOf]; omega
    ·have hsg0:¬ yh.sign≤0:=by have:=sign_cases yh; omega
     generalize yh.sign=sg0 at *
     go_wp2_with fail
     refine Calls.mono (HS.out yl _) ?_
     rintro e_ w5 ⟨rfl,hb⟩
     have B5:=Lib.hid (B4.out.trans (hb.mono B4.out.size))
     replace T1:=Lib.hid (heap_kept T1.out hb nr_)
     replace T2:=Lib.hid (heap_kept T2.out hb nr_)
     replace HX:=Lib.hid (HX.out.below hb)
     replace HY:=Lib.hid (HY.out.below hb)
     clear hb B4
     by_cases hyl2:yl≤0
     ·have hsg:yl.sign≤0:=by have:=sign_cases yl; omega
      have hfl:fl=none:=by
       rw [Hf.out]
       unfold flS
       rw [if_neg (by omega)]
       unfold flE
       rw [if_pos (by omega)]
      obtain ⟨hn2,hp2⟩:=Hnx.out hfl
      have Hp2:=Lib.hid hp2
      clear hfl Hspec Hnx hp2 Hf
      generalize yl.sign=sg at *
      go_wp2_with fail
      go_roundw
      case rel=>exact ⟨n * 2,Hp2,hn2,rfl,B5,T1,T2,HX,HY⟩
      case measure=>simp [intOf]; omega
     ·have hsg:0 < yl.sign:=by have:=sign_cases yl; omega
      generalize yl.sign=sg at *
      go_wp2_with fail
      clear hsg
      refine Calls.mono (HS.out xl _) ?_
      rintro e_ w6 ⟨rfl,hb⟩
      have B6:=Lib.hid (B5.out.trans (hb.mono B5.out.size))
      replace T1:=Lib.hid (heap_kept T1.out hb nr_)
      replace T2:=Lib.hid (heap_kept T2.out hb nr_)
      replace HX:=Lib.hid (HX.out.below hb)
      replace HY:=Lib.hid (HY.out.below hb)
      clear hb B5
      by_cases hx1:xl < 0
      ·have hsg:xl.sign < 0:=by have:=sign_cases xl; omega
       generalize xl.sign=sg at *
       go_wp2_with fail
       clear hsg
       refine Calls.mono (HS.out xh _) ?_
       rintro e_ w7 ⟨rfl,hb⟩
       have B7:=Lib.hid (B6.out.trans (hb.mono B6.out.size))
       replace T1:=Lib.hid (heap_kept T1.out hb nr_)
       replace T2:=Lib.hid (heap_kept T2.out hb nr_)
       replace HX:=Lib.hid (HX.out.below hb)
       replace HY:=Lib.hid (HY.out.below hb)
       clear hb B6
       by_cases hx2:xh < 0
       ·have hsg:xh.sign < 0:=by have:=sign_cases xh; omega
        generalize xh.sign=sg at *
        obtain ⟨k0,k1,k2,-⟩:=obj_cells3 T1.out
        obtain ⟨m0,m1,m2,-⟩:=obj_cells3 T2.out
        have s2:=BW.cell k2
        have r2:=BW.cell m2
        have hnon:Nonempty (BW w7):=⟨⟨w7,Below.refl _ _⟩⟩
        have I:Hid (Below w7.heap.size w7 w7.drew):=(Below.refl _ _).drew
        go_wp2_with fail
        clear k0 k1 k2 m0 m1 m2
        refine RX.wp_region_readers 15 [(1,0),(1,1),(1,2),(1,4),(1,5),(1,6),(0,3),(0,7),(0,8),(2,9),(2,10),(2,11),(2,12),(0,13),(0,14),(0,15)] (fun w'=>∃ p:BW w7,w'=p.w) (by kernel_rfl) (by kernel_rfl) ?_ ?_
        ·exact ⟨⟨_,I.out⟩,rfl⟩
        iterate 6 (refine RX.walkR_read ?_; simp only [dsc_,dz_,tsc_,tz_]; go_big_quiet_step (fail); refine wpQuiet_nil ?_)
        clear hnon s2 r2
        refine RX.walkR_move ?_
        simp only [dsc_,dz_,tsc_,tz_]
        go_wp2_with fail
        refine Calls.mono (HMg.out xl _ (by omega) (B7.out.drew)) ?_
        rintro e_ wa ⟨rfl,hb⟩
        have Wa:Hid (Below w7.heap.size w7 wa):=(Below.refl w7.heap.size w7).drew.trans hb
        clear hb I
        go_wp2_with fail
        refine ⟨⟨⟨_,Wa.out⟩,rfl⟩,?_⟩
        refine RX.walkR_move ?_
        simp only [dsc_,dz_,tsc_,tz_]
        go_wp2_with fail
        refine Calls.mono (HMd.out yl _ (by omega) (B7.out.trans (Wa.out.mono B7.out.size))) ?_
        rintro e_ wb ⟨rfl,hb⟩
        have Wb:=Lib.hid (Wa.out.trans (hb.mono Wa.out.size))
        clear hb Wa
        go_wp2_with fail
        refine ⟨⟨⟨_,Wb.out⟩,rfl⟩,?_⟩
        refine RX.walkR_move ?_
        simp only [dsc_,dz_,tsc_,tz_]
        go_wp2_with fail
        refine Calls.mono (HDv.out xl yl _ (by omega) (by omega) (by omega) (B7.out.trans (Wb.out.mono B7.out.size))) ?_
        rintro e_ wc ⟨rfl,hb⟩
        have Wc:=Lib.hid (Wb.out.trans (hb.mono Wb.out.size))
        clear hb Wb
        go_wp2_with fail
        refine ⟨⟨⟨_,Wc.out⟩,rfl⟩,?_⟩
        refine RX.walkR_any ?_
        simp only [dsc_,dz_,tsc_,tz_]
        go_big_quiet_step (fail)
        refine wpQuiet_nil ?_
        refine RX.walkR_any ?_
        simp only [dsc_,dz_,tsc_,tz_]
        go_big_quiet_step (fail)
        refine wpQuiet_nil ?_
        refine RX.walkR_any ?_
        simp only [dsc_,dz_,tsc_,tz_]
        go_big_quiet_step (fail)
        refine wpQuiet_nil ?_
        refine RX.walkR_any ?_
        simp only [dsc_,dz_,tsc_,tz_]
        go_big_quiet_step (fail)
        refine wpQuiet_nil ?_
        refine RX.walkR_move ?_
        simp only [dsc_,dz_,tsc_,tz_]
        go_wp2_with fail
        refine ⟨⟨⟨_,Wc.out⟩,rfl⟩,?_⟩
        refine RX.walkR_move ?_
        simp only [dsc_,dz_,tsc_,tz_]
        go_wp2_with fail
        refine ⟨⟨⟨_,Wc.out⟩,rfl⟩,?_⟩
        refine RX.walkR_move ?_
        simp only [dsc_,dz_,tsc_,tz_]
        go_wp2_with fail
        simp only [RX.walkR]
        have hb:=Wc.out
        have B8:=Lib.hid (B7.out.trans (hb.mono B7.out.size))
        replace T1:=Lib.hid (heap_kept T1.out hb nr_)
        replace T2:=Lib.hid (heap_kept T2.out hb nr_)
        replace HX:=Lib.hid (HX.out.below hb)
        replace HY:=Lib.hid (HY.out.below hb)
        clear hb Wc B7
        generalize wc=w8 at *
        go_wp2_with fail
        obtain ⟨k0,k1,k2,-⟩:=obj_cells3 T1.out
        obtain ⟨m0,m1,m2,-⟩:=obj_cells3 T2.out
        have s2:=BW.cell k2
        have r2:=BW.cell m2
        have hnon:Nonempty (BW w8):=⟨⟨w8,Below.refl _ _⟩⟩
        have I:Hid (Below w8.heap.size w8 w8.drew):=(Below.refl _ _).drew
        go_wp2_with fail
        clear k0 k1 k2 m0 m1 m2
        refine RX.wp_region_readers 15 [(1,0),(1,1),(1,2),(1,4),(1,5),(1,6),(0,3),(0,7),(0,8),(2,9),(2,10),(2,11),(2,12),(0,13),(0,14),(0,15)] (fun w'=>∃ p:BW w8,w'=p.w) (by kernel_rfl) (by kernel_rfl) ?_ ?_
        ·exact ⟨⟨_,I.out⟩,rfl⟩
        iterate 6 (refine RX.walkR_read ?_; simp only [dsc_,dz_,tsc_,tz_]; go_big_quiet_step (fail); refine wpQuiet_nil ?_)
        clear hnon s2 r2
        refine RX.walkR_move ?_
        simp only [dsc_,dz_,tsc_,tz_]
        go_wp2_with fail
        refine Calls.mono (HMg.out xh _ (by omega) (B8.out.drew)) ?_
        rintro e_ wa ⟨rfl,hb⟩
        have Wa:Hid (Below w8.heap.size w8 wa):=(Below.refl w8.heap.size w8).drew.trans hb
        clear hb I
        go_wp2_with fail
        refine ⟨⟨⟨_,Wa.out⟩,rfl⟩,?_⟩
        refine RX.walkR_move ?_
        simp only [dsc_,dz_,tsc_,tz_]
        go_wp2_with fail
        refine Calls.mono (HMd.out yh _ (by omega) (B8.out.trans (Wa.out.mono B8.out.size))) ?_
        rintro e_ wb ⟨rfl,hb⟩
        have Wb:=Lib.hid (Wa.out.trans (hb.mono Wa.out.size))
        clear hb Wa
        go_wp2_with fail
        refine ⟨⟨⟨_,Wb.out⟩,rfl⟩,?_⟩
        refine RX.walkR_move ?_
        simp only [dsc_,dz_,tsc_,tz_]
        go_wp2_with fail
        refine Calls.mono (HDv.out xh yh _ (by omega) (by omega) (by omega) (B8.out.trans (Wb.out.mono B8.out.size))) ?_
        rintro e_ wc ⟨rfl,hb⟩
        have Wc:=Lib.hid (Wb.out.trans (hb.mono Wb.out.size))
        clear hb Wb
        go_wp2_with fail
        refine ⟨⟨⟨_,Wc.out⟩,rfl⟩,?_⟩
        refine RX.walkR_any ?_
        simp only [dsc_,dz_,tsc_,tz_]
        go_big_quiet_step (fail)
        refine wpQuiet_nil ?_
        refine RX.walkR_any ?_
        simp only [dsc_,dz_,tsc_,tz_]
        go_big_quiet_step (fail)
        refine wpQuiet_nil ?_
        refine RX.walkR_any ?_
        simp only [dsc_,dz_,tsc_,tz_]
        go_big_quiet_step (fail)
        refine wpQuiet_nil ?_
        refine RX.walkR_any ?_
        simp only [dsc_,dz_,tsc_,tz_]
        go_big_quiet_step (fail)
        refine wpQuiet_nil ?_
        refine RX.walkR_move ?_
        simp only [dsc_,dz_,tsc_,tz_]
        go_wp2_with fail
        refine ⟨⟨⟨_,Wc.out⟩,rfl⟩,?_⟩
        refine RX.walkR_move ?_
        simp only [dsc_,dz_,tsc_,tz_]
        go_wp2_with fail
        refine ⟨⟨⟨_,Wc.out⟩,rfl⟩,?_⟩
        refine RX.walkR_move ?_
        simp only [dsc_,dz_,tsc_,tz_]
        go_wp2_with fail
        simp only [RX.walkR]
        have hb:=Wc.out
        have B9:=Lib.hid (B8.out.trans (hb.mono B8.out.size))
        replace T1:=Lib.hid (heap_kept T1.out hb nr_)
        replace T2:=Lib.hid (heap_kept T2.out hb nr_)
        replace HX:=Lib.hid (HX.out.below hb)
        replace HY:=Lib.hid (HY.out.below hb)
        clear hb Wc B8
        generalize wc=w9 at *
        have hfl:fl=if xl * (dy:Int) / (yl * (dx:Int))=xh * (dy:Int) / (yh * (dx:Int)) then some (xl * (dy:Int) / (yl * (dx:Int))) else none:=by
         rw [Hf.out]
         unfold flS
         rw [if_neg (show ¬ yh≤0 by omega)]
         unfold flE LN.quoL LN.quoH
         rw [if_neg (show ¬ yl≤0 by omega),if_pos (show xl < 0 by omega),if_pos (show xh < 0 by omega)]
        have hsame:=same_itx (xl * (dy:Int) / (yl * (dx:Int))) (xh * (dy:Int) / (yh * (dx:Int)))
        clear Hf
        generalize xl * (dy:Int) / (yl * (dx:Int))=q1 at *
        generalize xh * (dy:Int) / (yh * (dx:Int))=q2 at *
        by_cases hqq:q1=q2
        ·rw [if_pos hqq] at hfl
         rw [decide_eq_true hqq] at hsame
         have Hans:=Lib.hid (Hspec.out _ hfl)
         clear hfl hqq Hspec Hnx
         go_wp2_with fail
         go_ret
         exact ⟨⟨q1,rfl,Hans.out⟩,B9.out⟩
        ·rw [if_neg hqq] at hfl
         rw [decide_eq_false hqq] at hsame
         obtain ⟨hn2,hp2⟩:=Hnx.out hfl
         have Hp2:=Lib.hid hp2
         clear hfl hqq Hspec Hnx hp2
         go_wp2_with fail
         go_roundw
         case rel=>exact ⟨n * 2,Hp2,hn2,rfl,B9,T1,T2,HX,HY⟩
         case measure=>simp [intOf]; omega
       ·have hsg:¬ xh.sign < 0:=by have:=sign_cases xh; omega
        generalize xh.sign=sg at *
        obtain ⟨k0,k1,k2,-⟩:=obj_cells3 T1.out
        obtain ⟨m0,m1,m2,-⟩:=obj_cells3 T2.out
        have s2:=BW.cell k2
        have r2:=BW.cell m2
        have hnon:Nonempty (BW w7):=⟨⟨w7,Below.refl _ _⟩⟩
        have I:Hid (Below w7.heap.size w7 w7.drew):=(Below.refl _ _).drew
        go_wp2_with fail
        clear k0 k1 k2 m0 m1 m2
        refine RX.wp_region_readers 15 [(1,0),(1,1),(1,2),(1,4),(1,5),(1,6),(0,3),(0,7),(0,8),(2,9),(2,10),(2,11),(2,12),(0,13),(0,14),(0,15)] (fun w'=>∃ p:BW w7,w'=p.w) (by kernel_rfl) (by kernel_rfl) ?_ ?_
        ·exact ⟨⟨_,I.out⟩,rfl⟩
        iterate 6 (refine RX.walkR_read ?_; simp only [dsc_,dz_,tsc_,tz_]; go_big_quiet_step (fail); refine wpQuiet_nil ?_)
        clear hnon s2 r2
        refine RX.walkR_move ?_
        simp only [dsc_,dz_,tsc_,tz_]
        go_wp2_with fail
        refine Calls.mono (HMg.out xl _ (by omega) (B7.out.drew)) ?_
        rintro e_ wa ⟨rfl,hb⟩
        have Wa:Hid (Below w7.heap.size w7 wa):=(Below.refl w7.heap.size w7).drew.trans hb
        clear hb I
        go_wp2_with fail
        refine ⟨⟨⟨_,Wa.out⟩,rfl⟩,?_⟩
        refine RX.walkR_move ?_
        simp only [dsc_,dz_,tsc_,tz_]
        go_wp2_with fail
        refine Calls.mono (HMd.out yl _ (by omega) (B7.out.trans (Wa.out.mono B7.out.size))) ?_
        rintro e_ wb ⟨rfl,hb⟩
        have Wb:=Lib.hid (Wa.out.trans (hb.mono Wa.out.size))
        clear hb Wa
        go_wp2_with fail
        refine ⟨⟨⟨_,Wb.out⟩,rfl⟩,?_⟩
        refine RX.walkR_move ?_
        simp only [dsc_,dz_,tsc_,tz_]
        go_wp2_with fail
        refine Calls.mono (HDv.out xl yl _ (by omega) (by omega) (by omega) (B7.out.trans (Wb.out.mono B7.out.size))) ?_
        rintro e_ wc ⟨rfl,hb⟩
        have Wc:=Lib.hid (Wb.out.trans (hb.mono Wb.out.size))
        clear hb Wb
        go_wp2_with fail
        refine ⟨⟨⟨_,Wc.out⟩,rfl⟩,?_⟩
        refine RX.walkR_any ?_
        simp only [dsc_,dz_,tsc_,tz_]
        go_big_quiet_step (fail)
        refine wpQuiet_nil ?_
        refine RX.walkR_any ?_
        simp only [dsc_,dz_,tsc_,tz_]
        go_big_quiet_step (fail)
        refine wpQuiet_nil ?_
        refine RX.walkR_any ?_
        simp only [dsc_,dz_,tsc_,tz_]
        go_big_quiet_step (fail)
        refine wpQuiet_nil ?_
        refine RX.walkR_any ?_
        simp only [dsc_,dz_,tsc_,tz_]
        go_big_quiet_step (fail)
        refine wpQuiet_nil ?_
        refine RX.walkR_move ?_
        simp only [dsc_,dz_,tsc_,tz_]
        go_wp2_with fail
        refine ⟨⟨⟨_,Wc.out⟩,rfl⟩,?_⟩
        refine RX.walkR_move ?_
        simp only [dsc_,dz_,tsc_,tz_]
        go_wp2_with fail
        refine ⟨⟨⟨_,Wc.out⟩,rfl⟩,?_⟩
        refine RX.walkR_move ?_
        simp only [dsc_,dz_,tsc_,tz_]
        go_wp2_with fail
        simp only [RX.walkR]
        have hb:=Wc.out
        have B8:=Lib.hid (B7.out.trans (hb.mono B7.out.size))
        replace T1:=Lib.hid (heap_kept T1.out hb nr_)
        replace T2:=Lib.hid (heap_kept T2.out hb nr_)
        replace HX:=Lib.hid (HX.out.below hb)
        replace HY:=Lib.hid (HY.out.below hb)
        clear hb Wc B7
        generalize wc=w8 at *
        go_wp2_with fail
        obtain ⟨k0,k1,k2,-⟩:=obj_cells3 T1.out
        obtain ⟨m0,m1,m2,-⟩:=obj_cells3 T2.out
        have s2:=BW.cell k2
        have r2:=BW.cell m2
        have hnon:Nonempty (BW w8):=⟨⟨w8,Below.refl _ _⟩⟩
        have I:Hid (Below w8.heap.size w8 w8.drew):=(Below.refl _ _).drew
        go_wp2_with fail
        clear k0 k1 k2 m0 m1 m2
        refine RX.wp_region_readers 15 [(1,0),(1,1),(1,2),(1,4),(1,5),(1,6),(0,3),(0,7),(0,8),(2,9),(2,10),(2,11),(2,12),(0,13),(0,14),(0,15)] (fun w'=>∃ p:BW w8,w'=p.w) (by kernel_rfl) (by kernel_rfl) ?_ ?_
        ·exact ⟨⟨_,I.out⟩,rfl⟩
        iterate 6 (refine RX.walkR_read ?_; simp only [dsc_,dz_,tsc_,tz_]; go_big_quiet_step (fail); refine wpQuiet_nil ?_)
        clear hnon s2 r2
        refine RX.walkR_move ?_
        simp only [dsc_,dz_,tsc_,tz_]
        go_wp2_with fail
        refine Calls.mono (HMg.out xh _ (by omega) (B8.out.drew)) ?_
        rintro e_ wa ⟨rfl,hb⟩
        have Wa:Hid (Below w8.heap.size w8 wa):=(Below.refl w8.heap.size w8).drew.trans hb
        clear hb I
        go_wp2_with fail
        refine ⟨⟨⟨_,Wa.out⟩,rfl⟩,?_⟩
        refine RX.walkR_move ?_
        simp only [dsc_,dz_,tsc_,tz_]
        go_wp2_with fail
        refine Calls.mono (HMd.out yl _ (by omega) (B8.out.trans (Wa.out.mono B8.out.size))) ?_
        rintro e_ wb ⟨rfl,hb⟩
        have Wb:=Lib.hid (Wa.out.trans (hb.mono Wa.out.size))
        clear hb Wa
        go_wp2_with fail
        refine ⟨⟨⟨_,Wb.out⟩,rfl⟩,?_⟩
        refine RX.walkR_move ?_
        simp only [dsc_,dz_,tsc_,tz_]
        go_wp2_with fail
        refine Calls.mono (HDv.out xh yl _ (by omega) (by omega) (by omega) (B8.out.trans (Wb.out.mono B8.out.size))) ?_
        rintro e_ wc ⟨rfl,hb⟩
        have Wc:=Lib.hid (Wb.out.trans (hb.mono Wb.out.size))
        clear hb Wb
        go_wp2_with fail
        refine ⟨⟨⟨_,Wc.out⟩,rfl⟩,?_⟩
        refine RX.walkR_any ?_
        simp only [dsc_,dz_,tsc_,tz_]
        go_big_quiet_step (fail)
        refine wpQuiet_nil ?_
        refine RX.walkR_any ?_
        simp only [dsc_,dz_,tsc_,tz_]
        go_big_quiet_step (fail)
        refine wpQuiet_nil ?_
        refine RX.walkR_any ?_
        simp only [dsc_,dz_,tsc_,tz_]
        go_big_quiet_step (fail)
        refine wpQuiet_nil ?_
        refine RX.walkR_any ?_
        simp only [dsc_,dz_,tsc_,tz_]
        go_big_quiet_step (fail)
        refine wpQuiet_nil ?_
        refine RX.walkR_move ?_
        simp only [dsc_,dz_,tsc_,tz_]
        go_wp2_with fail
        refine ⟨⟨⟨_,Wc.out⟩,rfl⟩,?_⟩
        refine RX.walkR_move ?_
        simp only [dsc_,dz_,tsc_,tz_]
        go_wp2_with fail
        refine ⟨⟨⟨_,Wc.out⟩,rfl⟩,?_⟩
        refine RX.walkR_move ?_
        simp only [dsc_,dz_,tsc_,tz_]
        go_wp2_with fail
        simp only [RX.walkR]
        have hb:=Wc.out
        have B9:=Lib.hid (B8.out.trans (hb.mono B8.out.size))
        replace T1:=Lib.hid (heap_kept T1.out hb nr_)
        replace T2:=Lib.hid (heap_kept T2.out hb nr_)
        replace HX:=Lib.hid (HX.out.below hb)
        replace HY:=Lib.hid (HY.out.below hb)
        clear hb Wc B8
        generalize wc=w9 at *
        have hfl:fl=if xl * (dy:Int) / (yl * (dx:Int))=xh * (dy:Int) / (yl * (dx:Int)) then some (xl * (dy:Int) / (yl * (dx:Int))) else none:=by
         rw [Hf.out]
         unfold flS
         rw [if_neg (show ¬ yh≤0 by omega)]
         unfold flE LN.quoL LN.quoH
         rw [if_neg (show ¬ yl≤0 by omega),if_pos (show xl < 0 by omega),if_neg (show ¬ xh < 0 by omega)]
        have hsame:=same_itx (xl * (dy:Int) / (yl * (dx:Int))) (xh * (dy:Int) / (yl * (dx:Int)))
        clear Hf
        generalize xl * (dy:Int) / (yl * (dx:Int))=q1 at *
        generalize xh * (dy:Int) / (yl * (dx:Int))=q2 at *
        by_cases hqq:q1=q2
        ·rw [if_pos hqq] at hfl
         rw [decide_eq_true hqq] at hsame
         have Hans:=Lib.hid (Hspec.out _ hfl)
         clear hfl hqq Hspec Hnx
         go_wp2_with fail
         go_ret
         exact ⟨⟨q1,rfl,Hans.out⟩,B9.out⟩
        ·rw [if_neg hqq] at hfl
         rw [decide_eq_false hqq] at hsame
         obtain ⟨hn2,hp2⟩:=Hnx.out hfl
         have Hp2:=Lib.hid hp2
         clear hfl hqq Hspec Hnx hp2
         go_wp2_with fail
         go_roundw
         case rel=>exact ⟨n * 2,Hp2,hn2,rfl,B9,T1,T2,HX,HY⟩
         case measure=>simp [intOf]; omega
      ·have hsg:¬ xl.sign < 0:=by have:=sign_cases xl; omega
       generalize xl.sign=sg at *
       go_wp2_with fail
       clear hsg
       refine Calls.mono (HS.out xh _) ?_
       rintro e_ w7 ⟨rfl,hb⟩
       have B7:=Lib.hid (B6.out.trans (hb.mono B6.out.size))
       replace T1:=Lib.hid (heap_kept T1.out hb nr_)
       replace T2:=Lib.hid (heap_kept T2.out hb nr_)
       replace HX:=Lib.hid (HX.out.below hb)
       replace HY:=Lib.hid (HY.out.below hb)
       clear hb B6
       by_cases hx2:xh < 0
       ·have hsg:xh.sign < 0:=by have:=sign_cases xh; omega
        generalize xh.sign=sg at *
        obtain ⟨k0,k1,k2,-⟩:=obj_cells3 T1.out
        obtain ⟨m0,m1,m2,-⟩:=obj_cells3 T2.out
        have s2:=BW.cell k2
        have r2:=BW.cell m2
        have hnon:Nonempty (BW w7):=⟨⟨w7,Below.refl _ _⟩⟩
        have I:Hid (Below w7.heap.size w7 w7.drew):=(Below.refl _ _).drew
        go_wp2_with fail
        clear k0 k1 k2 m0 m1 m2
        refine RX.wp_region_readers 15 [(1,0),(1,1),(1,2),(1,4),(1,5),(1,6),(0,3),(0,7),(0,8),(2,9),(2,10),(2,11),(2,12),(0,13),(0,14),(0,15)] (fun w'=>∃ p:BW w7,w'=p.w) (by kernel_rfl) (by kernel_rfl) ?_ ?_
        ·exact ⟨⟨_,I.out⟩,rfl⟩
        iterate 6 (refine RX.walkR_read ?_; simp only [dsc_,dz_,tsc_,tz_]; go_big_quiet_step (fail); refine wpQuiet_nil ?_)
        clear hnon s2 r2
        refine RX.walkR_move ?_
        simp only [dsc_,dz_,tsc_,tz_]
        go_wp2_with fail
        refine Calls.mono (HMg.out xl _ (by omega) (B7.out.drew)) ?_
        rintro e_ wa ⟨rfl,hb⟩
        have Wa:Hid (Below w7.heap.size w7 wa):=(Below.refl w7.heap.size w7).drew.trans hb
        clear hb I
        go_wp2_with fail
        refine ⟨⟨⟨_,Wa.out⟩,rfl⟩,?_⟩
        refine RX.walkR_move ?_
        simp only [dsc_,dz_,tsc_,tz_]
        go_wp2_with fail
        refine Calls.mono (HMd.out yh _ (by omega) (B7.out.trans (Wa.out.mono B7.out.size))) ?_
        rintro e_ wb ⟨rfl,hb⟩
        have Wb:=Lib.hid (Wa.out.trans (hb.mono Wa.out.size))
        clear hb Wa
        go_wp2_with fail
        refine ⟨⟨⟨_,Wb.out⟩,rfl⟩,?_⟩
        refine RX.walkR_move ?_
        simp only [dsc_,dz_,tsc_,tz_]
        go_wp2_with fail
        refine Calls.mono (HDv.out xl yh _ (by omega) (by omega) (by omega) (B7.out.trans (Wb.out.mono B7.out.size))) ?_
        rintro e_ wc ⟨rfl,hb⟩
        have Wc:=Lib.hid (Wb.out.trans (hb.mono Wb.out.size))
        clear hb Wb
        go_wp2_with fail
        refine ⟨⟨⟨_,Wc.out⟩,rfl⟩,?_⟩
        refine RX.walkR_any ?_
        simp only [dsc_,dz_,tsc_,tz_]
        go_big_quiet_step (fail)
        refine wpQuiet_nil ?_
        refine RX.walkR_any ?_
        simp only [dsc_,dz_,tsc_,tz_]
        go_big_quiet_step (fail)
        refine wpQuiet_nil ?_
        refine RX.walkR_any ?_
        simp only [dsc_,dz_,tsc_,tz_]
        go_big_quiet_step (fail)
        refine wpQuiet_nil ?_
        refine RX.walkR_any ?_
        simp only [dsc_,dz_,tsc_,tz_]
        go_big_quiet_step (fail)
        refine wpQuiet_nil ?_
        refine RX.walkR_move ?_
        simp only [dsc_,dz_,tsc_,tz_]
        go_wp2_with fail
        refine ⟨⟨⟨_,Wc.out⟩,rfl⟩,?_⟩
        refine RX.walkR_move ?_
        simp only [dsc_,dz_,tsc_,tz_]
        go_wp2_with fail
        refine ⟨⟨⟨_,Wc.out⟩,rfl⟩,?_⟩
        refine RX.walkR_move ?_
        simp only [dsc_,dz_,tsc_,tz_]
        go_wp2_with fail
        simp only [RX.walkR]
        have hb:=Wc.out
        have B8:=Lib.hid (B7.out.trans (hb.mono B7.out.size))
        replace T1:=Lib.hid (heap_kept T1.out hb nr_)
        replace T2:=Lib.hid (heap_kept T2.out hb nr_)
        replace HX:=Lib.hid (HX.out.below hb)
        replace HY:=Lib.hid (HY.out.below hb)
        clear hb Wc B7
        generalize wc=w8 at *
        go_wp2_with fail
        obtain ⟨k0,k1,k2,-⟩:=obj_cells3 T1.out
        obtain ⟨m0,m1,m2,-⟩:=obj_cells3 T2.out
        have s2:=BW.cell k2
        have r2:=BW.cell m2
        have hnon:Nonempty (BW w8):=⟨⟨w8,Below.refl _ _⟩⟩
        have I:Hid (Below w8.heap.size w8 w8.drew):=(Below.refl _ _).drew
        go_wp2_with fail
        clear k0 k1 k2 m0 m1 m2
        refine RX.wp_region_readers 15 [(1,0),(1,1),(1,2),(1,4),(1,5),(1,6),(0,3),(0,7),(0,8),(2,9),(2,10),(2,11),(2,12),(0,13),(0,14),(0,15)] (fun w'=>∃ p:BW w8,w'=p.w) (by kernel_rfl) (by kernel_rfl) ?_ ?_
        ·exact ⟨⟨_,I.out⟩,rfl⟩
        iterate 6 (refine RX.walkR_read ?_; simp only [dsc_,dz_,tsc_,tz_]; go_big_quiet_step (fail); refine wpQuiet_nil ?_)
        clear hnon s2 r2
        refine RX.walkR_move ?_
        simp only [dsc_,dz_,tsc_,tz_]
        go_wp2_with fail
        refine Calls.mono (HMg.out xh _ (by omega) (B8.out.drew)) ?_
        rintro e_ wa ⟨rfl,hb⟩
        have Wa:Hid (Below w8.heap.size w8 wa):=(Below.refl w8.heap.size w8).drew.trans hb
        clear hb I
        go_wp2_with fail
        refine ⟨⟨⟨_,Wa.out⟩,rfl⟩,?_⟩
        refine RX.walkR_move ?_
        simp only [dsc_,dz_,tsc_,tz_]
        go_wp2_with fail
        refine Calls.mono (HMd.out yh _ (by omega) (B8.out.trans (Wa.out.mono B8.out.size))) ?_
        rintro e_ wb ⟨rfl,hb⟩
        have Wb:=Lib.hid (Wa.out.trans (hb.mono Wa.out.size))
        clear hb Wa
        go_wp2_with fail
        refine ⟨⟨⟨_,Wb.out⟩,rfl⟩,?_⟩
        refine RX.walkR_move ?_
        simp only [dsc_,dz_,tsc_,tz_]
        go_wp2_with fail
        refine Calls.mono (HDv.out xh yh _ (by omega) (by omega) (by omega) (B8.out.trans (Wb.out.mono B8.out.size))) ?_
        rintro e_ wc ⟨rfl,hb⟩
        have Wc:=Lib.hid (Wb.out.trans (hb.mono Wb.out.size))
        clear hb Wb
        go_wp2_with fail
        refine ⟨⟨⟨_,Wc.out⟩,rfl⟩,?_⟩
        refine RX.walkR_any ?_
        simp only [dsc_,dz_,tsc_,tz_]
        go_big_quiet_step (fail)
        refine wpQuiet_nil ?_
        refine RX.walkR_any ?_
        simp only [dsc_,dz_,tsc_,tz_]
        go_big_quiet_step (fail)
        refine wpQuiet_nil ?_
        refine RX.walkR_any ?_
        simp only [dsc_,dz_,tsc_,tz_]
        go_big_quiet_step (fail)
        refine wpQuiet_nil ?_
        refine RX.walkR_any ?_
        simp only [dsc_,dz_,tsc_,tz_]
        go_big_quiet_step (fail)
        refine wpQuiet_nil ?_
        refine RX.walkR_move ?_
        simp only [dsc_,dz_,tsc_,tz_]
        go_wp2_with fail
        refine ⟨⟨⟨_,Wc.out⟩,rfl⟩,?_⟩
        refine RX.walkR_move ?_
        simp only [dsc_,dz_,tsc_,tz_]
        go_wp2_with fail
        refine ⟨⟨⟨_,Wc.out⟩,rfl⟩,?_⟩
        refine RX.walkR_move ?_
        simp only [dsc_,dz_,tsc_,tz_]
        go_wp2_with fail
        simp only [RX.walkR]
        have hb:=Wc.out
        have B9:=Lib.hid (B8.out.trans (hb.mono B8.out.size))
        replace T1:=Lib.hid (heap_kept T1.out hb nr_)
        replace T2:=Lib.hid (heap_kept T2.out hb nr_)
        replace HX:=Lib.hid (HX.out.below hb)
        replace HY:=Lib.hid (HY.out.below hb)
        clear hb Wc B8
        generalize wc=w9 at *
        have hfl:fl=if xl * (dy:Int) / (yh * (dx:Int))=xh * (dy:Int) / (yh * (dx:Int)) then some (xl * (dy:Int) / (yh * (dx:Int))) else none:=by
         rw [Hf.out]
         unfold flS
         rw [if_neg (show ¬ yh≤0 by omega)]
         unfold flE LN.quoL LN.quoH
         rw [if_neg (show ¬ yl≤0 by omega),if_neg (show ¬ xl < 0 by omega),if_pos (show xh < 0 by omega)]
        have hsame:=same_itx (xl * (dy:Int) / (yh * (dx:Int))) (xh * (dy:Int) / (yh * (dx:Int)))
        clear Hf
        generalize xl * (dy:Int) / (yh * (dx:Int))=q1 at *
        generalize xh * (dy:Int) / (yh * (dx:Int))=q2 at *
        by_cases hqq:q1=q2
        ·rw [if_pos hqq] at hfl
         rw [decide_eq_true hqq] at hsame
         have Hans:=Lib.hid (Hspec.out _ hfl)
         clear hfl hqq Hspec Hnx
         go_wp2_with fail
         go_ret
         exact ⟨⟨q1,rfl,Hans.out⟩,B9.out⟩
        ·rw [if_neg hqq] at hfl
         rw [decide_eq_false hqq] at hsame
         obtain ⟨hn2,hp2⟩:=Hnx.out hfl
         have Hp2:=Lib.hid hp2
         clear hfl hqq Hspec Hnx hp2
         go_wp2_with fail
         go_roundw
         case rel=>exact ⟨n * 2,Hp2,hn2,rfl,B9,T1,T2,HX,HY⟩
         case measure=>simp [intOf]; omega
       ·have hsg:¬ xh.sign < 0:=by have:=sign_cases xh; omega
        generalize xh.sign=sg at *
        obtain ⟨k0,k1,k2,-⟩:=obj_cells3 T1.out
        obtain ⟨m0,m1,m2,-⟩:=obj_cells3 T2.out
        have s2:=BW.cell k2
        have r2:=BW.cell m2
        have hnon:Nonempty (BW w7):=⟨⟨w7,Below.refl _ _⟩⟩
        have I:Hid (Below w7.heap.size w7 w7.drew):=(Below.refl _ _).drew
        go_wp2_with fail
        clear k0 k1 k2 m0 m1 m2
        refine RX.wp_region_readers 15 [(1,0),(1,1),(1,2),(1,4),(1,5),(1,6),(0,3),(0,7),(0,8),(2,9),(2,10),(2,11),(2,12),(0,13),(0,14),(0,15)] (fun w'=>∃ p:BW w7,w'=p.w) (by kernel_rfl) (by kernel_rfl) ?_ ?_
        ·exact ⟨⟨_,I.out⟩,rfl⟩
        iterate 6 (refine RX.walkR_read ?_; simp only [dsc_,dz_,tsc_,tz_]; go_big_quiet_step (fail); refine wpQuiet_nil ?_)
        clear hnon s2 r2
        refine RX.walkR_move ?_
        simp only [dsc_,dz_,tsc_,tz_]
        go_wp2_with fail
        refine Calls.mono (HMg.out xl _ (by omega) (B7.out.drew)) ?_
        rintro e_ wa ⟨rfl,hb⟩
        have Wa:Hid (Below w7.heap.size w7 wa):=(Below.refl w7.heap.size w7).drew.trans hb
        clear hb I
        go_wp2_with fail
        refine ⟨⟨⟨_,Wa.out⟩,rfl⟩,?_⟩
        refine RX.walkR_move ?_
        simp only [dsc_,dz_,tsc_,tz_]
        go_wp2_with fail
        refine Calls.mono (HMd.out yh _ (by omega) (B7.out.trans (Wa.out.mono B7.out.size))) ?_
        rintro e_ wb ⟨rfl,hb⟩
        have Wb:=Lib.hid (Wa.out.trans (hb.mono Wa.out.size))
        clear hb Wa
        go_wp2_with fail
        refine ⟨⟨⟨_,Wb.out⟩,rfl⟩,?_⟩
        refine RX.walkR_move ?_
        simp only [dsc_,dz_,tsc_,tz_]
        go_wp2_with fail
        refine Calls.mono (HDv.out xl yh _ (by omega) (by omega) (by omega) (B7.out.trans (Wb.out.mono B7.out.size))) ?_
        rintro e_ wc ⟨rfl,hb⟩
        have Wc:=Lib.hid (Wb.out.trans (hb.mono Wb.out.size))
        clear hb Wb
        go_wp2_with fail
        refine ⟨⟨⟨_,Wc.out⟩,rfl⟩,?_⟩
        refine RX.walkR_any ?_
        simp only [dsc_,dz_,tsc_,tz_]
        go_big_quiet_step (fail)
        refine wpQuiet_nil ?_
        refine RX.walkR_any ?_
        simp only [dsc_,dz_,tsc_,tz_]
        go_big_quiet_step (fail)
        refine wpQuiet_nil ?_
        refine RX.walkR_any ?_
        simp only [dsc_,dz_,tsc_,tz_]
        go_big_quiet_step (fail)
        refine wpQuiet_nil ?_
        refine RX.walkR_any ?_
        simp only [dsc_,dz_,tsc_,tz_]
        go_big_quiet_step (fail)
        refine wpQuiet_nil ?_
        refine RX.walkR_move ?_
        simp only [dsc_,dz_,tsc_,tz_]
        go_wp2_with fail
        refine ⟨⟨⟨_,Wc.out⟩,rfl⟩,?_⟩
        refine RX.walkR_move ?_
        simp only [dsc_,dz_,tsc_,tz_]
        go_wp2_with fail
        refine ⟨⟨⟨_,Wc.out⟩,rfl⟩,?_⟩
        refine RX.walkR_move ?_
        simp only [dsc_,dz_,tsc_,tz_]
        go_wp2_with fail
        simp only [RX.walkR]
        have hb:=Wc.out
        have B8:=Lib.hid (B7.out.trans (hb.mono B7.out.size))
        replace T1:=Lib.hid (heap_kept T1.out hb nr_)
        replace T2:=Lib.hid (heap_kept T2.out hb nr_)
        replace HX:=Lib.hid (HX.out.below hb)
        replace HY:=Lib.hid (HY.out.below hb)
        clear hb Wc B7
        generalize wc=w8 at *
        go_wp2_with fail
        obtain ⟨k0,k1,k2,-⟩:=obj_cells3 T1.out
        obtain ⟨m0,m1,m2,-⟩:=obj_cells3 T2.out
        have s2:=BW.cell k2
        have r2:=BW.cell m2
        have hnon:Nonempty (BW w8):=⟨⟨w8,Below.refl _ _⟩⟩
        have I:Hid (Below w8.heap.size w8 w8.drew):=(Below.refl _ _).drew
        go_wp2_with fail
        clear k0 k1 k2 m0 m1 m2
        refine RX.wp_region_readers 15 [(1,0),(1,1),(1,2),(1,4),(1,5),(1,6),(0,3),(0,7),(0,8),(2,9),(2,10),(2,11),(2,12),(0,13),(0,14),(0,15)] (fun w'=>∃ p:BW w8,w'=p.w) (by kernel_rfl) (by kernel_rfl) ?_ ?_
        ·exact ⟨⟨_,I.out⟩,rfl⟩
        iterate 6 (refine RX.walkR_read ?_; simp only [dsc_,dz_,tsc_,tz_]; go_big_quiet_step (fail); refine wpQuiet_nil ?_)
        clear hnon s2 r2
        refine RX.walkR_move ?_
        simp only [dsc_,dz_,tsc_,tz_]
        go_wp2_with fail
        refine Calls.mono (HMg.out xh _ (by omega) (B8.out.drew)) ?_
        rintro e_ wa ⟨rfl,hb⟩
        have Wa:Hid (Below w8.heap.size w8 wa):=(Below.refl w8.heap.size w8).drew.trans hb
        clear hb I
        go_wp2_with fail
        refine ⟨⟨⟨_,Wa.out⟩,rfl⟩,?_⟩
        refine RX.walkR_move ?_
        simp only [dsc_,dz_,tsc_,tz_]
        go_wp2_with fail
        refine Calls.mono (HMd.out yl _ (by omega) (B8.out.trans (Wa.out.mono B8.out.size))) ?_
        rintro e_ wb ⟨rfl,hb⟩
        have Wb:=Lib.hid (Wa.out.trans (hb.mono Wa.out.size))
        clear hb Wa
        go_wp2_with fail
        refine ⟨⟨⟨_,Wb.out⟩,rfl⟩,?_⟩
        refine RX.walkR_move ?_
        simp only [dsc_,dz_,tsc_,tz_]
        go_wp2_with fail
        refine Calls.mono (HDv.out xh yl _ (by omega) (by omega) (by omega) (B8.out.trans (Wb.out.mono B8.out.size))) ?_
        rintro e_ wc ⟨rfl,hb⟩
        have Wc:=Lib.hid (Wb.out.trans (hb.mono Wb.out.size))
        clear hb Wb
        go_wp2_with fail
        refine ⟨⟨⟨_,Wc.out⟩,rfl⟩,?_⟩
        refine RX.walkR_any ?_
        simp only [dsc_,dz_,tsc_,tz_]
        go_big_quiet_step (fail)
        refine wpQuiet_nil ?_
        refine RX.walkR_any ?_
        simp only [dsc_,dz_,tsc_,tz_]
        go_big_quiet_step (fail)
        refine wpQuiet_nil ?_
        refine RX.walkR_any ?_
        simp only [dsc_,dz_,tsc_,tz_]
        go_big_quiet_step (fail)
        refine wpQuiet_nil ?_
        refine RX.walkR_any ?_
        simp only [dsc_,dz_,tsc_,tz_]
        go_big_quiet_step (fail)
        refine wpQuiet_nil ?_
        refine RX.walkR_move ?_
        simp only [dsc_,dz_,tsc_,tz_]
        go_wp2_with fail
        refine ⟨⟨⟨_,Wc.out⟩,rfl⟩,?_⟩
        refine RX.walkR_move ?_
        simp only [dsc_,dz_,tsc_,tz_]
        go_wp2_with fail
        refine ⟨⟨⟨_,Wc.out⟩,rfl⟩,?_⟩
        refine RX.walkR_move ?_
        simp only [dsc_,dz_,tsc_,tz_]
        go_wp2_with fail
        simp only [RX.walkR]
        have hb:=Wc.out
        have B9:=Lib.hid (B8.out.trans (hb.mono B8.out.size))
        replace T1:=Lib.hid (heap_kept T1.out hb nr_)
        replace T2:=Lib.hid (heap_kept T2.out hb nr_)
        replace HX:=Lib.hid (HX.out.below hb)
        replace HY:=Lib.hid (HY.out.below hb)
        clear hb Wc B8
        generalize wc=w9 at *
        have hfl:fl=if xl * (dy:Int) / (yh * (dx:Int))=xh * (dy:Int) / (yl * (dx:Int)) then some (xl * (dy:Int) / (yh * (dx:Int))) else none:=by
         rw [Hf.out]
         unfold flS
         rw [if_neg (show ¬ yh≤0 by omega)]
         unfold flE LN.quoL LN.quoH
         rw [if_neg (show ¬ yl≤0 by omega),if_neg (show ¬ xl < 0 by omega),if_neg (show ¬ xh < 0 by omega)]
        have hsame:=same_itx (xl * (dy:Int) / (yh * (dx:Int))) (xh * (dy:Int) / (yl * (dx:Int)))
        clear Hf
        generalize xl * (dy:Int) / (yh * (dx:Int))=q1 at *
        generalize xh * (dy:Int) / (yl * (dx:Int))=q2 at *
        by_cases hqq:q1=q2
        ·rw [if_pos hqq] at hfl
         rw [decide_eq_true hqq] at hsame
         have Hans:=Lib.hid (Hspec.out _ hfl)
         clear hfl hqq Hspec Hnx
         go_wp2_with fail
         go_ret
         exact ⟨⟨q1,rfl,Hans.out⟩,B9.out⟩
        ·rw [if_neg hqq] at hfl
         rw [decide_eq_false hqq] at hsame
         obtain ⟨hn2,hp2⟩:=Hnx.out hfl
         have Hp2:=Lib.hid hp2
         clear hfl hqq Hspec Hnx hp2
         go_wp2_with fail
         go_roundw
         case rel=>exact ⟨n * 2,Hp2,hn2,rfl,B9,T1,T2,HX,HY⟩
         case measure=>simp [intOf]; omega
end Go.Proofs.YtlomhfknmhaboaaGreatDoor

namespace Go.Proofs.YtlomhfknmhaboaaGreatDoor
open Go.RowKit
theorem eLo_neg (f:Int→Nat) (l:List (Int×Int)):LN.eLo f (LN.negT l) = - LN.eHi f l∧LN.eHi f (LN.negT l) = - LN.eLo f l:=by
 rw [LN.eLo_eq,LN.eHi_eq,LN.eLo_eq,LN.eHi_eq,LN.negT_negT]
 omega
theorem sumT_neg (f:Int→Nat) (l:List (Int×Int)):LN.sumT f (LN.negT l) = - LN.sumT f l:=by
 rw [LN.sumT_eq,LN.sumT_eq,LN.negT_negT]
 omega
theorem ends_near (f:Int→Nat) (K:Nat) (l:List (Int×Int)) (h:∀ x∈l,x.2.natAbs≤K) :
  LN.eLo f l≤LN.sumT f l∧LN.sumT f l≤LN.eHi f l∧LN.eHi f l≤LN.sumT f l + (l.length * K:Nat)∧LN.sumT f l≤LN.eLo f l + (l.length * K:Nat):=by
 have h1:=LN.hiS_le f K l h
 have h2:=LN.hiS_le f K (LN.negT l) (by
  intro x hx
  obtain ⟨y,hy,rfl⟩:=List.mem_map.1 hx
  have:=h y hy
  show (-y.2).natAbs≤K
  omega)
 have e:(LN.negT l).length=l.length:=by simp [LN.negT]
 rw [e] at h2
 have h3:∀ l:List (Int×Int),LN.loS f l≤LN.hiS f l:=by
  intro l
  induction l with
  | nil=>exact Nat.le_refl _
  | cons x l ih =>
   rw [LN.loS,LN.hiS]
   refine Nat.add_le_add (Nat.mul_le_mul_left _ ?_) ih
   unfold LN.hiL; split <;> omega
 have h4:=h3 l
 have h5:=h3 (LN.negT l)
 rw [LN.eLo_eq,LN.eHi_eq,LN.sumT_eq]
 omega
theorem dotI_lin (a b:Int):∀ (u:List Int) (pr:List Int) (g h:Int→Int),LN.dotI u (pr.map fun p=>a * g p - b * h p)=a * LN.dotI u (pr.map g) - b * LN.dotI u (pr.map h)
 | [],_,_,_=>by simp [LN.dotI]
 | _ :: _,[],_,_=>by simp [LN.dotI]
 | c :: u,p :: pr,g,h=>by
  have ih:=dotI_lin a b u pr g h
  simp only [List.map_cons,LN.dotI]
  rw [ih]
  grind
theorem mul_abs_le {a b x y:Int} {W:Nat} (h1:x≤y + W) (h2:y≤x + W) (_:a=b):(a * x - b * y).natAbs≤a.natAbs * W:=by
 subst a
 rw [← Int.mul_sub,Int.natAbs_mul]
 exact Nat.mul_le_mul_left _ (by omega)
structure FNum (Kx Ky d g S R Wx Wy:Nat) (X:Nat):Prop where
 s:Wy < S
 r:X * g < R * (S - Wy)
 k:g * Kx + R * d * Ky≤LN.KA
 t:g * Wx + R * d * Wy < LN.SA
theorem quo_near {xl low Tx Ty:Int} {d g Wx Wy:Nat} (j:Int) (h1:Tx≤xl + Wx) (h2:xl≤Tx + Wx) (h3:Ty≤low + Wy) (h4:low≤Ty + Wy) (s:Bool) :
  (if s then j * (low * d)≤xl * g else xl * g < j * (low * d))→(if s then j * d * Ty≤g * Tx + (g * Wx + j.natAbs * d * Wy:Nat) else g * Tx - (g * Wx + j.natAbs * d * Wy:Nat)≤j * d * Ty):=by
 intro h
 have a1:=mul_abs_le (a:=(g:Int)) (b:=g) h1 h2 rfl
 have a2:=mul_abs_le (a:=j * (d:Int)) (b:=j * d) h3 h4 rfl
 rw [Int.natAbs_natCast] at a1
 rw [Int.natAbs_mul,Int.natAbs_natCast] at a2
 have e1:j * (low * (d:Int))=j * (d:Int) * low:=by grind
 have e2:xl * (g:Int)=(g:Int) * xl:=Int.mul_comm _ _
 rw [e1,e2] at h
 cases s with
 | true=>simp only [if_true] at h ⊢; omega
 | false =>
  rw [if_neg Bool.false_ne_true] at h ⊢
  omega
theorem flE_none {tx ty:List (Int×Int)} {f:Int→Nat} {Kx Ky d g S R X:Nat} (hd:0 < d) (hkx:∀ x∈tx,x.2.natAbs≤Kx) (hky:∀ x∈ty,x.2.natAbs≤Ky)
  (N:FNum Kx Ky d g S R (tx.length * Kx) (ty.length * Ky) X) (hS:(S:Int)≤LN.sumT f ty) (hX:(LN.eLo f tx).natAbs≤X∧(LN.eHi f tx).natAbs≤X)
  (hnone:flE (LN.eLo f tx) (LN.eHi f tx) (LN.eLo f ty) (LN.eHi f ty) g d=none):∃ j:Int,j.natAbs≤R∧(g * LN.sumT f tx - j * d * LN.sumT f ty).natAbs < LN.SA:=by
 obtain ⟨x1,x2,x3,x4⟩:=ends_near f Kx tx hkx
 obtain ⟨y1,y2,y3,y4⟩:=ends_near f Ky ty hky
 have hs:=N.s
 have ht:=N.t
 generalize tx.length * Kx=Wx at *
 generalize ty.length * Ky=Wy at *
 generalize LN.eLo f tx=xl at *
 generalize LN.eHi f tx=xh at *
 generalize LN.eLo f ty=yl at *
 generalize LN.eHi f ty=yh at *
 generalize LN.sumT f tx=Tx at *
 generalize LN.sumT f ty=Ty at *
 have hyl:0 < yl:=by omega
 unfold flE at hnone
 rw [if_neg (by omega)] at hnone
 -- a quotient is not too great
 have hR:∀ (x low:Int),x.natAbs≤X→((S - Wy:Nat):Int)≤low→(x * g / (low * d)).natAbs≤R:=by
  intro x low hx hl
  have hr:=N.r
  have hp:0 < low * (d:Int):=Int.mul_pos (by omega) (by omega)
  have h1:=Int.ediv_mul_le (x * (g:Int)) (show low * (d:Int)≠0 by omega)
  have h2:=Int.lt_ediv_add_one_mul_self (x * (g:Int)) hp
  have h3:(x * (g:Int)).natAbs≤X * g:=by rw [Int.natAbs_mul,Int.natAbs_natCast]; exact Nat.mul_le_mul_right _ hx
  have h4:((S - Wy:Nat):Int)≤low * (d:Int):=by
   have:low * 1≤low * (d:Int):=Int.mul_le_mul_of_nonneg_left (by omega) (by omega)
   omega
  generalize x * (g:Int) / (low * (d:Int))=q at *
  generalize low * (d:Int)=m at *
  generalize x * (g:Int)=v at *
  generalize X * g=V at *
  have hr2:(V:Int) < (R:Int) * ((S - Wy:Nat):Int):=by rw [← Int.natCast_mul]; exact Int.ofNat_lt.2 hr
  have hr3:(R:Int) * ((S - Wy:Nat):Int)≤(R:Int) * m:=Int.mul_le_mul_of_nonneg_left h4 (by omega)
  refine Nat.le_of_not_lt fun hc=>?_
  rcases Int.lt_or_le q 0 with hq | hq
  ·have h5:(q + 1) * m≤(-(R:Int)) * m:=Int.mul_le_mul_of_nonneg_right (by omega) (by omega)
   rw [Int.neg_mul] at h5
   omega
  ·have h5:(R:Int) * m≤q * m:=Int.mul_le_mul_of_nonneg_right (by omega) (by omega)
   omega
 have fin:∀ j:Int,j.natAbs≤R→j * d * Ty≤g * Tx + (g * Wx + j.natAbs * d * Wy:Nat)→g * Tx - (g * Wx + j.natAbs * d * Wy:Nat)≤j * d * Ty→(g * Tx - j * d * Ty).natAbs < LN.SA:=by
  intro j hj h1 h2
  have h3:j.natAbs * d * Wy≤R * d * Wy:=Nat.mul_le_mul_right _ (Nat.mul_le_mul_right _ hj)
  omega
 -- what low and high are
 obtain ⟨low,hlow,hl1,hl2,hl3⟩:∃ low,(if xl < 0 then yl else yh)=low∧Ty≤low + Wy∧low≤Ty + Wy∧((S - Wy:Nat):Int)≤low:=by
  by_cases h:xl < 0
  ·exact ⟨yl,if_pos h,by omega,by omega,by omega⟩
  ·exact ⟨yh,if_neg h,by omega,by omega,by omega⟩
 obtain ⟨high,hhigh,hh1,hh2,hh3⟩:∃ high,(if xh < 0 then yh else yl)=high∧Ty≤high + Wy∧high≤Ty + Wy∧((S - Wy:Nat):Int)≤high:=by
  by_cases h:xh < 0
  ·exact ⟨yh,if_pos h,by omega,by omega,by omega⟩
  ·exact ⟨yl,if_neg h,by omega,by omega,by omega⟩
 have hq:=hR xl low hX.1 hl3
 have hr:=hR xh high hX.2 hh3
 have p1:0 < low * (d:Int):=Int.mul_pos (by omega) (by omega)
 have p2:0 < high * (d:Int):=Int.mul_pos (by omega) (by omega)
 have q1:=Int.ediv_mul_le (xl * (g:Int)) (show low * (d:Int)≠0 by omega)
 have q2:=Int.lt_ediv_add_one_mul_self (xl * (g:Int)) p1
 have r1:=Int.ediv_mul_le (xh * (g:Int)) (show high * (d:Int)≠0 by omega)
 have r2:=Int.lt_ediv_add_one_mul_self (xh * (g:Int)) p2
 unfold LN.quoL LN.quoH at hnone
 rw [hlow,hhigh] at hnone
 generalize xl * (g:Int) / (low * (d:Int))=q at *
 generalize xh * (g:Int) / (high * (d:Int))=r at *
 have hne:q≠r:=fun e=>by rw [if_pos e] at hnone; cases hnone
 rcases Int.lt_or_gt_of_ne hne with h | h
 ·refine ⟨r,hr,fin r hr ?_ ?_⟩
  ·have:=quo_near (xl:=xh) (low:=high) (Tx:=Tx) (Ty:=Ty) (d:=d) (g:=g) (Wx:=Wx) (Wy:=Wy) r (by omega) (by omega) hh1 hh2 true (by simpa using r1)
   simpa using this
  ·have h5:(q + 1) * (low * (d:Int))≤r * (low * (d:Int)):=Int.mul_le_mul_of_nonneg_right (by omega) (by omega)
   have:=quo_near (xl:=xl) (low:=low) (Tx:=Tx) (Ty:=Ty) (d:=d) (g:=g) (Wx:=Wx) (Wy:=Wy) r (by omega) (by omega) hl1 hl2 false (by rw [if_neg Bool.false_ne_true]; omega)
   rw [if_neg Bool.false_ne_true] at this
   exact this
 ·refine ⟨q,hq,fin q hq ?_ ?_⟩
  ·have:=quo_near (xl:=xl) (low:=low) (Tx:=Tx) (Ty:=Ty) (d:=d) (g:=g) (Wx:=Wx) (Wy:=Wy) q (by omega) (by omega) hl1 hl2 true (by simpa using q1)
   simpa using this
  ·have h5:(r + 1) * (high * (d:Int))≤q * (high * (d:Int)):=Int.mul_le_mul_of_nonneg_right (by omega) (by omega)
   have:=quo_near (xl:=xh) (low:=high) (Tx:=Tx) (Ty:=Ty) (d:=d) (g:=g) (Wx:=Wx) (Wy:=Wy) q (by omega) (by omega) hh1 hh2 false (by rw [if_neg Bool.false_ne_true]; omega)
   rw [if_neg Bool.false_ne_true] at this
   exact this
end Go.Proofs.YtlomhfknmhaboaaGreatDoor

namespace Go.Proofs.YtlomhfknmhaboaaGreatDoor
open Go.RowKit
theorem primesL_small:∀ k,k < 10→(∀ p∈primesL k,p∈smallP)∧(primesL k).Nodup:=by decide +kernel
theorem smallP_pos {ps:List Int} (h:∀ p∈ps,p∈smallP):∀ p∈ps,0 < p:=fun p hp=>by
 have key:∀ q∈smallP,0 < q:=by decide
 exact key p (h p hp)
def Sml (N M:Nat) (l:List Rat):Prop:=∀ q∈l,q.den ∣ M∧(LN.ex M q).natAbs≤N
theorem Sml.le {N K M:Nat} {l:List Rat} (h:Sml N M l) (hK:N≤K):Sml K M l:=fun q hq=>⟨(h q hq).1,Nat.le_trans (h q hq).2 hK⟩
theorem ex_den {M:Nat} {q:Rat} (z:Int) (hM:0 < M) (h:q * (M:Rat)=(z:Rat)):q.den ∣ M∧LN.ex M q=z:=by
 have hM':(M:Rat)≠0:=by have:=Rat.natCast_pos.2 hM; grind
 have e:q=mkRat z M:=by
  rw [Rat.mkRat_eq_div]
  have:=Rat.mul_div_cancel (a:=q) hM'
  rw [← h]; exact this.symm
 have hd:q.den ∣ M:=by
  rw [e,LN.mkRat_den' _ _ (by omega)]
  exact Nat.div_dvd_of_dvd (Nat.gcd_dvd_right _ _)
 refine ⟨hd,?_⟩
 rw [← Rat.intCast_inj,LN.ex_eq hd,h]
theorem Sml.comb {N K M:Nat} {la lb:List Rat} (hM:0 < M) (ha:Sml N M la) (hb:Sml K M lb) (f g:Int):Sml (N * f.natAbs + K * g.natAbs) M (combineQ la lb (f:Rat) (g:Rat)):=by
 intro q hq
 obtain ⟨i,hi,rfl⟩:=List.mem_iff_getElem.1 hq
 have hi':i < la.length∧i < lb.length:=by simp [combineQ] at hi; omega
 simp only [combineQ,List.getElem_zipWith]
 obtain ⟨d1,n1⟩:=ha _ (List.getElem_mem hi'.1)
 obtain ⟨d2,n2⟩:=hb _ (List.getElem_mem hi'.2)
 have h:(la[i]'hi'.1 * (f:Rat) + lb[i]'hi'.2 * (g:Rat)) * (M:Rat)=((LN.ex M (la[i]'hi'.1) * f + LN.ex M (lb[i]'hi'.2) * g:Int):Rat):=by
  rw [Rat.intCast_add,Rat.intCast_mul,Rat.intCast_mul,LN.ex_eq d1,LN.ex_eq d2]
  grind
 obtain ⟨r1,r2⟩:=ex_den _ hM h
 refine ⟨r1,?_⟩
 rw [r2]
 refine Nat.le_trans (Int.natAbs_add_le _ _) ?_
 rw [Int.natAbs_mul,Int.natAbs_mul]
 exact Nat.add_le_add (Nat.mul_le_mul_right _ n1) (Nat.mul_le_mul_right _ n2)
theorem Sml.good {N M:Nat} {ps:List Int} {l:List Rat} (hM:0 < M) (h:Sml N M l) (hN:N≤Kb) (h1:∀ p∈ps,p∈smallP) (h2:ps.Nodup):Good ps l:=by
 refine ⟨h1,h2,fun x hx=>?_⟩
 obtain ⟨_,q,hq,_,he⟩:=tlist_mem hx
 have e:x.2=LN.ex (tden l) q:=he
 obtain ⟨m,hm⟩:=LN.tden_min (fun q hq=>(h q hq).1)
 have h3:=(h q hq).2
 rw [hm,Nat.mul_comm,LN.ex_mul (LN.tden_dvd hq),Int.natAbs_mul,Int.natAbs_natCast] at h3
 have hm0:0 < m:=by
  rcases Nat.eq_zero_or_pos m with h0 | h0
  ·rw [h0,Nat.mul_zero] at hm; omega
  ·exact h0
 rw [e]
 have h4:1 * (LN.ex (tden l) q).natAbs≤m * (LN.ex (tden l) q).natAbs:=Nat.mul_le_mul_right _ hm0
 omega
def difQ (la lb:List Rat):List Rat:=combineQ la lb ((1:Int):Rat) ((-1:Int):Rat)
theorem difQ_get (la lb:List Rat) (i:Nat) (h1:i < la.length) (h2:i < lb.length) (h:i < (difQ la lb).length):(difQ la lb)[i]=la[i] - lb[i]:=by
 simp only [difQ,combineQ,List.getElem_zipWith]
 grind
theorem difQ_length (la lb:List Rat) (h:la.length=lb.length):(difQ la lb).length=la.length:=combineQ_length _ _ _ _ h
theorem sz_ne {ps:List Int} {l:List Rat} (g:Good ps l) (hn:ps.length≤100) (hl:l.length=ps.length) (h:∃ q∈l,q≠0):LN.sz ps l≠0:=by
 have hne:tlQ ps l≠[]:=by
  obtain ⟨q,hq,h0⟩:=h
  obtain ⟨i,hi,rfl⟩:=List.mem_iff_getElem.1 hq
  intro e
  have hm:(ps[i]'(by omega),l[i].num * ((tden l / l[i].den:Nat):Int))∈tlQ ps l:=by
   unfold tlQ tlist
   refine List.mem_filterMap.2 ⟨(ps[i]'(by omega),l[i]),?_,?_⟩
   ·exact List.mem_iff_getElem.2 ⟨i,by simp; omega,by simp⟩
   ·rw [if_neg]
    intro hz
    exact h0 (Rat.num_eq_zero.1 hz)
  rw [e] at hm
  cases hm
 show LN.signT (tlQ ps l)≠0
 rcases g.dec hn hne with h | h
 ·rw [sign_of_lo g.trt (by decide) hne h]; decide
 ·rw [sign_of_hi g.trt (by decide) hne h]; decide
end Go.Proofs.YtlomhfknmhaboaaGreatDoor

namespace Go.Proofs.YtlomhfknmhaboaaGreatDoor
open Go.RowKit
theorem smallP_nd:smallP.Nodup:=by decide
theorem coefs_small {tx ty:List (Int×Int)} {d g Kx Ky R:Nat} {j:Int} (mx:∀ x∈tx,x.1∈smallP) (my:∀ x∈ty,x.1∈smallP) (nx:(tx.map Prod.fst).Nodup) (ny:(ty.map Prod.fst).Nodup)
  (hkx:∀ x∈tx,x.2.natAbs≤Kx) (hky:∀ x∈ty,x.2.natAbs≤Ky) (hj:j.natAbs≤R) (hk:g * Kx + R * d * Ky≤LN.KA)
  (h:(g * LN.sumT (lf 1024) tx - j * d * LN.sumT (lf 1024) ty).natAbs < LN.SA):∀ p∈smallP,(g:Int) * LN.coefP p tx=j * d * LN.coefP p ty:=by
 have hc:=LN.certA_ok
 rw [← certL_eq] at hc
 rw [← LN.dotI_coef (lf 1024) smallP smallP_nd tx mx,← LN.dotI_coef (lf 1024) smallP smallP_nd ty my,← dotI_lin] at h
 have hz:=LN.cert_zero hc (smallP.map fun p=>(g:Int) * LN.coefP p tx - j * d * LN.coefP p ty) (by simp) (by
  intro x hx
  obtain ⟨p,_,rfl⟩:=List.mem_map.1 hx
  have b1:=LN.coefP_le Kx tx nx hkx p
  have b2:=LN.coefP_le Ky ty ny hky p
  have c1:((g:Int) * LN.coefP p tx).natAbs≤g * Kx:=by rw [Int.natAbs_mul,Int.natAbs_natCast]; exact Nat.mul_le_mul_left _ b1
  have c2:(j * d * LN.coefP p ty).natAbs≤R * d * Ky:=by
   rw [Int.natAbs_mul,Int.natAbs_mul,Int.natAbs_natCast]
   exact Nat.mul_le_mul (Nat.mul_le_mul_right _ hj) b2
  omega) h
 intro p hp
 have:=hz _ (List.mem_map.2 ⟨p,hp,rfl⟩)
 omega
theorem sum_far' {a dd:Int} {U V:List (List Int)} {K S:Nat} (hb:LN.certOk a LN.certL U V dd K S=true) {ty:List (Int×Int)} (my:∀ x∈ty,x.1∈smallP) (ny:(ty.map Prod.fst).Nodup) (h0:∀ x∈ty,x.2≠0) (hne:ty≠[]) (hky:∀ x∈ty,x.2.natAbs≤K):S≤(LN.sumT (lf 1024) ty).natAbs:=by
 refine Nat.le_of_not_lt fun hc=>?_
 rw [← certL_eq] at hb
 rw [← LN.dotI_coef (lf 1024) smallP smallP_nd ty my] at hc
 have hz:=LN.cert_zero hb (smallP.map fun p=>LN.coefP p ty) (by simp) (by
  intro x hx
  obtain ⟨p,_,rfl⟩:=List.mem_map.1 hx
  exact LN.coefP_le _ ty ny hky p) hc
 match ty,hne with
 | x :: l,_ =>
  have h5:=hz _ (List.mem_map.2 ⟨x.1,my x List.mem_cons_self,rfl⟩)
  rw [LN.coefP_mem _ ny x List.mem_cons_self] at h5
  exact h0 x List.mem_cons_self h5
theorem sum_far {ty:List (Int×Int)} (my:∀ x∈ty,x.1∈smallP) (ny:(ty.map Prod.fst).Nodup) (h0:∀ x∈ty,x.2≠0) (hne:ty≠[]) (hky:∀ x∈ty,x.2.natAbs≤LN.KB):LN.SB≤(LN.sumT (lf 1024) ty).natAbs :=
 sum_far' LN.certB_ok my ny h0 hne hky
theorem coefP_tlist {D:Nat}:∀ (ps:List Int) (l:List Rat),ps.Nodup→l.length=ps.length→∀ (i:Nat) (h1:i < ps.length) (h2:i < l.length),LN.coefP ps[i] (tlist D ps l)=LN.ex D l[i]
 | [],_,_,_,i,h1,_=>absurd h1 (Nat.not_lt_zero i)
 | p :: ps,[],_,h,_,_,_=>by simp at h
 | p :: ps,q :: l,hd,hl,i,h1,h2=>by
  simp only [List.nodup_cons] at hd
  have key:tlist D (p :: ps) (q :: l)=(if q.num=0 then tlist D ps l else (p,LN.ex D q) :: tlist D ps l):=by
   unfold tlist
   rw [List.zip_cons_cons,List.filterMap_cons]
   by_cases h:q.num=0
   ·simp only [h,if_true]
   ·simp only [h,if_false]; rfl
  have hnot:LN.coefP p (tlist D ps l)=0:=LN.coefP_none p _ fun hm=>hd.1 ((tlist_fst D ps l).subset hm)
  rw [key]
  cases i with
  | zero =>
   simp only [List.getElem_cons_zero]
   by_cases h:q.num=0
   ·rw [if_pos h,hnot,LN.ex_zero q h]
   ·rw [if_neg h,LN.coefP,if_pos rfl,hnot]; simp
  | succ i =>
   simp only [List.getElem_cons_succ]
   have h1':i < ps.length:=by simpa using h1
   have h2':i < l.length:=by simpa using h2
   have ih:=coefP_tlist (D:=D) ps l hd.2 (by simpa using hl) i h1' h2'
   by_cases h:q.num=0
   ·rw [if_pos h]; exact ih
   ·rw [if_neg h,LN.coefP,if_neg (fun e:p=ps[i]=>hd.1 (by rw [e]; exact List.getElem_mem h1')),ih]; simp
theorem mult_of_coefs {ps:List Int} {la lb:List Rat} {j:Int} (hnd:ps.Nodup) (hps:∀ p∈ps,p∈smallP) (l1:la.length=ps.length) (l2:lb.length=ps.length)
  (h:∀ p∈smallP,((tden lb:Nat):Int) * LN.coefP p (tlQ ps la)=j * ((tden la:Nat):Int) * LN.coefP p (tlQ ps lb)):la=lb.map fun x=>(j:Rat) * x:=by
 refine List.ext_getElem (by simp; omega) fun i h1 h2=>?_
 have i2:i < lb.length:=by omega
 have i3:i < ps.length:=by omega
 have e:=h ps[i] (hps _ (List.getElem_mem i3))
 unfold tlQ at e
 rw [coefP_tlist ps la hnd l1 i i3 h1,coefP_tlist ps lb hnd l2 i i3 i2] at e
 rw [List.getElem_map]
 have e2:(((tden lb:Nat):Int) * LN.ex (tden la) la[i]:Int)=((j * ((tden la:Nat):Int) * LN.ex (tden lb) lb[i]:Int)):=e
 have e3:((((tden lb:Nat):Int) * LN.ex (tden la) la[i]:Int):Rat)=((j * ((tden la:Nat):Int) * LN.ex (tden lb) lb[i]:Int):Rat):=by rw [e2]
 rw [Rat.intCast_mul,Rat.intCast_mul,Rat.intCast_mul,LN.ex_eq (LN.tden_dvd (List.getElem_mem h1)),LN.ex_eq (LN.tden_dvd (List.getElem_mem i2)),Rat.intCast_natCast,Rat.intCast_natCast] at e3
 have n1:((tden la:Nat):Rat)≠0:=by have:=Rat.natCast_pos.2 (LN.tden_pos' la); grind
 have n2:((tden lb:Nat):Rat)≠0:=by have:=Rat.natCast_pos.2 (LN.tden_pos' lb); grind
 generalize ((tden la:Nat):Rat)=a at *
 generalize ((tden lb:Nat):Rat)=b at *
 have hab:a * b≠0:=by
  intro hz
  rcases Rat.mul_eq_zero.1 hz with h | h
  ·exact n1 h
  ·exact n2 h
 have e4:(a * b) * la[i]=(a * b) * ((j:Rat) * lb[i]):=by grind
 have e5:=Rat.mul_inv_cancel (a * b) hab
 calc la[i]=(a * b) * (a * b)⁻¹ * la[i]:=by rw [e5,Rat.one_mul]
  _=(a * b)⁻¹ * ((a * b) * la[i]):=by grind
  _=(a * b)⁻¹ * ((a * b) * ((j:Rat) * lb[i])):=by rw [e4]
  _=(a * b) * (a * b)⁻¹ * ((j:Rat) * lb[i]):=by grind
  _=(j:Rat) * lb[i]:=by rw [e5,Rat.one_mul]
theorem ratio_mult {la lb:List Rat} {k:Rat} (h:la=lb.map fun x=>k * x):∀ n,(∃ i,i < n∧lb.getD i 0≠0)→ratioK la lb n=k
 | 0,⟨i,hi,_⟩=>absurd hi (Nat.not_lt_zero i)
 | n + 1,⟨i,hi,h0⟩=>by
  unfold ratioK
  by_cases hz:lb.getD n 0=0
  ·rw [if_pos hz]
   refine ratio_mult h n ⟨i,?_,h0⟩
   rcases Nat.lt_or_ge i n with hlt | hge
   ·exact hlt
   ·have:i=n:=by omega
    rw [this] at h0
    exact absurd hz h0
  ·rw [if_neg hz]
   have hlt:n < lb.length:=by
    refine Nat.lt_of_not_le fun hc=>hz ?_
    rw [List.getD_eq_getElem?_getD,List.getElem?_eq_none hc]; rfl
   have e:la.getD n 0=k * lb.getD n 0:=by
    rw [h,List.getD_eq_getElem?_getD,List.getD_eq_getElem?_getD,List.getElem?_map,List.getElem?_eq_getElem hlt]; rfl
   rw [e]
   generalize lb.getD n 0=x at *
   rw [Rat.div_def,Rat.mul_assoc,Rat.mul_inv_cancel x hz,Rat.mul_one]
theorem ratioB_mult {la lb:List Rat} {k:Rat} (h:la=lb.map fun x=>k * x) (n:Nat) (h0:∃ i,i < n∧lb.getD i 0≠0):ratioB la lb n (ratioK la lb n)=true:=by
 rw [ratio_mult h n h0]
 refine decide_eq_true fun j _=>?_
 rw [h,List.getD_eq_getElem?_getD,List.getD_eq_getElem?_getD,List.getElem?_map]
 cases lb[j]? with
 | none=>show k * 0=0; rw [Rat.mul_zero]
 | some x=>rfl
theorem flAt_dec {ps:List Int} {la lb:List Rat} {Kx Ky R X S:Nat} (hps:∀ p∈ps,p∈smallP) (hnd:ps.Nodup) (l1:la.length=ps.length) (l2:lb.length=ps.length) (hkx:∀ x∈tlQ ps la,x.2.natAbs≤Kx) (hky:∀ x∈tlQ ps lb,x.2.natAbs≤Ky)
  (hne:tlQ ps lb≠[]) (hS:S≤(LN.sumT (lf 1024) (tlQ ps lb)).natAbs)
  (N:FNum Kx Ky (tden la) (tden lb) S R ((tlQ ps la).length * Kx) ((tlQ ps lb).length * Ky) X) (hX:(LN.eLo (lf 1024) (tlQ ps la)).natAbs≤X∧(LN.eHi (lf 1024) (tlQ ps la)).natAbs≤X)
  (hr:ratioB la lb ps.length (ratioK la lb ps.length)=false):flAt 1024 (tlQ ps la) (tlQ ps lb) (tden la) (tden lb)≠none:=by
 intro hnone
 have mx:∀ x∈tlQ ps la,x.1∈smallP:=fun x hx=>hps _ (tlist_mem hx).1
 have my:∀ x∈tlQ ps lb,x.1∈smallP:=fun x hx=>hps _ (tlist_mem hx).1
 have nx:((tlQ ps la).map Prod.fst).Nodup:=(tlist_fst _ ps la).nodup hnd
 have ny:((tlQ ps lb).map Prod.fst).Nodup:=(tlist_fst _ ps lb).nodup hnd
 have key:∃ j:Int,j.natAbs≤R∧(((tden lb:Nat):Int) * LN.sumT (lf 1024) (tlQ ps la) - j * ((tden la:Nat):Int) * LN.sumT (lf 1024) (tlQ ps lb)).natAbs < LN.SA:=by
  have hd:=LN.tden_pos' la
  obtain ⟨y1,y2,y3,y4⟩:=ends_near (lf 1024) Ky (tlQ ps lb) hky
  have hs:=N.s
  unfold flAt flS at hnone
  rcases Int.lt_or_le 0 (LN.sumT (lf 1024) (tlQ ps lb)) with hT | hT
  ·rw [if_neg (by omega)] at hnone
   exact flE_none hd hkx hky N (by omega) hX hnone
  ·rw [if_pos (by omega)] at hnone
   have len1:(LN.negT (tlQ ps la)).length=(tlQ ps la).length:=by simp [LN.negT]
   have len2:(LN.negT (tlQ ps lb)).length=(tlQ ps lb).length:=by simp [LN.negT]
   obtain ⟨a1,a2⟩:=eLo_neg (lf 1024) (tlQ ps la)
   obtain ⟨b1,b2⟩:=eLo_neg (lf 1024) (tlQ ps lb)
   have kneg:∀ {l:List (Int×Int)} {K:Nat},(∀ x∈l,x.2.natAbs≤K)→∀ x∈LN.negT l,x.2.natAbs≤K:=by
    intro l K h x hx
    obtain ⟨y,hy,rfl⟩:=List.mem_map.1 hx
    have:=h y hy
    show (-y.2).natAbs≤K
    omega
   obtain ⟨j,hj,hz⟩:=flE_none (f:=lf 1024) (tx:=LN.negT (tlQ ps la)) (ty:=LN.negT (tlQ ps lb)) (S:=S) (R:=R) (X:=X) hd (kneg hkx) (kneg hky) (by rw [len1,len2]; exact N) (by rw [sumT_neg]; omega) (by rw [a1,a2]; omega) (by rw [a1,a2,b1,b2]; exact hnone)
   refine ⟨j,hj,?_⟩
   rw [sumT_neg,sumT_neg,Int.mul_neg,Int.mul_neg] at hz
   omega
 obtain ⟨j,hj,hz⟩:=key
 have hm:=mult_of_coefs hnd hps l1 l2 (coefs_small mx my nx ny hkx hky hj N.k hz)
 have h0:∃ i,i < ps.length∧lb.getD i 0≠0:=by
  refine Classical.byContradiction fun hc=>hne ?_
  have hall:∀ q∈lb,q=0:=fun q hq=>by
   obtain ⟨i,hi,rfl⟩:=List.mem_iff_getElem.1 hq
   refine Classical.byContradiction fun h=>hc ⟨i,by omega,?_⟩
   rw [List.getD_eq_getElem?_getD,List.getElem?_eq_getElem hi]; exact h
  refine List.eq_nil_iff_forall_not_mem.2 fun x hx=>?_
  obtain ⟨_,q,hq,hn,_⟩:=tlist_mem hx
  exact hn (by rw [hall q hq]; rfl)
 rw [ratioB_mult hm ps.length h0] at hr
 cases hr
end Go.Proofs.YtlomhfknmhaboaaGreatDoor

namespace Go.Proofs.YtlomhfknmhaboaaGreatDoor
open Go.RowKit
def RB:Nat:=2 ^ 104
def XB:Nat:=6 * 2 ^ (13 + (1024 + 3))
theorem num_s:6 * 4096 < LN.SB:=by decide +kernel
theorem num_r:XB * 12 < RB * (LN.SB - 6 * 4096):=by decide +kernel
theorem num_k:12 * 4096 + RB * 12 * 4096≤LN.KA:=by decide +kernel
theorem num_t:12 * (6 * 4096) + RB * 12 * (6 * 4096) < LN.SA:=by decide +kernel
theorem num_kb:4096≤LN.KB:=by decide +kernel
set_option maxRecDepth 100000 in
theorem fnum_small {d g nx ny S R X:Nat} (hd:d≤12) (hg:g≤12) (hx:nx≤6) (hy:ny≤6) (h1:6 * 4096 < S) (h2:X * 12 < R * (S - 6 * 4096)) (h3:12 * 4096 + R * 12 * 4096≤LN.KA) (h4:12 * (6 * 4096) + R * 12 * (6 * 4096) < LN.SA) :
  FNum 4096 4096 d g S R (nx * 4096) (ny * 4096) X:=by
 have b1:nx * 4096≤6 * 4096:=Nat.mul_le_mul_right _ hx
 have b2:ny * 4096≤6 * 4096:=Nat.mul_le_mul_right _ hy
 have b3:R * d≤R * 12:=Nat.mul_le_mul_left _ hd
 refine ⟨by clear h2 h3 h4; omega,?_,?_,?_⟩
 ·have c1:X * g≤X * 12:=Nat.mul_le_mul_left _ hg
  have c2:R * (S - 6 * 4096)≤R * (S - ny * 4096):=Nat.mul_le_mul_left _ (by clear h2 h3 h4; omega)
  clear h3 h4
  omega
 ·have c1:R * d * 4096≤R * 12 * 4096:=Nat.mul_le_mul_right _ b3
  clear h2 h4
  omega
 ·have c1:R * d * (ny * 4096)≤R * 12 * (6 * 4096):=Nat.mul_le_mul b3 b2
  have c2:g * (nx * 4096)≤12 * (6 * 4096):=Nat.mul_le_mul hg b1
  clear h2 h3
  omega
theorem Sml.kb {N M:Nat} {ps:List Int} {l:List Rat} (hM:0 < M) (h:Sml N M l):∀ x∈tlQ ps l,x.2.natAbs≤N:=by
 intro x hx
 obtain ⟨_,q,hq,_,he⟩:=tlist_mem hx
 have e:x.2=LN.ex (tden l) q:=he
 obtain ⟨m,hm⟩:=LN.tden_min (fun q hq=>(h q hq).1)
 have h3:=(h q hq).2
 rw [hm,Nat.mul_comm,LN.ex_mul (LN.tden_dvd hq),Int.natAbs_mul,Int.natAbs_natCast] at h3
 have hm0:0 < m:=by
  rcases Nat.eq_zero_or_pos m with h0 | h0
  ·rw [h0,Nat.mul_zero] at hm; omega
  ·exact h0
 rw [e]
 have h4:1 * (LN.ex (tden l) q).natAbs≤m * (LN.ex (tden l) q).natAbs:=Nat.mul_le_mul_right _ hm0
 omega
theorem Sml.den {N:Nat} {l:List Rat} (h:Sml N 12 l):tden l≤12:=Nat.le_of_dvd (by decide) (LN.tden_min (fun q hq=>(h q hq).1))
theorem tlQ_len6 {ps:List Int} (h:ps.length≤6) (l:List Rat):(tlQ ps l).length≤6:=Nat.le_trans (by have:=(tlist_fst (tden l) ps l).length_le; rw [List.length_map] at this; exact this) h
theorem tlQ_ne {ps:List Int} {l:List Rat} (hl:l.length=ps.length) (h:∃ q∈l,q≠0):tlQ ps l≠[]:=by
 obtain ⟨q,hq,h0⟩:=h
 obtain ⟨i,hi,rfl⟩:=List.mem_iff_getElem.1 hq
 intro e
 have hm:(ps[i]'(by omega),l[i].num * ((tden l / l[i].den:Nat):Int))∈tlQ ps l:=by
  unfold tlQ tlist
  refine List.mem_filterMap.2 ⟨(ps[i]'(by omega),l[i]),?_,?_⟩
  ·exact List.mem_iff_getElem.2 ⟨i,by simp; omega,by simp⟩
  ·rw [if_neg]
   intro hz
   exact h0 (Rat.num_eq_zero.1 hz)
 rw [e] at hm
 cases hm
theorem x_bound {tl:List (Int×Int)} (hp:PrT tl) (hl:tl.length≤6) (hk:∀ x∈tl,x.2.natAbs < 2 ^ 13):(LN.eLo (lf 1024) tl).natAbs≤XB∧(LN.eHi (lf 1024) tl).natAbs≤XB:=by
 obtain ⟨h1,h2⟩:=eSum_le (n:=1024) (by decide) tl hp hk
 unfold XB
 have h3:=@Nat.mul_le_mul_right tl.length 6 (2 ^ (13 + (1024 + 3))) hl
 exact ⟨Nat.le_trans h1 h3,Nat.le_trans h2 h3⟩
theorem flr_small {ps:List Int} {la lb:List Rat} (hps:∀ p∈ps,p∈smallP) (hnd:ps.Nodup) (h6:ps.length≤6) (l1:la.length=ps.length) (l2:lb.length=ps.length) (ha:Sml 4096 12 la) (hb:Sml 4096 12 lb) (h0:∃ q∈lb,q≠0):FlrOk ps la lb 13:=by
 have kx:=ha.kb (ps:=ps) (by decide)
 have ky:=hb.kb (ps:=ps) (by decide)
 have kx':∀ x∈tlQ ps la,x.2.natAbs < 2 ^ 13:=fun x hx=>Nat.lt_of_le_of_lt (kx x hx) (by decide)
 have ky':∀ x∈tlQ ps lb,x.2.natAbs < 2 ^ 13:=fun x hx=>Nat.lt_of_le_of_lt (ky x hx) (by decide)
 have my:∀ x∈tlQ ps lb,x.1∈smallP:=fun x hx=>hps _ (tlist_mem hx).1
 have hne:=tlQ_ne l2 h0
 refine ⟨hps,h6,kx',ky',Nat.lt_of_le_of_lt ha.den (by decide),Nat.lt_of_le_of_lt hb.den (by decide),by decide,sz_ne (hb.good (by decide) (by decide) hps hnd) (by omega) l2 h0,fun hr=>?_⟩
 exact flAt_dec hps hnd l1 l2 kx ky hne (sum_far my ((tlist_fst _ ps lb).nodup hnd) (fun _ hx=>tlQ_nz hx) hne fun x hx=>Nat.le_trans (ky x hx) num_kb)
  (fnum_small ha.den hb.den (tlQ_len6 h6 la) (tlQ_len6 h6 lb) num_s num_r num_k num_t) (x_bound (fun x hx=>smallP_pr (hps _ (tlist_mem hx).1)) (tlQ_len6 h6 la) kx') hr
theorem zw_sub {la lb:List Rat} (q r:Int) (h:la.length=lb.length):LN.subQ r la lb=List.zipWith (· + ·) (LN.subQ q la lb) (lb.map fun x=>(((q - r:Int)):Rat) * x):=by
 obtain ⟨m,hm⟩:∃ m:Rat,(((q - r:Int)):Rat)=m:=⟨_,rfl⟩
 have e:=Rat.intCast_sub q r
 rw [hm] at e ⊢
 clear hm
 refine List.ext_getElem (by simp [LN.subQ,h]) fun i h1 h2=>?_
 simp only [LN.subQ,List.getElem_zipWith,List.getElem_map]
 grind
theorem sz_lt_le {ps:List Int} {a b c:List Rat} (hp:∀ p∈ps,0 < p) (hab:a.length=b.length) (hc:c=List.zipWith (· + ·) a b):(LN.sz ps a < 0→LN.sz ps b≤0→LN.sz ps c < 0)∧(0 < LN.sz ps a→0≤LN.sz ps b→0 < LN.sz ps c):=by
 obtain ⟨x,y,hx,hy,e1,e2,e3⟩:=LN.sz_sum hp hab hc
 rw [e1,e2,e3]
 constructor
 ·intro h1 h2
  have h3:LN.sg x = -1:=by rcases LN.sg_cases x with h | h | h <;> omega
  rw [LN.sg_low.2 (LN.mul_lt_one hx (LN.sg_low.1 h3) (LN.sg_le.1 h2))]
  decide
 ·intro h1 h2
  have h3:LN.sg x=1:=by rcases LN.sg_cases x with h | h | h <;> omega
  rw [LN.sg_pos.2 (LN.one_lt_mul (LN.sg_pos.1 h3) (LN.sg_ge.1 h2))]
  decide
theorem szc {ps:List Int} (hp:∀ p∈ps,0 < p) (l:List Rat):LN.sz ps l=1∨LN.sz ps l=0∨LN.sz ps l = -1:=by
 rw [LN.sz_of_vt hp]; exact LN.sg_cases _
theorem floor_lt {ps:List Int} {la lb:List Rat} (hp:∀ p∈ps,0 < p) (hl:la.length=lb.length) {q r:Int} (hq:LN.FloorOf ps la lb q) (hr:LN.FloorOf ps la lb r):r≤q:=by
 refine Int.not_lt.1 fun hlt=>?_
 have h1:=hq.2
 have h2:=hr.1
 have e:=zw_sub (q + 1) r hl (la:=la) (lb:=lb)
 have hlen:(LN.subQ (q + 1) la lb).length=(lb.map fun x=>(((q + 1 - r:Int)):Rat) * x).length:=by simp [LN.subQ,hl]
 obtain ⟨k1,k2⟩:=sz_lt_le hp hlen e
 rw [LN.sz_mul hp] at k1 k2
 have hs:(((q + 1 - r:Int)):Rat).num.sign=(q + 1 - r).sign:=by rw [Rat.num_intCast]
 rw [hs] at k1 k2
 have hn:(q + 1 - r).sign = -1∨(q + 1 - r).sign=0:=by
  rcases sign_cases (q + 1 - r) with h | h | h
  ·exact .inl h.2
  ·exact .inr h.2
  ·omega
 rcases szc hp lb with hw | hw | hw
 ·rw [hw] at h1 h2 k1
  have:=k1 (by omega) (by rcases hn with h | h <;> rw [h] <;> decide)
  omega
 ·rw [hw] at h1; omega
 ·rw [hw] at h1 h2 k2
  have:=k2 (by omega) (by rcases hn with h | h <;> rw [h] <;> decide)
  omega
theorem floor_one {ps:List Int} {la lb:List Rat} (hp:∀ p∈ps,0 < p) (hl:la.length=lb.length) {q r:Int} (hq:LN.FloorOf ps la lb q) (hr:LN.FloorOf ps la lb r):q=r:=by
 have h1:=floor_lt hp hl hq hr
 have h2:=floor_lt hp hl hr hq
 omega
theorem FlrOk.exists {ps:List Int} {la lb:List Rat} {E:Nat} (F:FlrOk ps la lb E) (l1:la.length=ps.length) (l2:lb.length=ps.length):∃ q,LN.FloorOf ps la lb q:=by
 cases hr:ratioB la lb ps.length (ratioK la lb ps.length) with
 | true=>exact ⟨_,ratio_floor F.pr l1 l2 hr F.nz⟩
 | false =>
  have h:=F.dec hr
  cases hf:flAt 1024 (tlQ ps la) (tlQ ps lb) (tden la) (tden lb) with
  | none=>exact absurd hf h
  | some q=>exact ⟨q,flAt_floor F.pr (l1.trans l2.symm) (by decide) hf⟩
theorem floor_det (w:World) (ps:List Int) (a0 a1 a2:Option Addr) (c0 c1 c2 D E:Nat) (la lb:List Rat) (A:SizeOk w ps a0 a1 la D) (B:SizeOk w ps a0 a2 lb D) (hD0:0 < D) (F:FlrOk ps la lb E) (L:Laid w) {q:Int} (hq:LN.FloorOf ps la lb q) :
  Gives Tryz.prog 75 #[.slice a0 ps.length c0,.slice a1 la.length c1,.slice a2 lb.length c2] w (.string (itx q)):=by
 refine Calls.mono (floor_any w ps a0 a1 a2 c0 c1 c2 D E la lb A B hD0 F L) ?_
 rintro e w' ⟨⟨r,rfl,hr⟩,hb⟩
 rw [floor_one (smallP_pos' F.pr) (A.len.trans B.len.symm) hq hr]
 exact ⟨rfl,hb⟩
end Go.Proofs.YtlomhfknmhaboaaGreatDoor

namespace Go.Proofs.YtlomhfknmhaboaaGreatDoor
open Go.RowKit
theorem sumT_next (f:Int→Nat) (D:Nat) (p:Int) (ps:List Int) (q:Rat) (l:List Rat):LN.sumT f (tlist D (p :: ps) (q :: l))=LN.ex D q * f p + LN.sumT f (tlist D ps l):=by
 unfold tlist
 rw [List.zip_cons_cons,List.filterMap_cons]
 by_cases h:q.num=0
 ·simp only [h,if_true]
  rw [LN.ex_zero q h,Int.zero_mul,Int.zero_add]
 ·simp only [h,if_false]; rfl
theorem ex_subI {D:Nat} {a b:Rat} (q:Int) (hD:0 < D) (ha:a.den ∣ D) (hb:b.den ∣ D):(a + (-(q:Rat)) * b).den ∣ D∧LN.ex D (a + (-(q:Rat)) * b)=LN.ex D a - q * LN.ex D b:=by
 refine ex_den _ hD ?_
 rw [Rat.intCast_sub,Rat.intCast_mul,LN.ex_eq ha,LN.ex_eq hb]
 grind
theorem sumT_sub (f:Int→Nat) (D:Nat) (hD:0 < D) (q:Int):∀ (ps:List Int) (la lb:List Rat),la.length=lb.length→(∀ x∈la,x.den ∣ D)→(∀ x∈lb,x.den ∣ D) →
  LN.sumT f (tlist D ps (LN.subQ q la lb))=LN.sumT f (tlist D ps la) - q * LN.sumT f (tlist D ps lb)
 | [],_,_,_,_,_=>by simp [tlist,LN.sumT]
 | _ :: _,[],[],_,_,_=>by simp [tlist,LN.sumT,LN.subQ]
 | p :: ps,a :: la,b :: lb,hl,h1,h2=>by
  have ih:=sumT_sub f D hD q ps la lb (by simpa using hl) (fun x hx=>h1 x (List.mem_cons_of_mem _ hx)) fun x hx=>h2 x (List.mem_cons_of_mem _ hx)
  have e:LN.subQ q (a :: la) (b :: lb)=(a + (-(q:Rat)) * b) :: LN.subQ q la lb:=rfl
  rw [e,sumT_next,sumT_next,sumT_next,ih,(ex_subI q hD (h1 a List.mem_cons_self) (h2 b List.mem_cons_self)).2]
  grind
theorem sumT_times (f:Int→Nat) (m D:Nat):∀ (ps:List Int) (l:List Rat),(∀ x∈l,x.den ∣ D)→LN.sumT f (tlist (m * D) ps l)=(m:Int) * LN.sumT f (tlist D ps l)
 | [],_,_=>by simp [tlist,LN.sumT]
 | _ :: _,[],_=>by simp [tlist,LN.sumT]
 | p :: ps,q :: l,h=>by
  have ih:=sumT_times f m D ps l fun x hx=>h x (List.mem_cons_of_mem _ hx)
  rw [sumT_next,sumT_next,ih,LN.ex_mul (h q List.mem_cons_self)]
  grind
theorem sz_sumT {ps:List Int} {l:List Rat} {M:Nat} (g:Good ps l) (hn:ps.length≤100) (hM:0 < M) (h:∀ q∈l,q.den ∣ M) :
  (0 < LN.sumT (lf 1024) (tlist M ps l)→LN.sz ps l=1)∧(LN.sumT (lf 1024) (tlist M ps l) < 0→LN.sz ps l = -1):=by
 obtain ⟨m,hm⟩:=LN.tden_min h
 have hm0:0 < m:=by
  rcases Nat.eq_zero_or_pos m with h0 | h0
  ·rw [h0,Nat.mul_zero] at hm; omega
  ·exact h0
 have e:LN.sumT (lf 1024) (tlist M ps l)=(m:Int) * LN.sumT (lf 1024) (tlQ ps l):=by
  rw [hm,Nat.mul_comm]
  exact sumT_times _ _ _ _ _ fun q hq=>LN.tden_dvd hq
 rw [e]
 obtain ⟨y1,y2,_,_⟩:=ends_near (lf 1024) Kb (tlQ ps l) g.kb
 have hz:LN.sz ps l=LN.signT (tlQ ps l):=rfl
 by_cases hne:tlQ ps l=[]
 ·rw [hne]
  show (0 < (m:Int) * 0→_)∧((m:Int) * 0 < 0→_)
  rw [Int.mul_zero]
  exact ⟨fun h=>absurd h (by decide),fun h=>absurd h (by decide)⟩
 ·generalize LN.sumT (lf 1024) (tlQ ps l)=s at *
  rcases g.dec hn hne with h | h
  ·have h1:=sign_of_lo g.trt (by decide) hne h
   have h2:0≤(m:Int) * s:=Int.mul_nonneg (by omega) (by omega)
   exact ⟨fun _=>hz.trans h1,fun h3=>by omega⟩
  ·have h1:=sign_of_hi g.trt (by decide) hne h
   have h2:(m:Int) * s≤0:=Int.mul_nonpos_of_nonneg_of_nonpos (by omega) (by omega)
   exact ⟨fun h3=>by omega,fun _=>hz.trans h1⟩
theorem floor_mono {ps:List Int} {la lb:List Rat} (hp:∀ p∈ps,0 < p) (hl:la.length=lb.length) {q r:Int} (hqr:r≤q) (h:0≤LN.sz ps (LN.subQ q la lb) * LN.sz ps lb):0≤LN.sz ps (LN.subQ r la lb) * LN.sz ps lb:=by
 have e:=zw_sub q r hl (la:=la) (lb:=lb)
 have hlen:(LN.subQ q la lb).length=(lb.map fun x=>(((q - r:Int)):Rat) * x).length:=by simp [LN.subQ,hl]
 have hm:LN.sz ps (lb.map fun x=>(((q - r:Int)):Rat) * x)=(q - r).sign * LN.sz ps lb:=by
  rw [LN.sz_mul hp,Rat.num_intCast]
 have hn:(q - r).sign=1∨(q - r).sign=0:=by
  rcases sign_cases (q - r) with h | h | h
  ·omega
  ·exact .inr h.2
  ·exact .inl h.2
 rcases szc hp lb with hw | hw | hw
 ·rw [hw] at h hm ⊢
  have:=LN.sz_add_ge hp hlen e (by omega) (by rw [hm]; rcases hn with h | h <;> rw [h] <;> decide)
  omega
 ·rw [hw]; omega
 ·rw [hw] at h hm ⊢
  have:=LN.sz_add_le hp hlen e (by omega) (by rw [hm]; rcases hn with h | h <;> rw [h] <;> decide)
  omega
theorem floor_le {ps:List Int} {la lb:List Rat} (hp:∀ p∈ps,0 < p) (hn:ps.length≤100) (hl:la.length=lb.length) {M:Nat} (hM:0 < M) (da:∀ x∈la,x.den ∣ M) (db:∀ x∈lb,x.den ∣ M) (gb:Good ps lb) {Q:Int}
  (g1:Good ps (LN.subQ Q la lb)) (g2:Good ps (LN.subQ (-Q) la lb)) (hU1:LN.sumT (lf 1024) (tlist M ps la) < Q * ((LN.sumT (lf 1024) (tlist M ps lb)).natAbs:Int)) (hU2 : -(Q * ((LN.sumT (lf 1024) (tlist M ps lb)).natAbs:Int)) < LN.sumT (lf 1024) (tlist M ps la))
  {q:Int} (hf:LN.FloorOf ps la lb q) : -Q - 1≤q∧q < Q:=by
 have dsub:∀ (r:Int),∀ x∈LN.subQ r la lb,x.den ∣ M:=by
  intro r x hx
  unfold LN.subQ at hx
  obtain ⟨i,hi,rfl⟩:=List.mem_iff_getElem.1 hx
  rw [List.getElem_zipWith]
  exact (ex_subI r hM (da _ (List.getElem_mem _)) (db _ (List.getElem_mem _))).1
 obtain ⟨b1,b2⟩:=sz_sumT gb hn hM db
 obtain ⟨c1,c2⟩:=sz_sumT g1 hn hM (dsub Q)
 obtain ⟨d1,d2⟩:=sz_sumT g2 hn hM (dsub (-Q))
 rw [sumT_sub _ _ hM _ _ _ _ hl da db] at c1 c2 d1 d2
 rw [Int.neg_mul] at d1 d2
 generalize LN.sumT (lf 1024) (tlist M ps la)=A at *
 generalize LN.sumT (lf 1024) (tlist M ps lb)=B at *
 have key:LN.sz ps (LN.subQ Q la lb) * LN.sz ps lb < 0∧0≤LN.sz ps (LN.subQ (-Q) la lb) * LN.sz ps lb:=by
  rcases Int.lt_trichotomy B 0 with hB | hB | hB
  ·rw [show ((B.natAbs:Nat):Int) = -B by omega,Int.mul_neg] at hU1 hU2
   rw [b2 hB,c1 (by omega),d2 (by omega)]
   decide
  ·rw [hB] at hU1 hU2
   simp only [Int.natAbs_zero,Int.natCast_zero,Int.mul_zero] at hU1 hU2
   omega
  ·rw [show ((B.natAbs:Nat):Int)=B by omega] at hU1 hU2
   rw [b1 hB,c2 (by omega),d1 (by omega)]
   decide
 refine ⟨Int.not_lt.1 fun h=>?_,Int.not_le.1 fun h=>?_⟩
 ·have h1:=floor_mono hp hl (q := -Q) (r:=q + 1) (by omega) key.2
  have h2:=hf.2
  omega
 ·have h1:=floor_mono hp hl h hf.1
  have h2:=key.1
  omega
/-! The numbers of the law. -/
theorem certLc0_eq:LN.certPc0.map (fun p=>((lf 1024 p:Nat):Int))=LN.certLc0:=by
 unfold LN.certLc0
 rw [← certL_eq]; rfl
theorem certLc1_eq:LN.certPc1.map (fun p=>((lf 1024 p:Nat):Int))=LN.certLc1:=by
 unfold LN.certLc1
 rw [← certL_eq]; rfl
theorem certLc2_eq:LN.certPc2.map (fun p=>((lf 1024 p:Nat):Int))=LN.certLc2:=by
 unfold LN.certLc2
 rw [← certL_eq]; rfl
theorem sum_farG {pr:List Int} {a dd:Int} {U V:List (List Int)} {K S:Nat} (hb:LN.certOk a (pr.map fun p=>((lf 1024 p:Nat):Int)) U V dd K S=true) (hd:pr.Nodup) {ty:List (Int×Int)} (my:∀ x∈ty,x.1∈pr) (ny:(ty.map Prod.fst).Nodup) (h0:∀ x∈ty,x.2≠0) (hne:ty≠[]) (hky:∀ x∈ty,x.2.natAbs≤K):S≤(LN.sumT (lf 1024) ty).natAbs:=by
 refine Nat.le_of_not_lt fun hc=>?_
 rw [← LN.dotI_coef (lf 1024) pr hd ty my] at hc
 have hz:=LN.cert_zero hb (pr.map fun p=>LN.coefP p ty) (by simp) (by
  intro x hx
  obtain ⟨p,_,rfl⟩:=List.mem_map.1 hx
  exact LN.coefP_le _ ty ny hky p) hc
 match ty,hne with
 | x :: l,_ =>
  have h5:=hz _ (List.mem_map.2 ⟨x.1,my x List.mem_cons_self,rfl⟩)
  rw [LN.coefP_mem _ ny x List.mem_cons_self] at h5
  exact h0 x List.mem_cons_self h5
theorem primesL_cert:∀ k,k < 10→(∀ p∈primesL k,p∈LN.certPc0)∨(∀ p∈primesL k,p∈LN.certPc1)∨(∀ p∈primesL k,p∈LN.certPc2):=by decide +kernel
theorem primesL_far {k:Nat} (hk:k < 10) {ty:List (Int×Int)} (my:∀ x∈ty,x.1∈primesL k) (ny:(ty.map Prod.fst).Nodup) (h0:∀ x∈ty,x.2≠0) (hne:ty≠[]) (hky:∀ x∈ty,x.2.natAbs≤LN.KC):LN.SC≤(LN.sumT (lf 1024) ty).natAbs:=by
 rcases primesL_cert k hk with h | h | h
 ·exact sum_farG (by rw [certLc0_eq]; exact LN.certC0_ok) (by decide) (fun x hx=>h _ (my x hx)) ny h0 hne hky
 ·exact sum_farG (by rw [certLc1_eq]; exact LN.certC1_ok) (by decide) (fun x hx=>h _ (my x hx)) ny h0 hne hky
 ·exact sum_farG (by rw [certLc2_eq]; exact LN.certC2_ok) (by decide) (fun x hx=>h _ (my x hx)) ny h0 hne hky
theorem tlist_ex {D:Nat} (hD:0 < D) {ps:List Int} {l:List Rat} (h:∀ q∈l,q.den ∣ D) {x:Int×Int} (hx:x∈tlist D ps l):x.1∈ps∧x.2≠0∧∃ q∈l,x.2=LN.ex D q:=by
 obtain ⟨h1,q,hq,hn,he⟩:=tlist_mem hx
 refine ⟨h1,fun hz=>?_,q,hq,he⟩
 rw [he] at hz
 rcases Int.mul_eq_zero.1 hz with h2 | h2
 ·exact hn h2
 ·have h3:=Nat.div_pos (Nat.le_of_dvd hD (h q hq)) q.den_pos
  omega
theorem tlist_ne {D:Nat} {ps:List Int} {l:List Rat} (hl:l.length=ps.length) (h:∃ q∈l,q≠0):tlist D ps l≠[]:=by
 obtain ⟨q,hq,h0⟩:=h
 obtain ⟨i,hi,rfl⟩:=List.mem_iff_getElem.1 hq
 intro e
 have hm:(ps[i]'(by omega),l[i].num * ((D / l[i].den:Nat):Int))∈tlist D ps l:=by
  unfold tlist
  refine List.mem_filterMap.2 ⟨(ps[i]'(by omega),l[i]),?_,?_⟩
  ·exact List.mem_iff_getElem.2 ⟨i,by simp; omega,by simp⟩
  ·rw [if_neg]
   intro hz
   exact h0 (Rat.num_eq_zero.1 hz)
 rw [e] at hm
 cases hm
def QC:Nat:=2 ^ 61
def XC:Nat:=2 ^ (11 + (1024 + 3))
theorem qc_num:4 * XC < QC * LN.SC:=by decide +kernel
theorem qc_kb:1440 * 1 + 960 * QC≤Kb:=by decide +kernel
theorem floor_small20 {k:Nat} (hk:k < 10) {la lb:List Rat} (l1:la.length=(primesL k).length) (l2:lb.length=(primesL k).length) (ha:Sml 1440 12 la) (hb:Sml 960 12 lb) (h0:∃ q∈lb,q≠0) {q:Int} (hf:LN.FloorOf (primesL k) la lb q):q.natAbs≤QC + 1:=by
 obtain ⟨hq1,hq2⟩:=primesL_small k hk
 obtain ⟨_,hp4,_,_⟩:=primesL_ok k hk
 have far:=primesL_far hk (ty:=tlist 12 (primesL k) lb) (fun x hx=>(tlist_ex (by decide) (fun q hq=>(hb q hq).1) hx).1) ((tlist_fst _ _ lb).nodup hq2) (fun x hx=>(tlist_ex (by decide) (fun q hq=>(hb q hq).1) hx).2.1) (tlist_ne l2 h0)
  (fun x hx=>by
   obtain ⟨_,_,q,hq,e⟩:=tlist_ex (by decide) (fun q hq=>(hb q hq).1) hx
   rw [e]
   exact Nat.le_trans (hb q hq).2 (by decide))
 have hpr:PrT (tlist 12 (primesL k) la):=fun x hx=>smallP_pr (hq1 _ (tlist_mem hx).1)
 have hka:∀ x∈tlist 12 (primesL k) la,x.2.natAbs≤1440:=fun x hx=>by
  obtain ⟨_,_,q,hq,e⟩:=tlist_ex (by decide) (fun q hq=>(ha q hq).1) hx
  rw [e]; exact (ha q hq).2
 obtain ⟨s1,s2⟩:=eSum_le (n:=1024) (E:=11) (by decide) _ hpr (fun x hx=>Nat.lt_of_le_of_lt (hka x hx) (by decide))
 change _≤_ * XC at s1
 change _≤_ * XC at s2
 obtain ⟨y1,y2,_,_⟩:=ends_near (lf 1024) 1440 _ hka
 have hlen:(tlist 12 (primesL k) la).length≤4:=Nat.le_trans (tlist_length _ _ _) (by omega)
 have hl4:=@Nat.mul_le_mul_right (tlist 12 (primesL k) la).length 4 XC hlen
 have hnum:=qc_num
 have hfar2:QC * LN.SC≤QC * (LN.sumT (lf 1024) (tlist 12 (primesL k) lb)).natAbs:=Nat.mul_le_mul_left _ far
 have gl:=fun (z:Int) (hz:z.natAbs=QC)=>((Sml.comb (by decide) ha hb 1 (-z)).le (K:=Kb) (by
  have:(-z).natAbs=QC:=by omega
  rw [this,show (1:Int).natAbs=1 from rfl]; exact qc_kb)).good (ps:=primesL k) (by decide) nr_ hq1 hq2
 have sc:∀ z:Int,combineQ la lb ((1:Int):Rat) ((-z:Int):Rat)=LN.subQ z la lb:=fun z=>by
  unfold LN.subQ combineQ
  congr 1
  funext x y
  rw [Rat.intCast_neg]
  show x * 1 + _=_
  grind
 have h:=floor_le (smallP_pos hq1) (by omega) (l1.trans l2.symm) (M:=12) (by decide) (fun q hq=>(ha q hq).1) (fun q hq=>(hb q hq).1) (hb.good (by decide) (show 960≤Kb by decide) hq1 hq2) (Q:=(QC:Int))
  (by rw [← sc]; exact gl QC (by omega)) (by rw [← sc]; exact gl (-(QC:Int)) (by omega)) ?_ ?_ hf
 ·omega
 ·rw [← Int.natCast_mul]
  generalize QC * (LN.sumT (lf 1024) (tlist 12 (primesL k) lb)).natAbs=Y at *
  generalize LN.sumT (lf 1024) (tlist 12 (primesL k) la)=A at *
  generalize LN.eHi (lf 1024) (tlist 12 (primesL k) la)=eh at *
  generalize QC * LN.SC=Z at *
  generalize 4 * XC=X at *
  omega
 ·rw [← Int.natCast_mul]
  generalize QC * (LN.sumT (lf 1024) (tlist 12 (primesL k) lb)).natAbs=Y at *
  generalize LN.sumT (lf 1024) (tlist 12 (primesL k) la)=A at *
  generalize LN.eLo (lf 1024) (tlist 12 (primesL k) la)=el at *
  generalize QC * LN.SC=Z at *
  generalize 4 * XC=X at *
  omega
end Go.Proofs.YtlomhfknmhaboaaGreatDoor

namespace Go.Proofs.YtlomhfknmhaboaaGreatDoor
open Go.RowKit
def refQuickV (s:ByteArray):Value:=if s.size≤18 then .tuple #[.int .u64 (dval (lb s)),.bool true] else .tuple #[.int .u64 0,.bool false]
theorem dval_take_lt18 {l:List UInt8} (h:Digs l) (t:Nat) (ht:t≤18):dval (l.take t) < 1000000000000000000:=by
 have h1:=dval_lt (h.take t)
 have h2:10 ^ (l.take t).length≤10 ^ 18:=Nat.pow_le_pow_right (by decide) (by simp; omega)
 exact Nat.lt_of_lt_of_le h1 h2
set_option maxRecDepth 100000 in
set_option maxHeartbeats 4000000 in
theorem refQuick_any (w:World) (s:ByteArray) (hd:Digs (lb s)) (hl:s.size≤10000000) :
  Gives Tryz.prog 111 #[.string s] w (refQuickV s):=by
 unfold Gives
 have Hlb:=Lib.hid (lb_length s)
 have Hd:=Lib.hid hd
 clear hd
 by_cases h:s.size≤18
 ·have Hv:Hid (refQuickV s = .tuple #[.int .u64 (dval (lb s)),.bool true]):=by show _=_; unfold refQuickV; rw [if_pos h]
  have h':¬ (18:Int) < s.size:=by omega
  generalize refQuickV s=vv at *
  go_enter Tryz.func111,Tryz.ntmps111
  go_wp2_with fail
  go_loop [4,5] (fun n i=>∃ t:Nat,t≤s.size∧i = .int .i64 t∧n = .int .u64 (dval ((lb s).take t):Nat)) (fun _ i=>s.size - (intOf i).toNat)
  case atStart=>exact ⟨0,Nat.zero_le _,rfl,rfl⟩
  case round =>
   obtain ⟨t,ht,rfl,rfl⟩:=hrel
   have hD:=dval_take_lt18 Hd.out t (by omega)
   by_cases hlt:t < s.size
   ·have hlt':(t:Int) < s.size:=by omega
    have hts:=dval_take_succ (lb s) t (by rw [Hlb.out]; exact hlt)
    have hcd:=Hd.out ((lb s).getD t 0) (by rw [List.getD_eq_getElem?_getD,List.getElem?_eq_getElem (by rw [Hlb.out]; exact hlt)]; exact List.getElem_mem _)
    have hg:(lb s).getD t 0=s[t]'hlt:=by
     rw [List.getD_eq_getElem?_getD,List.getElem?_eq_getElem (by rw [Hlb.out]; exact hlt)]; rfl
    rw [hg] at hts hcd
    clear hg
    have Hts:=Lib.hid hts
    clear hts
    generalize dval ((lb s).take t)=D at *
    generalize hbb:(s[t]'hlt).toNat=b at *
    obtain ⟨hc1,hc2⟩:=hcd
    go_wp2
    go_round
    case rel=>exact ⟨t + 1,by omega,by go_num,by rw [Hts.out]; congr 1; omega⟩
    case measure=>simp [intOf]; omega
   ·have hlt':¬ (t:Int) < s.size:=by omega
    have hts:t=s.size:=by omega
    have Hf:Hid (dval ((lb s).take t)=dval (lb s)):=by
     show _=_
     rw [hts,← Hlb.out,List.take_length]
    rw [Hf.out]
    generalize dval (lb s)=D at *
    go_wp2
    go_ret2
    exact ⟨by rw [Hv.out]; rfl,Below.refl _ _⟩
 ·have Hv:Hid (refQuickV s = .tuple #[.int .u64 0,.bool false]):=by show _=_; unfold refQuickV; rw [if_neg h]
  have h':(18:Int) < s.size:=by omega
  generalize refQuickV s=vv at *
  go_enter Tryz.func111,Tryz.ntmps111
  go_wp2_with fail
  go_ret2
  exact ⟨by rw [Hv.out]; rfl,Below.refl _ _⟩
end Go.Proofs.YtlomhfknmhaboaaGreatDoor

namespace Go.Proofs.YtlomhfknmhaboaaGreatDoor
open Go.RowKit
def RowB (W:World) (g:Nat) (t:TypeId) (D:List UInt8):Prop:=W.rowIs g t D.length (fun i => .int .u8 ((D.getD i 0).toNat:Nat))
theorem RowB.cell {W:World} {g:Nat} {t:TypeId} {D:List UInt8} (h:RowB W g t D) {i:Nat} (hi:i < D.length):W.cell? ⟨g,i,none⟩=some (.int .u8 ((D.getD i 0).toNat:Nat)):=World.rowIs.cell h hi
theorem RowB.frozen {W:World} {g:Nat} {t:TypeId} {D:List UInt8} (h:RowB W g t D) (i:Nat):W.frozen? ⟨g,i,none⟩=false:=World.rowIs.frozen h i
theorem RowB.set {W:World} {g:Nat} {t:TypeId} {D:List UInt8} (h:RowB W g t D) (i x:Nat) (hx:x < 256):RowB (W.setCell ⟨g,i,none⟩ (.int .u8 (x:Nat))) g t (D.set i (UInt8.ofNat x)):=by
 unfold RowB
 rw [List.length_set]
 refine (World.rowIs.set h i _).congr fun j hj=>?_
 by_cases e:j=i
 ·subst e
  rw [if_pos rfl]
  simp only [List.getD_eq_getElem?_getD,List.getElem?_set]
  simp only [if_true,if_pos hj,Option.getD_some]
  simp [Nat.mod_eq_of_lt hx]
 ·rw [if_neg e]
  simp only [List.getD_eq_getElem?_getD,List.getElem?_set]
  rw [if_neg (fun h=>e h.symm)]
theorem RowB.text {W:World} {g:Nat} {t src dst e:TypeId} {D:List UInt8} (h:RowB W g t D) (k n c:Nat) (hn:k + n=D.length)
  (hs:Tryz.prog.underlying src=some (.slice e)) (he:Tryz.prog.underlying e=some (.int .u8)) (hd:Tryz.prog.underlying dst=some .string) :
  (convert src dst (.slice (some ⟨g,k,none⟩) n c)).run Tryz.prog W = .ok (.string ⟨(D.drop k).toArray⟩) W:=by
 have hl:(D.drop k).length=n:=by simp; omega
 rw [← hl]
 refine run_convert_bytes_back W src dst e ⟨g,k,none⟩ c (D.drop k) hs he hd fun j hj=>?_
 rw [Lib.add_plain]
 rw [RowB.cell h (by omega)]
 rw [List.getD_eq_getElem?_getD,List.getElem?_eq_getElem (by omega)]
 simp
theorem pad_dec {N j:Nat} (hj:j=0∨10 ^ j≤N) (h:N < 10 ^ (j + 1)):(pad (j + 1) N).reverse=Lib.decDigits N:=by
 have e:pad (j + 1) N=le N:=by
  rcases Nat.eq_zero_or_pos N with h0 | h0
  ·subst h0
   rcases hj with rfl | hj
   ·rw [le_small (by omega)]; rfl
   ·have:=Nat.pow_pos (n:=j) (show 0 < 10 by decide); omega
  ·refine pad_le _ _ h0 h ?_
   rw [Nat.add_sub_cancel]
   rcases hj with rfl | hj
   ·simp; omega
   ·exact hj
 rw [e]; unfold le; rw [List.reverse_reverse]
theorem drop_set_pad {D:List UInt8} {k j N:Nat} (hl:D.length=20) (hk:k + 1 + j=20) (h:D.drop (k + 1)=(pad j N).reverse) :
  (D.set k (UInt8.ofNat (48 + N / 10 ^ j % 10))).drop k=(pad (j + 1) N).reverse:=by
 rw [pad_succ,List.reverse_append,← h]
 rw [List.drop_eq_getElem_cons (by simp; omega)]
 simp [List.drop_set]
structure OfAt (N j:Nat) (w wr:World):Prop where
 bel:Below w.heap.size w wr
 row:∃ D:List UInt8,RowB wr w.heap.size 141 D∧D.length=20∧D.drop (20 - j)=(pad j N).reverse
set_option maxRecDepth 100000 in
set_option maxHeartbeats 4000000 in
theorem refOf_any (w:World) (N:Nat) (hN:N < 18446744073709551616) :
  Gives Tryz.prog 71 #[.int .u64 N] w (.string (dec N)):=by
 unfold Gives
 have Hd:Hid (dec N=⟨(Lib.decDigits N).toArray⟩):=rfl
 go_enter Tryz.func71,Tryz.ntmps71
 go_wp2_with fail
 go_loopw [0,4] (fun n k wr=>∃ j kk:Nat,kk + j=20∧n = .int .u64 (N / 10 ^ j:Nat)∧k = .int .i64 kk∧(j=0∨10 ^ j≤N)∧Hid (OfAt N j w wr)) (fun _ k _=>(intOf k).toNat)
 case atStart =>
  refine ⟨0,20,rfl,by simp,rfl,.inl rfl,⟨(Below.refl _ _).alloc nr_ _,List.replicate 20 0,?_,by simp,by simp [pad]⟩⟩
  exact World.rowIs_alloc w _ _ _ (fun i hi=>by
   have hi':i < 20:=hi
   clear hi
   iterate 20 (rcases i with _ | i; · rfl)
   omega)
 case round =>
  obtain ⟨j,kk,hkk,rfl,rfl,hj,HX⟩:=hrel
  have hj20:j < 20:=by
   rcases hj with rfl | hj
   ·omega
   ·refine Nat.lt_of_not_le fun h=>?_
    have:=Nat.pow_le_pow_right (n:=10) (by decide) h
    omega
  obtain ⟨k,rfl⟩:∃ k,kk=k + 1:=⟨kk - 1,by omega⟩
  obtain ⟨D,hD,hDl,hDd⟩:=HX.out.row
  have hc:=hD.cell (i:=k) (by omega)
  have hz:=hD.frozen k
  have Hdd:Hid (N / 10 ^ j / 10=N / 10 ^ (j + 1)):=by show _=_; rw [Nat.div_div_eq_div_mul,Nat.pow_succ]
  have hy:N / 10 ^ j < 18446744073709551616:=Nat.lt_of_le_of_lt (Nat.div_le_self _ _) hN
  have HD:=Lib.hid hD
  have Hnew:=Lib.hid (drop_set_pad hDl hkk (by rw [← hDd]; congr 1; omega))
  have Hpd:Hid (N / 10 ^ (j + 1)=0→(pad (j + 1) N).reverse=Lib.decDigits N):=fun h=>pad_dec hj (by
   rcases Nat.lt_or_ge N (10 ^ (j + 1)) with h' | h'
   ·exact h'
   ·have:=Nat.div_pos h' (Nat.pow_pos (by decide)); omega)
  have Hj1:Hid (N / 10 ^ (j + 1)≠0→10 ^ (j + 1)≤N):=fun h=>by
   rcases Nat.lt_or_ge N (10 ^ (j + 1)) with h' | h'
   ·exact absurd (Nat.div_eq_of_lt h') h
   ·exact h'
  have Hset:=Lib.hid fun x hx=>hD.set k x hx
  have hsl:∀ W,(Instr.sliceAt 141 (.pointer (some ⟨w.heap.size,0,none⟩)) (some (.int .i64 (k:Int))) none none).run Tryz.prog W = .ok (.slice (some ⟨w.heap.size,k,none⟩) (20 - k) (20 - k)) W:=fun W=>by
   have e20:Tryz.prog.arrayLen 141=20:=by simp [Program.arrayLen,Tryz.underlying141]
   rw [run_sliceAt_array_l W 141 ⟨w.heap.size,0,none⟩ (by simp [Program.arrayLen,Program.elem,Tryz.underlying141]) .i64 (k:Int) (by omega) (by rw [e20]; omega)]
   have eE:Tryz.prog.elem 141=5:=by simp [Program.elem,Tryz.underlying141]
   rw [eE]
   go_simp
   omega
  clear hD hDd hj
  generalize N / 10 ^ j=y at *
  obtain ⟨z,hzz⟩:∃ z,z=N / 10 ^ (j + 1):=⟨_,rfl⟩
  rw [← hzz] at Hdd Hpd Hj1
  have Hzz:=Lib.hid hzz
  clear hzz
  have hD1:=Hset.out (48 + y % 10) (by omega)
  have ev:((48 + y % 10:Nat):Int)=48 + (y:Int) % 10:=by omega
  rw [ev] at hD1
  have hb1:Below w.heap.size w (wr.setCell ⟨w.heap.size,k,none⟩ (.int .u8 (48 + (y:Int) % 10))):=HX.out.bel.setCell nr_ _
  have hcv:=hD1.text (src:=142) (dst:=28) (e:=5) k (20 - k) (20 - k) (by simp; omega) Tryz.underlying142 Tryz.underlying5 Tryz.underlying28
  rw [Hnew.out] at hcv
  have Hb1:=Lib.hid hb1
  have HD1:=Lib.hid hD1
  clear hD1 hb1
  by_cases hz0:z=0
  ·have hy0:((y:Int) / 10 == 0)=true:=by have:=Hdd.out; rw [beq_iff_eq]; omega
   rw [Hpd.out hz0] at hcv
   have Hcv:=Lib.hid hcv
   go_wp2
   go_ret
   exact ⟨by rw [Hd.out]; rfl,Hb1.out⟩
  ·have hy0:((y:Int) / 10 == 0)=false:=by have:=Hdd.out; rw [beq_eq_false_iff_ne]; omega
   clear hcv
   go_wp2
   go_roundw
   case rel=>exact ⟨j + 1,k,by omega,by rw [← Hzz.out,← Hdd.out]; simp,rfl,.inr (Hj1.out hz0),Hb1.out,_,HD1.out,by simp; omega,by rw [← Hnew.out]; congr 1; omega⟩
   case measure=>simp [intOf]
end Go.Proofs.YtlomhfknmhaboaaGreatDoor

namespace Go.Proofs.YtlomhfknmhaboaaGreatDoor
open Go.RowKit
set_option maxHeartbeats 1000000 in
theorem refCmp_any (w:World) (a b:Nat) :
  Gives Tryz.prog 73 #[.string (dec a),.string (dec b)] w (.int .i64 (cmpN a b)):=by
 unfold Gives
 by_cases hlen:(dec a).size=(dec b).size
 ·have hl2:(Lib.decDigits a).length=(Lib.decDigits b).length:=by rw [← dec_size,← dec_size]; exact hlen
  have h1:=less_dec a b hl2
  have h2:=same_dec a b
  have hlen2:(((dec a).size:Int) != (dec b).size)=false:=by simp [hlen]
  rcases Nat.lt_trichotomy a b with hlt | heq | hgt
  ·have Hv:Hid (cmpN a b = -1):=by show _=_; unfold cmpN; rw [if_pos hlt]
   rw [decide_eq_true hlt] at h1
   rw [decide_eq_false (show ¬ a=b by omega)] at h2
   clear hl2 hlen hlt
   generalize dec a=s at *
   generalize dec b=t at *
   go_enter Tryz.func73,Tryz.ntmps73
   go_wp2
   go_ret
   exact ⟨by rw [Hv.out]; rfl,Below.refl _ _⟩
  ·have Hv:Hid (cmpN a b=0):=by show _=_; unfold cmpN; rw [if_neg (by omega),if_pos heq]
   rw [decide_eq_false (show ¬ a < b by omega)] at h1
   rw [decide_eq_true heq] at h2
   clear hl2 hlen heq
   generalize dec a=s at *
   generalize dec b=t at *
   go_enter Tryz.func73,Tryz.ntmps73
   go_wp2
   go_ret
   exact ⟨by rw [Hv.out]; rfl,Below.refl _ _⟩
  ·have Hv:Hid (cmpN a b=1):=by show _=_; unfold cmpN; rw [if_neg (by omega),if_neg (by omega)]
   rw [decide_eq_false (show ¬ a < b by omega)] at h1
   rw [decide_eq_false (show ¬ a=b by omega)] at h2
   clear hl2 hlen hgt
   generalize dec a=s at *
   generalize dec b=t at *
   go_enter Tryz.func73,Tryz.ntmps73
   go_wp2
   go_ret
   exact ⟨by rw [Hv.out]; rfl,Below.refl _ _⟩
 ·rcases Nat.lt_or_gt_of_ne hlen with h | h
  ·have Hv:Hid (cmpN a b = -1):=by
    show _=_
    have:=dec_len_lt (a:=a) (b:=b) (by rw [← dec_size,← dec_size]; exact h)
    unfold cmpN; rw [if_pos this]
   clear hlen
   generalize dec a=s at *
   generalize dec b=t at *
   have hnn:((s.size:Int) != t.size)=true:=by rw [bne_iff_ne]; omega
   have hnn2:((s.size:Int) == t.size)=false:=by rw [beq_eq_false_iff_ne]; omega
   go_enter Tryz.func73,Tryz.ntmps73
   go_wp2
   all_goals
    go_ret
    exact ⟨by rw [Hv.out]; first | rfl | exact ret_int (by omega),Below.refl _ _⟩
  ·have Hv:Hid (cmpN a b=1):=by
    show _=_
    have:=dec_len_lt (a:=b) (b:=a) (by rw [← dec_size,← dec_size]; exact h)
    unfold cmpN; rw [if_neg (by omega),if_neg (by omega)]
   clear hlen
   generalize dec a=s at *
   generalize dec b=t at *
   have hnn:((s.size:Int) != t.size)=true:=by rw [bne_iff_ne]; omega
   have hnn2:((s.size:Int) == t.size)=false:=by rw [beq_eq_false_iff_ne]; omega
   go_enter Tryz.func73,Tryz.ntmps73
   go_wp2
   all_goals
    go_ret
    exact ⟨by rw [Hv.out]; first | rfl | exact ret_int (by omega),Below.refl _ _⟩
theorem dval_drop_zero {D:List UInt8} {k:Nat} (hk:k < D.length) (hz:(D.getD k 0).toNat=48):dval (D.drop (k + 1))=dval (D.drop k):=by
 rw [List.drop_eq_getElem_cons hk,dval_cons]
 rw [List.getD_eq_getElem?_getD,List.getElem?_eq_getElem hk] at hz
 simp only [Option.getD_some] at hz
 rw [hz]; simp
theorem trim_dec {D:List UInt8} {k V:Nat} (hd:Digs D) (hk:k < D.length) (hv:dval (D.drop k)=V) (hz:k + 1=D.length∨(D.getD k 0).toNat≠48):D.drop k=Lib.decDigits V:=by
 rw [← hv]
 refine canon_dec ⟨fun x hx=>hd x (List.mem_of_mem_drop hx),by simp; omega,?_⟩
 rcases hz with h | h
 ·left; simp; omega
 ·right
  rw [List.head?_drop]
  rw [List.getD_eq_getElem?_getD,List.getElem?_eq_getElem hk] at h
  rw [List.getElem?_eq_getElem hk]
  intro e
  rw [Option.some.injEq] at e
  simp only [Option.getD_some] at h
  rw [e] at h
  exact h rfl
set_option maxRecDepth 100000 in
set_option maxHeartbeats 4000000 in
theorem refTrim_any (w:World) (g:Nat) (t:TypeId) (D:List UInt8) (V:Nat) (hr:RowB w g t D) (hd:Digs D) (hn:0 < D.length) (hl:D.length≤10000000) (hv:dval D=V) :
  Gives Tryz.prog 138 #[.slice (some ⟨g,0,none⟩) D.length D.length] w (.string (dec V)):=by
 unfold Gives
 have Hd:Hid (dec V=⟨(Lib.decDigits V).toArray⟩):=rfl
 have HR:=Lib.hid hr
 obtain ⟨n,hnn⟩:∃ n,n=D.length:=⟨_,rfl⟩
 rw [← hnn] at hn hl ⊢
 have Hnn:=Lib.hid hnn
 have HD:=Lib.hid hd
 clear hr hd hnn
 go_enter Tryz.func138,Tryz.ntmps138
 go_wp2_with fail
 go_loop [3] (fun k=>∃ kk:Nat,kk < n∧k = .int .i64 kk∧Hid (dval (D.drop kk)=V)) (fun k=>n - (intOf k).toNat)
 case atStart=>exact ⟨0,hn,rfl,hv⟩
 case round =>
  obtain ⟨k,hk,rfl,HV⟩:=hrel
  have hc:=HR.out.cell (i:=k) (by rw [← Hnn.out]; exact hk)
  have hz:=HR.out.frozen k
  have Hz:=Lib.hid (dval_drop_zero (D:=D) (k:=k) (by rw [← Hnn.out]; exact hk))
  have Ht:=Lib.hid (trim_dec (D:=D) (k:=k) HD.out (by rw [← Hnn.out]; exact hk) HV.out)
  have Hcv:=Lib.hid (HR.out.text (src:=142) (dst:=28) (e:=5) k (n - k) (n - k) (by rw [← Hnn.out]; omega) Tryz.underlying142 Tryz.underlying5 Tryz.underlying28)
  generalize (D.getD k 0).toNat=b at *
  by_cases h1:k + 1 < n
  ·have h1':(k:Int) < n - 1:=by omega
   by_cases h2:b=48
   ·have h2':((b:Int) == 48)=true:=by rw [beq_iff_eq]; omega
    go_wp2_with fail
    go_round
    case rel=>exact ⟨k + 1,h1,by go_num,(Hz.out h2).trans HV.out⟩
    case measure=>simp [intOf]; omega
   ·have h2':((b:Int) == 48)=false:=by rw [beq_eq_false_iff_ne]; omega
    have hcv:=Hcv.out
    rw [Ht.out (.inr h2)] at hcv
    go_wp2
    go_ret
    exact ⟨by rw [Hd.out]; rfl,Below.refl _ _⟩
  ·have h1':¬ (k:Int) < n - 1:=by omega
   have hcv:=Hcv.out
   rw [Ht.out (.inl (by rw [← Hnn.out]; omega))] at hcv
   go_wp2
   go_ret
   exact ⟨by rw [Hd.out]; rfl,Below.refl _ _⟩
end Go.Proofs.YtlomhfknmhaboaaGreatDoor

namespace Go.Proofs.YtlomhfknmhaboaaGreatDoor
open Go.RowKit
theorem elU64:ElemOf Tryz.prog 145 112 (.int .u64 0) 1 8:=⟨Tryz.underlying145,info_parts infoU,rfl,by decide⟩
def GivesL (f:FuncId) (args:Array Value) (w:World) (n k:Nat):Prop :=
 Calls Tryz.prog f args w fun e w'=>∃ a c L,e = .returned (.slice a L.length c)∧OwnU w' w.heap.size a c L∧Below w.heap.size w w'∧Pcs L∧val L=n∧L.length≤k
set_option maxRecDepth 100000 in
set_option maxHeartbeats 4000000 in
theorem refLimbs_any (s:ByteArray) (w:World) (hd:Digs (lb s)) (hl:s.size≤10000000) :
  GivesL 112 #[.string s] w (dval (lb s)) (s.size / 9 + 1):=by
 unfold GivesL
 have Hd:=Lib.hid hd
 clear hd
 have hlb:(lb s).length=s.size:=lb_length s
 have Hlb:=Lib.hid hlb
 clear hlb
 go_enter Tryz.func112,Tryz.ntmps112
 go_wp2_with fail
 go_loopw [3,4] (fun o z wr=>∃ (j:Nat) (a:Option Addr) (c:Nat),9 * j < s.size + 9∧z = .int .i64 ((s.size:Int) - 9 * j)∧o = .slice a j c∧Hid (CAt s w.heap.size j a c w wr)) (fun _ z _=>(intOf z + 9).toNat)
 case atStart=>exact ⟨0,_,_,by omega,by simp,rfl,⟨by simpa [digs9] using OwnU.nil w w.heap.size,Below.refl _ _,Nat.le_refl _⟩⟩
 case round =>
  obtain ⟨j,a,c,hj,rfl,rfl,HC⟩:=hrel
  by_cases hpos:9 * j < s.size
  ·obtain ⟨e,he⟩:∃ e,s.size - 9 * j=e:=⟨_,rfl⟩
   have hz:(s.size:Int) - 9 * j=(e:Int):=by omega
   obtain ⟨lo,hlo⟩:∃ lo,lo=s.size - 9 * j - 9:=⟨_,rfl⟩
   obtain ⟨K,hK⟩:∃ K,K=min 9 (s.size - 9 * j):=⟨_,rfl⟩
   have hmx:max ((e:Int) - 9) 0=(lo:Int):=by omega
   have hmx2:max 0 ((e:Int) - 9)=(lo:Int):=by omega
   have hek:e=lo + K:=by omega
   have hK0:0 < K:=by omega
   have hK9:K≤9:=by omega
   have hes:lo + K≤s.size:=by omega
   have Hdv:Hid (dval (((lb s).drop lo).take K)=dval (lb s) / 1000000000 ^ j % 1000000000):=by
    show _=_
    rw [hlo,hK,← Hlb.out]
    exact chunk_val (lb s) Hd.out j (by rw [Hlb.out]; exact hpos)
   have Hnx:Hid ((s.size:Int) - 9 * (j + 1:Nat)=(e:Int) - 9):=by show _=_; omega
   have hj2:9 * (j + 1) < s.size + 9:=by omega
   rw [hz]
   have hez:(0:Int) < e:=by omega
   have hez2:0 < e:=by omega
   have hez3:decide (0 < e)=true:=decide_eq_true hez2
   have Hch:Hid (∀ t,t < K→∃ h:lo + t < s.size,(((lb s).drop lo).take K).getD t 0=s[lo + t]'h):=fun t ht=>⟨by omega,by
    simp only [List.getD_eq_getElem?_getD,List.getElem?_take,List.getElem?_drop]
    rw [if_pos ht,List.getElem?_eq_getElem (by rw [Hlb.out]; omega)]
    rfl⟩
   have Hdc:Hid (Digs (((lb s).drop lo).take K)):=(Hd.out.drop _).take _
   have Hlc:Hid ((((lb s).drop lo).take K).length=K):=by show _=_; simp only [List.length_take,List.length_drop,Hlb.out]; omega
   have hek1:e≤lo + K:=by omega
   have hek2:lo + K≤e:=by omega
   clear he hlo hK hz hek
   generalize ((lb s).drop lo).take K=ch at *
   go_wp2_with fail
   go_loopw [5,6] (fun n i w2=>∃ t:Nat,t≤K∧i = .int .i64 ((lo:Int) + t)∧n = .int .u64 (dval (ch.take t):Nat)∧Hid (w2=wr)) (fun _ i _=>e - (intOf i).toNat)
   case atStart=>exact ⟨0,Nat.zero_le _,by simp,rfl,rfl⟩
   case round =>
    obtain ⟨t,ht,rfl,rfl,Hww⟩:=hrel
    obtain rfl:=Hww.out
    have hD:=dval_take_lt Hdc.out t (by omega)
    by_cases hlt:t < K
    ·obtain ⟨hlo2,hcx⟩:=Hch.out t hlt
     have hts:=dval_take_succ ch t (by rw [Hlc.out]; exact hlt)
     have hcd:=Hdc.out (ch.getD t 0) (by rw [List.getD_eq_getElem?_getD,List.getElem?_eq_getElem (by rw [Hlc.out]; exact hlt)]; exact List.getElem_mem _)
     have Hts:=Lib.hid hts
     clear hts
     generalize dval (ch.take t)=D at *
     rw [hcx] at hcd Hts
     clear hcx
     generalize hb:(s[lo + t]'hlo2).toNat=b at *
     obtain ⟨hc1,hc2⟩:=hcd
     have hlt':(lo:Int) + t < e:=by omega
     go_wp2
     go_roundw
     case rel=>exact ⟨t + 1,by omega,by go_num,by rw [Hts.out]; congr 1; omega,trivial⟩
     case measure=>simp [intOf]; omega
    ·obtain rfl:t=K:=by omega
     have hDt:dval (ch.take t)=dval (lb s) / 1000000000 ^ j % 1000000000:=by
      rw [← Hlc.out,List.take_length]; exact Hdv.out
     have HDt:=Lib.hid hDt
     clear hDt
     generalize dval (ch.take t)=D at *
     have hlt':¬ (lo:Int) + t < e:=by omega
     have hme:(0:Int) < e:=by omega
     have hrow:wr.ownsRow w.heap.size 112 1 (.slice a j c) j (u64s (digs9 (dval (lb s)) j)):=by have:=HC.out.own; unfold OwnU at this; rw [digs9_length] at this; exact this
     have Hrow:=Lib.hid hrow
     clear hrow
     go_wp2_with (at_builtin; refine wpList_append_new rfl (.tmp 29) (.tmp 31) 145 rfl elU64 _ 1 [.int .u64 D] rfl rfl Hrow.out HC.out.siz rfl ?c1 (by omega) (by omega) ?_)
     case c1=>first | rfl | (intro u hu; obtain rfl:=List.mem_singleton.1 hu; rfl)
     intro v' w3 hown3 hg3 _
     obtain ⟨a3,c3,rfl⟩:=own_form hown3
     have HC3:Hid (CAt s w.heap.size (j + 1) a3 c3 w w3):=by
      refine ⟨?_,(HC.out.bel.alloc HC.out.siz _).grown hg3 (by have:=HC.out.siz; simp; omega) (fun k hk=>(Hrow.out.lt k hk).1),Nat.le_trans HC.out.siz (Nat.le_trans (by simp) hg3.size)⟩
      unfold OwnU
      rw [digs9_length,digs9_succ,u64s_append]
      have:=hown3
      rw [HDt.out] at this
      exact this
     clear hown3 hg3 HC
     go_wp2
     go_roundw
     case rel=>exact ⟨j + 1,a3,c3,hj2,by rw [Hnx.out],rfl,HC3⟩
     case measure=>simp [intOf]; omega
  ·have hz:¬ (0:Int) < (s.size:Int) - 9 * j:=by omega
   have hv:val (digs9 (dval (lb s)) j)=dval (lb s):=by
    rw [digs9_val,Nat.mod_eq_of_lt]
    have h1:=dval_lt Hd.out
    rw [Hlb.out] at h1
    have h2:10 ^ s.size≤10 ^ (9 * j):=Nat.pow_le_pow_right (by decide) (by omega)
    rw [show (1000000000:Nat) ^ j=10 ^ (9 * j) by rw [Nat.pow_mul]]
    omega
   have Hv:=Lib.hid hv
   clear hv
   go_wp2
   go_ret
   exact ⟨a,c,digs9 (dval (lb s)) j,by rw [digs9_length]; rfl,HC.out.own,HC.out.bel,digs9_pcs _ _,Hv.out,by rw [digs9_length]; omega⟩
end Go.Proofs.YtlomhfknmhaboaaGreatDoor

namespace Go.Proofs.YtlomhfknmhaboaaGreatDoor
open Go.RowKit
theorem dval_pad (k:Nat):∀ x,dval (pad k x).reverse=x % 10 ^ k:=by
 induction k with
 | zero=>intro x; simp [pad,dval,Nat.mod_one]
 | succ k ih =>
  intro x
  rw [pad_succ,List.reverse_append]
  show dval (UInt8.ofNat (48 + x / 10 ^ k % 10) :: (pad k x).reverse)=_
  rw [dval_cons,ih,List.length_reverse,pad_length,dig_toNat (Nat.mod_lt _ (by decide)),Nat.add_sub_cancel_left,Nat.pow_succ,Nat.mod_mul,Nat.mul_comm,Nat.add_comm]
theorem pad_digs (k:Nat):∀ x,Digs (pad k x):=by
 induction k with
 | zero=>intro x c hc; cases hc
 | succ k ih =>
  intro x c hc
  rcases List.mem_cons.1 hc with rfl | hc
  ·rw [dig_toNat (Nat.mod_lt _ (by decide))]
   have:=Nat.mod_lt x (show 0 < 10 by decide)
   omega
  ·exact ih _ c hc
theorem pre_digs (p:List Nat) (k:Nat):Digs (pre p k):=by
 intro c hc
 obtain ⟨x,_,hx⟩:=List.mem_flatMap.1 hc
 exact pad_digs 9 x c hx
theorem Digs.reverse {l:List UInt8} (h:Digs l):Digs l.reverse:=fun c hc=>h c (List.mem_reverse.1 hc)
theorem dval_pre (p:List Nat) (hp:Pcs p):∀ k,k≤p.length→dval (pre p k).reverse=val (p.take k)
 | 0,_=>by simp [pre,dval,val]
 | k + 1,h=>by
  rw [pre_succ p k h,List.reverse_append,dval_append,dval_pad,dval_pre p hp k (by omega),List.length_reverse,pre_length p k (by omega),val_take_succ p k h,Nat.mod_eq_of_lt (show p.getD k 0 < 10 ^ 9 from hp.getD k),Nat.pow_mul,
   show (10:Nat) ^ 9=1000000000 from rfl,Nat.mul_comm,Nat.add_comm]
structure JAt (w:World) (n:Nat) (T:List UInt8) (wr:World):Prop where
 row:∃ D,RowB wr w.heap.size 5 D∧D.length=9 * n + 1∧(D.getD 0 0).toNat=48∧D.drop (9 * n + 1 - T.length)=T
 bel:Below w.heap.size w wr
theorem JAt.set {w wr:World} {n:Nat} {T:List UInt8} (h:JAt w n T wr) (m x:Nat) (hm:m + T.length=9 * n) (hm0:0 < m) (hx:x < 256):JAt w n (UInt8.ofNat x :: T) (wr.setCell ⟨w.heap.size,m,none⟩ (.int .u8 (x:Nat))):=by
 obtain ⟨D,h1,h2,h3,h4⟩:=h.row
 refine ⟨⟨D.set m (UInt8.ofNat x),h1.set m x hx,by rw [List.length_set]; exact h2,?_,?_⟩,h.bel.setCell nr_ _⟩
 ·rw [List.getD_eq_getElem?_getD,List.getElem?_set_ne (by omega),← List.getD_eq_getElem?_getD]; exact h3
 ·have e:9 * n + 1 - (UInt8.ofNat x :: T).length=m:=by simp; omega
  rw [e,List.drop_eq_getElem_cons (by simp; omega),List.getElem_set_self,List.drop_set,if_pos (by omega)]
  congr 1
  rw [← h4]
  congr 1
  omega
theorem JAt.cell {w wr:World} {n:Nat} {T:List UInt8} (h:JAt w n T wr) (m:Nat) (hm:m≤9 * n):(∃ x:Nat,wr.cell? ⟨w.heap.size,m,none⟩=some (.int .u8 x))∧wr.frozen? ⟨w.heap.size,m,none⟩=false:=by
 obtain ⟨D,h1,h2,_,_⟩:=h.row
 exact ⟨⟨_,h1.cell (by omega)⟩,h1.frozen m⟩
theorem JAt.done {w wr:World} {n:Nat} {T:List UInt8} (h:JAt w n T wr) (hT:T.length=9 * n) (hd:Digs T):∃ D,RowB wr w.heap.size 5 D∧D.length=9 * n + 1∧Digs D∧dval D=dval T:=by
 obtain ⟨D,h1,h2,h3,h4⟩:=h.row
 have e:9 * n + 1 - T.length=1:=by omega
 rw [e] at h4
 match D,h2,h3,h4 with
 | c :: D,h2,h3,h4 =>
  obtain rfl:D=T:=by simpa using h4
  have hc:c.toNat=48:=by simpa using h3
  refine ⟨_,h1,h2,fun y hy=>?_,?_⟩
  ·rcases List.mem_cons.1 hy with rfl | hy
   ·omega
   ·exact hd y hy
  ·rw [dval_cons,hc]; simp
theorem jat_start (w:World) (n:Nat):JAt w n [] ((w.alloc (.cells (madeCells #[.int .u8 0] (9 * n + 1)) 5)).setCell ⟨w.heap.size,0,none⟩ (.int .u8 (48:Nat))):=by
 have h0:RowB (w.alloc (.cells (madeCells #[.int .u8 0] (9 * n + 1)) 5)) w.heap.size 5 (List.replicate (9 * n + 1) 0):=by
  unfold RowB
  rw [List.length_replicate]
  refine (World.rowIs_made w (.int .u8 0) (9 * n + 1) 5).congr fun j hj=>?_
  rw [List.getD_eq_getElem?_getD,List.getElem?_replicate,if_pos hj]; rfl
 refine ⟨⟨(List.replicate (9 * n + 1) 0).set 0 (UInt8.ofNat 48),h0.set 0 48 (by decide),by simp,by simp [List.replicate_succ],by simp⟩,((Below.refl _ _).alloc nr_ _).setCell nr_ _⟩
set_option maxRecDepth 100000 in
set_option maxHeartbeats 4000000 in
theorem refJoin_any (w:World) (a:Option Addr) (c:Nat) (p:List Nat) (h1:ReadsU w a p) (p1:Pcs p) (l1:p.length≤1000000) :
  Gives Tryz.prog 113 #[.slice a p.length c] w (.string (dec (val p))):=by
 unfold Gives
 have H1:=Lib.hid h1
 have P1:=Lib.hid p1
 clear h1 p1
 generalize hn:p.length=n at *
 have Hn:=Lib.hid hn
 clear hn
 have hmk:=run_make_row' (P:=Tryz.prog) 142 5 (.int .u8 0) 1 Tryz.underlying142 infoB rfl .i64 .i64 (9 * n + 1) (by omega) (by omega) w
 have HJ:=Lib.hid (jat_start w n)
 have hc0:(w.alloc (.cells (madeCells #[.int .u8 0] (9 * n + 1)) 5)).cell? ⟨w.heap.size,0,none⟩=some (.int .u8 0):=World.rowIs.cell (World.rowIs_made w (.int .u8 0) (9 * n + 1) 5) (by omega)
 have hf0:(w.alloc (.cells (madeCells #[.int .u8 0] (9 * n + 1)) 5)).frozen? ⟨w.heap.size,0,none⟩=false:=World.rowIs.frozen (World.rowIs_made w (.int .u8 0) (9 * n + 1) 5) 0
 push_cast at hmk
 generalize w.alloc (.cells (madeCells #[.int .u8 0] (9 * n + 1)) 5)=w1 at *
 go_enter Tryz.func113,Tryz.ntmps113
 go_wp2_with fail
 go_loopw [4] (fun z wr=>∃ k:Nat,k≤n∧z = .int .i64 k∧Hid (JAt w n (pre p k).reverse wr)) (fun z _=>n - (intOf z).toNat)
 case atStart=>exact ⟨0,Nat.zero_le _,rfl,by show JAt _ _ _ _; simpa [pre] using HJ.out⟩
 case round =>
  obtain ⟨k,hk,rfl,HK⟩:=hrel
  clear HJ hc0 hf0 hmk
  by_cases hlt:k < n
  ·obtain ⟨b1,o1,rfl,hb1,hc1⟩:=H1.out.open (by rw [Hn.out]; omega)
   have cx:=hc1 k (by rw [Hn.out]; exact hlt)
   rw [← HK.out.bel.cell (p:=⟨b1,o1 + k,none⟩) hb1] at cx
   have hx:=P1.out.getD k
   have Hsc:=Lib.hid (pre_succ p k (by rw [Hn.out]; exact hlt))
   have Hpl:=Lib.hid (pre_length p k (by rw [Hn.out]; omega))
   clear hc1
   generalize p.getD k 0=x at *
   have hlt':(k:Int) < n:=by omega
   go_wp2_with fail
   go_loopw [5,6] (fun u z wr=>∃ i m y:Nat,i≤9∧m + (9 * k + i)=9 * n∧z = .int .i64 i∧u = .int .u64 y∧y < 1000000000∧Hid (y=x / 10 ^ i)∧Hid (JAt w n ((pad i x).reverse ++ (pre p k).reverse) wr)) (fun _ z _=>9 - (intOf z).toNat)
   case atStart=>exact ⟨0,9 * n - 9 * k,x,by omega,by omega,rfl,rfl,hx,by show _=_; simp,by show JAt _ _ _ _; simpa [pad] using HK.out⟩
   case round =>
    obtain ⟨i,m,y,hi,hm,rfl,rfl,hy,Hy,HI⟩:=hrel
    by_cases hlt2:i < 9
    ·obtain ⟨⟨x0,hcm⟩,hfm⟩:=HI.out.cell m (by omega)
     have hm0:0 < m:=by omega
     have hst:=HI.out.set m (48 + y % 10) (by simp only [List.length_append,List.length_reverse,pad_length,Hpl.out]; omega) hm0 (by omega)
     have ev:((48 + y % 10:Nat):Int)=48 + (y:Int) % 10:=by omega
     rw [ev] at hst
     have HS:Hid (JAt w n ((pad (i + 1) x).reverse ++ (pre p k).reverse) (wr.setCell ⟨w.heap.size,m,none⟩ (.int .u8 (48 + (y:Int) % 10)))):=by
      rw [pad_succ,List.reverse_append]
      have:=hst
      rw [Hy.out] at this ⊢
      exact this
     have Hyn:Hid (y / 10=x / 10 ^ (i + 1)):=by show _=_; rw [Hy.out,Nat.div_div_eq_div_mul,Nat.pow_succ]
     clear hst
     have hix:(9 * (n:Int) - 9 * k - i)=m:=by omega
     have hlt2':(i:Int) < 9:=by omega
     go_wp2
     go_roundw
     case rel=>exact ⟨i + 1,m - 1,y / 10,by omega,by omega,by go_num,by go_num,by omega,Hyn.out,HS.out⟩
     case measure=>simp [intOf]; omega
    ·obtain rfl:i=9:=by omega
     have HS:Hid (JAt w n (pre p (k + 1)).reverse wr):=by
      rw [Hsc.out,List.reverse_append]; exact HI.out
     go_wp2
     go_roundw
     case rel=>exact ⟨k + 1,by omega,by go_num,HS⟩
     case measure=>simp [intOf]; omega
  ·obtain rfl:k=n:=by omega
   obtain ⟨D,hD1,hD2,hD3,hD4⟩:=HK.out.done (by rw [List.length_reverse,pre_length p k (by rw [Hn.out]; omega)]) (pre_digs p k).reverse
   have hv:=dval_pre p P1.out k (by rw [Hn.out]; omega)
   have et:p.take k=p:=by rw [← Hn.out,List.take_length]
   rw [et] at hv
   have htr:=refTrim_any wr w.heap.size 5 D (val p) hD1 hD3 (by omega) (by omega) (hD4.trans hv)
   rw [hD2] at htr
   have Htr:=Lib.hid htr
   clear htr hD1 hD2 hD3 hD4 hv et
   push_cast at Htr
   go_wp2_with fail
   refine (Htr.out).mono ?_
   rintro e w2 ⟨rfl,hb2⟩
   have Hb2:=Lib.hid (HK.out.bel.trans (hb2.mono HK.out.bel.size))
   clear hb2 Htr
   go_wp2
   go_ret
   exact ⟨rfl,Hb2.out⟩
end Go.Proofs.YtlomhfknmhaboaaGreatDoor

namespace Go.Proofs.YtlomhfknmhaboaaGreatDoor
open Go.RowKit
theorem made_u64 (n:Nat) (w:World) (hn:n≤100000000) :
  (Instr.makeSlice 145 (.int .i64 (n:Int)) (.int .i64 (n:Int))).run Tryz.prog w = .ok (.slice (some ⟨w.heap.size,0,none⟩) n n) (w.alloc (.cells (u64s (List.replicate n 0)).toArray 112)):=by
 have:=run_make_row' (P:=Tryz.prog) 145 112 (.int .u64 0) 8 Tryz.underlying145 infoU rfl .i64 .i64 n (by omega) (by omega) w
 rw [made_zeros] at this
 exact this
structure ROut (p q:List Nat) (B k:Nat) (L:List Nat) (w wr:World):Prop where
 len:L.length=p.length + q.length + 1
 pcs:Pcs L
 v:val L=val (p.take k) * val q
 z:∀ j,k + q.length≤j→L.getD j 0=0
 own:OwnU wr B (some ⟨B,0,none⟩) (p.length + q.length + 1) L
 bel:Below B w wr
structure RIn (p q L:List Nat) (B i m cc:Nat) (M:List Nat) (w wr:World):Prop where
 len:M.length=p.length + q.length + 1
 pcs:Pcs M
 v:val M + 1000000000 ^ (i + m) * cc=val L + 1000000000 ^ i * (p.getD i 0 * val (q.take m))
 z:∀ j,i + q.length≤j→M.getD j 0=0
 own:OwnU wr B (some ⟨B,0,none⟩) (p.length + q.length + 1) M
 bel:Below B w wr
theorem digs_dec (n:Nat):Digs (lb (dec n)):=dec_digs n
theorem refQuickV_form (n:Nat):∃ (u:Nat) (b:Bool),refQuickV (dec n) = .tuple #[.int .u64 u,.bool b]∧(b=true→u=n)∧(b=true↔(dec n).size≤18):=by
 unfold refQuickV
 by_cases h:(dec n).size≤18
 ·rw [if_pos h]
  exact ⟨_,_,rfl,fun _=>dval_dec n,by simp [h]⟩
 ·rw [if_neg h]
  exact ⟨_,_,rfl,by simp,by simp [h]⟩
set_option maxRecDepth 100000 in
set_option maxHeartbeats 16000000 in
theorem refMul_any (w:World) (x y:Nat) (hx:Num x) (hy:Num y) :
  Gives Tryz.prog 72 #[.string (dec x),.string (dec y)] w (.string (dec (x * y))):=by
 unfold Gives
 have hx1:(dec x).size≤1000000:=hx
 have hy1:(dec y).size≤1000000:=hy
 have Hq1:=Lib.hid fun w:World=>refQuick_any w (dec x) (digs_dec x) (by omega)
 have Hq2:=Lib.hid fun w:World=>refQuick_any w (dec y) (digs_dec y) (by omega)
 obtain ⟨u1,b1,e1,f1,g1⟩:=refQuickV_form x
 obtain ⟨u2,b2,e2,f2,g2⟩:=refQuickV_form y
 rw [e1] at Hq1
 rw [e2] at Hq2
 clear e1 e2
 by_cases hs:(dec x).size + (dec y).size≤18
 ·obtain rfl:=g1.2 (by omega)
  obtain rfl:=g2.2 (by omega)
  obtain rfl:=f1 rfl
  obtain rfl:=f2 rfl
  have d1:=(dec_length u1 (dec u1).size (by rw [dec_size]; exact dec_pos u1)).1 (by rw [dec_size]; exact Nat.le_refl _)
  have d2:=(dec_length u2 (dec u2).size (by rw [dec_size]; exact dec_pos u2)).1 (by rw [dec_size]; exact Nat.le_refl _)
  have d3:u1 * u2 < 10 ^ ((dec u1).size + (dec u2).size):=by rw [Nat.pow_add]; exact Nat.mul_lt_mul_of_lt_of_lt d1 d2
  have d4:10 ^ ((dec u1).size + (dec u2).size)≤10 ^ 18:=Nat.pow_le_pow_right (by decide) hs
  have d5:u1 * u2 < 18446744073709551616:=by omega
  have hw1:IntKind.u64.wrap ((u1:Int) * (u2:Int))=((u1 * u2:Nat):Int):=by rw [← Int.natCast_mul]; exact wrap_u _ d5
  have HOf:=Lib.hid fun w:World=>refOf_any w (u1 * u2) d5
  have hs':((dec u1).size:Int) + (dec u2).size≤18:=by omega
  clear f1 f2 g1 g2 d1 d2 d3 d4 d5 hx hy hx1 hy1
  generalize dec (u1 * u2)=r at *
  generalize u1 * u2=u at *
  generalize dec u1=s1 at *
  generalize dec u2=s2 at *
  go_enter Tryz.func72,Tryz.ntmps72
  go_wp2_with fail
  refine (Hq1.out _).mono ?_
  rintro e w1 ⟨rfl,hb1⟩
  have Hb1:=Lib.hid hb1
  clear hb1
  go_wp2_with fail
  refine (Hq2.out _).mono ?_
  rintro e w2 ⟨rfl,hb2⟩
  have Hb2:=Lib.hid (Hb1.out.trans (hb2.mono Hb1.out.size))
  clear hb2
  go_wp2_with fail
  refine (HOf.out _).mono ?_
  rintro e w3 ⟨rfl,hb3⟩
  have Hb3:=Lib.hid (Hb2.out.trans (hb3.mono Hb2.out.size))
  clear hb3
  go_wp2
  go_ret
  exact ⟨rfl,Hb3.out⟩
 ·have hs':¬ ((dec x).size:Int) + (dec y).size≤18:=by omega
  have HL1:=Lib.hid fun w:World=>refLimbs_any (dec x) w (digs_dec x) (by omega)
  have HL2:=Lib.hid fun w:World=>refLimbs_any (dec y) w (digs_dec y) (by omega)
  have ev1:dval (lb (dec x))=x:=dval_dec x
  have ev2:dval (lb (dec y))=y:=dval_dec y
  rw [ev1] at HL1
  rw [ev2] at HL2
  clear f1 f2 g1 g2 ev1 ev2 hx hy
  obtain ⟨r,hr⟩:∃ r,dec (x * y)=r:=⟨_,rfl⟩
  rw [hr]
  have Hr2:Hid (r=dec (x * y)):=hr.symm
  clear hr
  generalize dec x=s1 at *
  generalize dec y=s2 at *
  unfold GivesL at HL1 HL2
  go_enter Tryz.func72,Tryz.ntmps72
  go_wp2_with fail
  refine (Hq1.out _).mono ?_
  rintro e w1 ⟨rfl,hb1⟩
  have Hb1:=Lib.hid hb1
  clear hb1
  go_wp2_with fail
  refine (Hq2.out _).mono ?_
  rintro e w2 ⟨rfl,hb2⟩
  have Hb2:=Lib.hid (Hb1.out.trans (hb2.mono Hb1.out.size))
  clear hb2 Hq1 Hq2
  cases b1 <;> cases b2
  all_goals
   go_wp2_with fail
   refine Calls.mono (HL1.out _) ?_
   rintro e w3 ⟨a1,c1,p,rfl,ho1,hb3,p1,v1,n1⟩
   have Hb3:=Lib.hid (Hb2.out.trans (hb3.mono Hb2.out.size))
   clear hb3
   go_wp2_with fail
   refine Calls.mono (HL2.out _) ?_
   rintro e w4 ⟨a2,c2,q,rfl,ho2,hb4,p2,v2,n2⟩
   have H1:=Lib.hid (ho1.reads.below hb4 nr_)
   have H2:=Lib.hid ho2.reads
   have Hb4:=Lib.hid (Hb3.out.trans (hb4.mono Hb3.out.size))
   have P1:=Lib.hid p1
   have P2:=Lib.hid p2
   have V1:=Lib.hid v1
   have V2:=Lib.hid v2
   clear ho1 ho2 hb4 p1 p2 v1 v2 HL1 HL2
   generalize hn:p.length=n at *
   generalize hm:q.length=m at *
   have Hn:=Lib.hid hn
   have Hm:=Lib.hid hm
   have hnm:n + m≤500000:=by omega
   clear hn hm n1 n2
   have hmk:=made_u64 (n + m + 1) w4 (by omega)
   have Hown:=Lib.hid (own_made w4 (List.replicate (n + m + 1) 0) (by simp; omega))
   have Hb:=Lib.hid ((Below.refl w4.heap.size w4).alloc nr_ (.cells (u64s (List.replicate (n + m + 1) 0)).toArray 112))
   push_cast at hmk
   generalize w4.alloc (.cells (u64s (List.replicate (n + m + 1) 0)).toArray 112)=w5 at *
   go_wp2_with fail
   go_loopw [12] (fun i wr=>∃ (k:Nat) (L:List Nat),k≤n∧i = .int .i64 k∧Hid (ROut p q w4.heap.size k L w4 wr)) (fun i _=>n - (intOf i).toNat)
   case atStart =>
    refine ⟨0,List.replicate (n + m + 1) 0,Nat.zero_le _,rfl,?_⟩
    refine ⟨by simp [Hn.out,Hm.out],Pcs.zeros _,by simp [val_zeros,val],fun j _=>?_,?_,Hb.out⟩
    ·rw [List.getD_eq_getElem?_getD,List.getElem?_replicate]; split <;> rfl
    ·have:=Hown.out
     rw [List.length_replicate] at this
     rw [Hn.out,Hm.out]; exact this
   case round =>
    obtain ⟨k,L,hk,rfl,HT⟩:=hrel
    clear Hown Hb hmk
    by_cases hlt:k < n
    ·obtain ⟨b1,o1,rfl,hb1,hc1⟩:=H1.out.open (by rw [Hn.out]; omega)
     have hlt':(k:Int) < n:=by omega
     go_wp2_with fail
     go_loopw [13,14] (fun c j wr=>∃ (t cc:Nat) (M:List Nat),t≤m∧cc < 1000000000∧j = .int .i64 t∧c = .int .u64 cc∧Hid (RIn p q L w4.heap.size k t cc M w4 wr)) (fun _ j _=>m - (intOf j).toNat)
     case atStart =>
      refine ⟨0,0,L,Nat.zero_le _,by omega,rfl,rfl,?_⟩
      exact ⟨HT.out.len,HT.out.pcs,by simp [val],HT.out.z,HT.out.own,HT.out.bel⟩
     case round =>
      obtain ⟨t,cc,M,ht,hcc,rfl,rfl,HI⟩:=hrel
      obtain ⟨g,hg,hg1,hg2,hg3,hg4,hg5⟩:=HI.out.own.open (by rw [HI.out.len]; omega)
      obtain rfl:w4.heap.size=g:=by simpa using hg
      clear hg
      by_cases hlt2:t < m
      ·have cx:=hc1 k (by rw [Hn.out]; exact hlt)
       rw [← HI.out.bel.cell (p:=⟨b1,o1 + k,none⟩) hb1] at cx
       have hx:=P1.out.getD k
       obtain ⟨x,hxx⟩:∃ x,p.getD k 0=x:=⟨_,rfl⟩
       rw [hxx] at cx hx
       have Hxx:=Lib.hid hxx
       clear hxx
       obtain ⟨b2,o2,rfl,hb2,hc2⟩:=H2.out.open (by rw [Hm.out]; omega)
       have cy:=hc2 t (by rw [Hm.out]; exact hlt2)
       rw [← HI.out.bel.cell (p:=⟨b2,o2 + t,none⟩) hb2] at cy
       have hy:=P2.out.getD t
       have ce:=hg4 (k + t) (by rw [HI.out.len,Hn.out,Hm.out]; omega)
       have he:=HI.out.pcs.getD (k + t)
       have fe:=hg5 (k + t)
       have hxy:=mul_lt hx hy
       have hstep:=times_step M q k t x cc (val L) (by rw [Hm.out]; exact hlt2) (by rw [HI.out.len,Hn.out,Hm.out]; omega) (by have:=HI.out.v; rw [Hxx.out] at this; exact this)
       have hw1:IntKind.u64.wrap ((x:Int) * (q.getD t 0:Nat))=((x * q.getD t 0:Nat):Int):=by
        rw [← Int.natCast_mul]; exact wrap_u _ (by omega)
       have HI2:Hid (∀ nq,RIn p q L w4.heap.size k (t + 1) ((cc + (M.getD (k + t) 0 + x * q.getD t 0)) / 1000000000) (M.set (k + t) ((cc + (M.getD (k + t) 0 + x * q.getD t 0)) % 1000000000)) w4 ((wr.drewN nq).setCell ⟨w4.heap.size,k + t,none⟩ (.int .u64 ((cc + (M.getD (k + t) 0 + x * q.getD t 0)) % 1000000000:Nat)))) :=
        fun nq=>⟨by rw [List.length_set]; exact HI.out.len,HI.out.pcs.set _ _ (Nat.mod_lt _ (by decide)),by rw [Hxx.out]; exact hstep,fun j hj=>by rw [limb_set_ne _ _ _ _ (by have:=Hm.out; omega)]; exact HI.out.z j hj,(HI.out.own.below (below_dn (Below.refl _ _) nq) nr_).store (k + t) _,(below_dn HI.out.bel nq).setCell (p:=⟨w4.heap.size,k + t,none⟩) nr_ _⟩
       clear hstep hc2 hg4 hg5
       generalize M.getD (k + t) 0=e at *
       generalize q.getD t 0=y at *
       generalize x * y=xy at *
       have hd1:((e:Int) + (xy:Int) + (cc:Int)) % 1000000000=(((cc + (e + xy)) % 1000000000:Nat):Int):=by omega
       have hd2:((e:Int) + (xy:Int) + (cc:Int)) / 1000000000=(((cc + (e + xy)) / 1000000000:Nat):Int):=by omega
       have hd3:(cc + (e + xy)) / 1000000000 < 1000000000:=by omega
       have hd4:(cc + (e + xy)) % 1000000000 < 1000000000:=Nat.mod_lt _ (by decide)
       generalize (cc + (e + xy)) / 1000000000=c2 at *
       generalize (cc + (e + xy)) % 1000000000=d at *
       have hlt2':(t:Int) < m:=by omega
       go_wp2_with fail
       go_quiet (fail)
       go_wp2
       go_roundw
       case rel=>exact ⟨t + 1,c2,_,by omega,hd3,by go_num,by rw [hd2],HI2.out _⟩
       case measure=>simp [intOf]; omega
      ·obtain rfl:t=m:=by omega
       have fe:=hg5 (k + t)
       have ce:=hg4 (k + t) (by rw [HI.out.len,Hn.out,Hm.out]; omega)
       have hz0:M.getD (k + t) 0=0:=HI.out.z _ (by rw [Hm.out]; exact Nat.le_refl _)
       rw [hz0] at ce
       have hrow:=times_row L M p q k cc (by rw [Hn.out]; exact hlt) (by rw [HI.out.len,Hn.out,Hm.out]; omega) (by rw [Hm.out]; exact hz0) HT.out.v (by rw [Hm.out]; exact HI.out.v)
       rw [Hm.out] at hrow
       have HT2:Hid (ROut p q w4.heap.size (k + 1) (M.set (k + t) cc) w4 (wr.setCell ⟨w4.heap.size,k + t,none⟩ (.int .u64 (cc:Nat)))) :=
        ⟨by rw [List.length_set]; exact HI.out.len,HI.out.pcs.set _ _ hcc,hrow,fun j hj=>by rw [limb_set_ne _ _ _ _ (by have:=Hm.out; omega)]; exact HI.out.z j (by omega),HI.out.own.store (k + t) cc,HI.out.bel.setCell (p:=⟨w4.heap.size,k + t,none⟩) nr_ _⟩
       clear hrow hg4 hg5 hlt2 HT hz0
       go_wp2
       go_roundw
       case rel=>exact ⟨k + 1,_,by omega,by go_num,HT2⟩
       case measure=>simp [intOf]; omega
    ·obtain rfl:k=n:=by omega
     have hv:val L=x * y:=by
      have:=HT.out.v
      rw [← Hn.out,List.take_length,V1.out,V2.out] at this
      exact this
     have htr:=refJoin_any wr (some ⟨w4.heap.size,0,none⟩) (k + m + 1) L HT.out.own.reads HT.out.pcs (by rw [HT.out.len,Hn.out,Hm.out]; omega)
     rw [HT.out.len,Hn.out,Hm.out,hv,← Hr2.out] at htr
     have Htr:=Lib.hid htr
     clear htr hv hlt
     push_cast at Htr
     go_wp2_with fail
     refine (Htr.out).mono ?_
     rintro e w6 ⟨rfl,hb6⟩
     have Hb6:=Lib.hid (Hb4.out.trans ((HT.out.bel.trans (hb6.mono HT.out.bel.size)).mono Hb4.out.size))
     clear hb6 Htr
     go_wp2
     go_ret
     exact ⟨rfl,Hb6.out⟩
end Go.Proofs.YtlomhfknmhaboaaGreatDoor

namespace Go.Proofs.YtlomhfknmhaboaaGreatDoor
open Go.RowKit
set_option maxRecDepth 100000 in
set_option maxHeartbeats 4000000 in
theorem refPower_any (w:World) (a n:Nat) (ha:2≤a) (most:Nat) (hm:most≤100000) (hm0:0 < most) (hd:(dec (a ^ n)).size≤most) (hn:n≤1000000) :
  Gives Tryz.prog 70 #[.string (dec a),.int .i64 n,.int .i64 most] w (.tuple #[.string (dec (a ^ n)),.bool true]):=by
 unfold Gives
 have H1:Hid (dec 1=⟨#[49]⟩):=by
  show _=_
  unfold dec
  rw [dec_small (by omega)]; rfl
 have hne0:=is_zero a
 have hne1:=is_one a
 rw [decide_eq_false (by omega)] at hne0 hne1
 have HM:=Lib.hid fun (w:World) (k:Nat) (hk:k < n)=>refMul_any w (a ^ k) a (Nat.le_trans (dec_mono (Nat.pow_le_pow_right (by omega) (Nat.le_of_lt hk))) (Nat.le_trans hd (by omega))) (by
  show (dec a).size≤_
  have h1:a≤a ^ n:=by
   have:=Nat.pow_le_pow_right (n:=a) (by omega) (show 1≤n by omega)
   rwa [Nat.pow_one] at this
  exact Nat.le_trans (dec_mono h1) (Nat.le_trans hd (by omega)))
 have HD:=Lib.hid fun (k:Nat) (hk:k≤n)=>Nat.le_trans (dec_mono (Nat.pow_le_pow_right (n:=a) (by omega) hk)) hd
 have Hp0:Hid (dec (a ^ 0)=dec 1):=by show _=_; rw [Nat.pow_zero]
 clear hd
 generalize dec a=s at *
 go_enter Tryz.func70,Tryz.ntmps70
 go_wp2_with fail
 go_loopw [8,9] (fun o z wr=>∃ k:Nat,k≤n∧z = .int .i64 k∧o = .string (dec (a ^ k))∧Hid (Below w.heap.size w wr)) (fun _ z _=>n - (intOf z).toNat)
 case atStart=>exact ⟨0,Nat.zero_le _,rfl,by rw [Hp0.out,H1.out],Below.refl _ _⟩
 case round =>
  obtain ⟨k,hk,rfl,rfl,HB⟩:=hrel
  by_cases hlt:k < n
  ·have Hc:=Lib.hid (HM.out wr k hlt)
   have hsz:=HD.out (k + 1) hlt
   rw [Nat.pow_succ] at hsz
   have Hps:Hid (dec (a ^ (k + 1))=dec (a ^ k * a)):=by show _=_; rw [Nat.pow_succ]
   generalize dec (a ^ k)=s1 at *
   generalize dec (a ^ k * a)=s2 at *
   have hlt':(k:Int) < n:=by omega
   have hsz':¬ (most:Int) < s2.size:=by omega
   go_wp2_with fail
   refine (Hc.out).mono ?_
   rintro e w2 ⟨rfl,hb2⟩
   have Hb2:=Lib.hid (HB.out.trans (hb2.mono HB.out.size))
   clear hb2 Hc
   go_wp2
   go_roundw
   case rel=>exact ⟨k + 1,by omega,by go_num,by rw [Hps.out],Hb2.out⟩
   case measure=>simp [intOf]; omega
  ·obtain rfl:k=n:=by omega
   go_wp2
   go_ret2
   exact ⟨rfl,HB.out⟩
end Go.Proofs.YtlomhfknmhaboaaGreatDoor

namespace Go.Proofs.YtlomhfknmhaboaaGreatDoor
open Go.RowKit
def smallQ (q:Rat):Bool:=decide ((dec q.num.natAbs).size≤18) && decide ((dec q.den).size≤18)
theorem small_num {q:Rat} (h:smallQ q=true):q.num.natAbs < 1000000000000000000∧q.den < 1000000000000000000:=by
 unfold smallQ at h
 rw [Bool.and_eq_true,decide_eq_true_eq,decide_eq_true_eq,dec_size,dec_size,dec_length _ _ (by decide),dec_length _ _ (by decide)] at h
 exact h
set_option maxRecDepth 100000 in
set_option maxHeartbeats 8000000 in
theorem smallF_any (w:World) (q:Rat) (L:Laid w) :
  Gives Tryz.prog 68 #[fr q] w (if smallQ q=true then .tuple #[.int .i64 q.num,.int .i64 q.den,.bool true] else .tuple #[.int .i64 0,.int .i64 0,.bool false]):=by
 unfold Gives
 have Ha:=Lib.hid (fun W=>abs_any W q.num)
 have Hs1:Hid (smallQ q=true→∀ W,Below w.heap.size w W→Gives Tryz.prog 110 #[.string (itx q.num)] W (.tuple #[.int .i64 q.num,.bool true])):=fun h W hW=>by
  have hb:=small_num h
  unfold smallQ at h
  rw [Bool.and_eq_true,decide_eq_true_eq,decide_eq_true_eq] at h
  have:=smallz_any W q.num (show (dec _).size≤_ by omega) (L.below hW)
  rw [if_pos (by omega)] at this
  exact this
 have Hs2:Hid (smallQ q=true→∀ W,Below w.heap.size w W→Gives Tryz.prog 110 #[.string (dec q.den)] W (.tuple #[.int .i64 q.den,.bool true])):=fun h W hW=>by
  have hb:=small_num h
  unfold smallQ at h
  rw [Bool.and_eq_true,decide_eq_true_eq,decide_eq_true_eq] at h
  have:=smallz_any W (q.den:Int) (show (dec _).size≤_ by rw [Int.natAbs_natCast]; omega) (L.below hW)
  rw [if_pos (by omega),itx_nat] at this
  exact this
 have Hv:Hid (smallQ q=(decide ((dec q.num.natAbs).size≤18) && decide ((dec q.den).size≤18))):=rfl
 unfold fr fv
 have B0:=Lib.hid ((Below.refl w.heap.size w).alloc nr_ (.cells #[.string (itx q.num),.string (dec q.den)] 30))
 have N0:=Lib.hid (heap_at w #[.string (itx q.num),.string (dec q.den)] 30 _ rfl)
 clear L
 generalize smallQ q=ok at *
 generalize itx q.num=s at *
 generalize dec q.num.natAbs=s1 at *
 generalize dec q.den=t at *
 by_cases h1:s1.size≤18
 ·have h1':¬ (18:Int) < s1.size:=by omega
  by_cases h2:t.size≤18
  ·have h2':¬ (18:Int) < t.size:=by omega
   obtain rfl:ok=true:=by rw [Hv.out]; simp [h1,h2]
   rw [if_pos rfl]
   generalize q.num=x at *
   generalize q.den=y at *
   go_enter Tryz.func68,Tryz.ntmps68
   obtain ⟨k0,k1,-,-⟩:=two_cells N0.out
   go_wp2_with fail
   generalize w.alloc (.cells #[.string s,.string t] 30)=W0 at *
   clear k0 k1
   refine Calls.mono (Ha.out _) ?_
   rintro e w1 ⟨rfl,hb1⟩
   have B1:=Lib.hid (B0.out.trans (hb1.mono B0.out.size))
   have N1:=Lib.hid (heap_kept N0.out hb1 nr_)
   clear hb1 Ha B0 N0
   obtain ⟨k0,k1,-,-⟩:=two_cells N1.out
   go_wp2_with fail
   refine Calls.mono (Hs1.out trivial _ B1.out) ?_
   rintro e w2 ⟨rfl,hb2⟩
   have B2:=Lib.hid (B1.out.trans (hb2.mono B1.out.size))
   have N2:=Lib.hid (heap_kept N1.out hb2 nr_)
   clear hb2 Hs1 B1 N1 k0 k1
   obtain ⟨k0,k1,-,-⟩:=two_cells N2.out
   go_wp2_with fail
   refine Calls.mono (Hs2.out trivial _ B2.out) ?_
   rintro e w3 ⟨rfl,hb3⟩
   have B3:=Lib.hid (B2.out.trans (hb3.mono B2.out.size))
   clear hb3 Hs2 B2 N2 k0 k1
   go_wp2_with fail
   go_ret3
   exact ⟨rfl,B3.out⟩
  ·have h2':(18:Int) < t.size:=by omega
   obtain rfl:ok=false:=by rw [Hv.out]; simp [h2]
   rw [if_neg (by decide)]
   go_enter Tryz.func68,Tryz.ntmps68
   obtain ⟨k0,k1,-,-⟩:=two_cells N0.out
   go_wp2_with fail
   generalize w.alloc (.cells #[.string s,.string t] 30)=W0 at *
   clear k0 k1
   refine Calls.mono (Ha.out _) ?_
   rintro e w1 ⟨rfl,hb1⟩
   have B1:=Lib.hid (B0.out.trans (hb1.mono B0.out.size))
   have N1:=Lib.hid (heap_kept N0.out hb1 nr_)
   clear hb1 Ha B0 N0
   obtain ⟨k0,k1,-,-⟩:=two_cells N1.out
   go_wp2_with fail
   go_ret3
   exact ⟨rfl,B1.out⟩
 ·have h1':(18:Int) < s1.size:=by omega
  obtain rfl:ok=false:=by rw [Hv.out]; simp [h1]
  rw [if_neg (by decide)]
  go_enter Tryz.func68,Tryz.ntmps68
  obtain ⟨k0,k1,-,-⟩:=two_cells N0.out
  go_wp2_with fail
  generalize w.alloc (.cells #[.string s,.string t] 30)=W0 at *
  clear k0 k1
  refine Calls.mono (Ha.out _) ?_
  rintro e w1 ⟨rfl,hb1⟩
  have B1:=Lib.hid (B0.out.trans (hb1.mono B0.out.size))
  clear hb1 Ha B0 N0
  go_wp2_with fail
  go_ret3
  exact ⟨rfl,B1.out⟩
set_option maxHeartbeats 4000000 in
theorem lgcd_any (w:World) (a b:Nat) (ha:a≤1000000000) (hb:b≤1000000000) :
  Gives Tryz.prog 69 #[.int .i64 a,.int .i64 b] w (.int .i64 (Nat.gcd a b:Nat)):=by
 unfold Gives
 have Hg:Hid (Nat.gcd a b=Nat.gcd a b):=rfl
 obtain ⟨g,hg⟩:∃ g,Nat.gcd a b=g:=⟨_,rfl⟩
 rw [hg]
 have HG:=Lib.hid hg
 clear hg Hg
 go_enter Tryz.func69,Tryz.ntmps69
 go_wp2_with fail
 go_loopw [0,1] (fun x y wr=>∃ u v:Nat,x = .int .i64 u∧y = .int .i64 v∧u≤1000000000∧v≤1000000000∧Hid (Nat.gcd u v=g)∧Hid (Below w.heap.size w wr)) (fun _ y _=>(intOf y).toNat)
 case atStart=>exact ⟨a,b,rfl,rfl,ha,hb,HG.out,Below.refl _ _⟩
 case round =>
  obtain ⟨u,v,rfl,rfl,hu,hv,HU,HB⟩:=hrel
  by_cases h:v=0
  ·subst h
   have hge:g=u:=by rw [← HU.out,Nat.gcd_zero_right]
   subst hge
   go_wp2
   go_ret
   exact ⟨rfl,HB.out⟩
  ·have hp:(0:Int) < v:=by omega
   have hlt:=Nat.mod_lt u (show 0 < v by omega)
   have Hn:Hid (Nat.gcd v (u % v)=g):=by
    show _=_
    rw [← HU.out,Nat.gcd_comm v,← Nat.gcd_rec,Nat.gcd_comm]
   have hvz:((v:Int) == 0)=false:=by rw [beq_eq_false_iff_ne]; omega
   have em:(u:Int) % (v:Int)=((u % v:Nat):Int):=by omega
   generalize u % v=r at *
   go_wp2_with fail
   go_quiet (fail)
   go_wp2
   go_roundw
   case rel=>exact ⟨v,r,rfl,by rw [em],hv,by omega,Hn.out,below_dn HB.out _⟩
   case measure=>simp [intOf]; omega
end Go.Proofs.YtlomhfknmhaboaaGreatDoor

namespace Go.Proofs.YtlomhfknmhaboaaGreatDoor.LN
def upP:List Int→List Int→Nat
 | p :: ps,k :: ks=>p.toNat ^ k.toNat * upP ps ks
 | _,_=>1
theorem upP_pos:∀ (ps ks:List Int),(∀ p∈ps,0 < p)→0 < upP ps ks
 | [],_,_=>by simp [upP]
 | _ :: _,[],_=>by simp [upP]
 | p :: ps,k :: ks,h=>by
  have hp:=h p List.mem_cons_self
  simp only [upP]
  exact Nat.mul_pos (Nat.pow_pos (by omega)) (upP_pos ps ks fun q hq=>h q (List.mem_cons_of_mem _ hq))
theorem upP_vp:∀ (ps ks:List Int),(∀ p∈ps,0 < p)→((upP ps ks:Nat):Rat)=vp ps ks * ((upP ps (ks.map fun k => -k):Nat):Rat)
 | [],_,_=>by simp [upP,vp]
 | _ :: _,[],_=>by simp [upP,vp]
 | p :: ps,k :: ks,h=>by
  have ih:=upP_vp ps ks fun q hq=>h q (List.mem_cons_of_mem _ hq)
  have hx:=h p List.mem_cons_self
  rw [List.map_cons]
  simp only [upP,vp]
  rw [Rat.natCast_mul,Rat.natCast_mul,ih,natCast_pow,natCast_pow]
  have hp:((p.toNat:Nat):Rat)=(p:Rat):=by
   rw [← Rat.intCast_natCast,Int.toNat_of_nonneg (by omega)]
  rw [hp]
  have hp0:(p:Rat)≠0:=by have:=Rat.intCast_pos.2 hx; grind
  have key:(p:Rat) ^ k.toNat=(p:Rat) ^ k * (p:Rat) ^ (-k).toNat:=by
   rw [← Rat.zpow_natCast,← Rat.zpow_natCast,← Rat.zpow_add hp0]
   congr 1
   omega
  rw [key]
  grind
theorem sg_quot {a b:Nat} {x:Rat} (hb:0 < b) (e:(a:Rat)=x * (b:Rat)):sg x=if a < b then -1 else if a=b then 0 else 1:=by
 have hd:(0:Rat) < (b:Rat):=Rat.natCast_pos.2 hb
 have c1:b < a↔1 < x:=by
  rw [← Rat.natCast_lt_natCast,e]
  constructor
  ·intro h1
   refine Rat.lt_of_mul_lt_mul_right (c:=(b:Rat)) ?_ (Rat.le_of_lt hd)
   rw [Rat.one_mul]; exact h1
  ·intro h1
   have:=Rat.mul_lt_mul_of_pos_right h1 hd
   rw [Rat.one_mul] at this
   exact this
 have c2:a < b↔x < 1:=by
  rw [← Rat.natCast_lt_natCast,e]
  constructor
  ·intro h1
   refine Rat.lt_of_mul_lt_mul_right (c:=(b:Rat)) ?_ (Rat.le_of_lt hd)
   rw [Rat.one_mul]; exact h1
  ·intro h1
   have:=Rat.mul_lt_mul_of_pos_right h1 hd
   rw [Rat.one_mul] at this
   exact this
 rcases Nat.lt_trichotomy a b with h | h | h
 ·rw [if_pos h]; exact sg_low.2 (c2.1 h)
 ·rw [if_neg (by omega),if_pos h]
  refine sg_zero.2 (Rat.le_antisymm (Rat.not_lt.1 fun h2=>?_) (Rat.not_lt.1 fun h2=>?_))
  ·have:=c1.2 h2; omega
  ·have:=c2.2 h2; omega
 ·rw [if_neg (by omega),if_neg (by omega)]; exact sg_pos.2 (c1.1 h)
theorem sz_prod {ps:List Int} {l:List Rat} {D:Nat} (hp:∀ p∈ps,0 < p) (hD:0 < D) (h:∀ q∈l,q.den ∣ D) :
  sz ps l=cmpN (upP ps (l.map (ex D))) (upP ps ((l.map (ex D)).map fun k => -k)):=by
 rw [sz_eq hp hD h,sg_quot (upP_pos ps _ hp) (upP_vp ps _ hp)]
 rfl
theorem upP_snoc:∀ (ps ks:List Int) (p k:Int),ps.length=ks.length→upP (ps ++ [p]) (ks ++ [k])=upP ps ks * p.toNat ^ k.toNat
 | [],[],p,k,_=>by simp [upP]
 | q :: ps,m :: ks,p,k,h=>by
  have ih:=upP_snoc ps ks p k (by simpa using h)
  simp only [List.cons_append,upP]
  rw [ih,Nat.mul_assoc]
theorem upP_le (K:Nat):∀ (ps ks:List Int),(∀ p∈ps,2≤p∧p≤97)→(∀ k∈ks,k≤(K:Int))→upP ps ks < 10 ^ (2 * K * ps.length + 1)
 | [],_,_,_=>by simp [upP]
 | _ :: _,[],_,_=>by
  simp only [upP]
  exact Nat.one_lt_pow (by omega) (by decide)
 | p :: ps,k :: ks,h,h2=>by
  have ih:=upP_le K ps ks (fun q hq=>h q (List.mem_cons_of_mem _ hq)) fun q hq=>h2 q (List.mem_cons_of_mem _ hq)
  obtain ⟨a,b⟩:=h p List.mem_cons_self
  have hk:=h2 k List.mem_cons_self
  simp only [upP]
  have h3:p.toNat ^ k.toNat≤100 ^ k.toNat:=Nat.pow_le_pow_left (by omega) _
  have h4:100 ^ k.toNat≤100 ^ K:=Nat.pow_le_pow_right (by decide) (by omega)
  have h5:(100:Nat) ^ K=10 ^ (2 * K):=by rw [show (100:Nat)=10 ^ 2 from rfl,← Nat.pow_mul]
  rw [h5] at h4
  have e:10 ^ (2 * K * (p :: ps).length + 1)=10 ^ (2 * K) * 10 ^ (2 * K * ps.length + 1):=by rw [← Nat.pow_add]; congr 1; rw [List.length_cons,Nat.mul_add]; omega
  rw [e]
  exact Nat.mul_lt_mul_of_le_of_lt (Nat.le_trans h3 h4) ih (Nat.pow_pos (by decide))
end Go.Proofs.YtlomhfknmhaboaaGreatDoor.LN

namespace Go.Proofs.YtlomhfknmhaboaaGreatDoor
open Go.RowKit
theorem pow_size {P m K:Nat} (hP:P≤100) (hm:2 * m + 1≤K):(dec (P ^ m)).size≤K:=by
 rw [dec_size,dec_length _ _ (by omega)]
 have h1:P ^ m≤100 ^ m:=Nat.pow_le_pow_left hP m
 have h2:(100:Nat) ^ m=10 ^ (2 * m):=by rw [show (100:Nat)=10 ^ 2 from rfl,← Nat.pow_mul]
 have h3:10 ^ (2 * m) < 10 ^ K:=Nat.pow_lt_pow_right (by decide) (by omega)
 omega
structure UpAt (ps ks:List Int) (k u d:Nat):Prop where
 up:u=LN.upP (ps.take k) (ks.take k)
 dn:d=LN.upP (ps.take k) ((ks.map fun z => -z).take k)
 le:∀ z∈ks.take k,z≤500 ∧ -500≤z
theorem take_next {α:Type} (l:List α) (k:Nat) (h:k < l.length):l.take (k + 1)=l.take k ++ [l[k]]:=List.take_succ_eq_append_getElem h
theorem UpAt.next {ps ks:List Int} {k u d:Nat} (h:UpAt ps ks k u d) (h1:k < ps.length) (hk:k < ks.length) (hz:ks[k]≤500 ∧ -500≤ks[k]) :
  UpAt ps ks (k + 1) (u * ps[k].toNat ^ ks[k].toNat) (d * ps[k].toNat ^ (-ks[k]).toNat):=by
 refine ⟨?_,?_,?_⟩
 ·rw [take_next ps k h1,take_next ks k hk,LN.upP_snoc _ _ _ _ (by simp; omega),← h.up]
 ·have hk2:k < (ks.map fun z => -z).length:=by simpa using hk
  rw [take_next ps k h1,take_next _ k hk2,LN.upP_snoc _ _ _ _ (by simp; omega),← h.dn,List.getElem_map]
 ·intro z hz2
  rw [take_next ks k hk] at hz2
  rcases List.mem_append.1 hz2 with h3 | h3
  ·exact h.le z h3
  ·obtain rfl:=List.mem_singleton.1 h3
   exact hz
theorem UpAt.num {ps ks:List Int} {k u d:Nat} (h:UpAt ps ks k u d) (hp:∀ p∈ps,2≤p∧p≤97) (hn:ps.length≤100):Num u∧Num d:=by
 have hl:(ps.take k).length≤100:=by simp; omega
 have hb:2 * 500 * (ps.take k).length + 1≤1000000:=by omega
 have hp':∀ p∈ps.take k,2≤p∧p≤97:=fun p hp1=>hp p (List.mem_of_mem_take hp1)
 refine ⟨?_,?_⟩
 ·rw [h.up]
  exact num_pow (LN.upP_le 500 _ _ hp' fun z hz=>by have:=h.le z hz; omega) (by omega) hb
 ·rw [h.dn]
  refine num_pow (LN.upP_le 500 _ _ hp' fun z hz=>?_) (by omega) hb
  rw [← List.map_take] at hz
  obtain ⟨y,hy,rfl⟩:=List.mem_map.1 hz
  have:=h.le y hy
  omega
set_option maxRecDepth 100000 in
set_option maxHeartbeats 16000000 in
theorem lsign_any (w:World) (ps:List Int) (a0 a1:Option Addr) (c0 c1 D:Nat) (l:List Rat) (A:SizeOk w ps a0 a1 l D) (L:Laid w) :
  Calls Tryz.prog 29 #[.slice a0 ps.length c0,.slice a1 ps.length c1] w fun e w'=>∃ (v:Int) (ok:Bool),e = .returned (.tuple #[.int .i64 v,.bool ok])∧(ok=true→v=LN.sz ps l)∧Below w.heap.size w w':=by
 have HF:=Lib.hid fun (W:World) (hW:Below w.heap.size w W) (q:Rat)=>smallF_any W q (L.below hW)
 have hps:∀ p∈ps,0 < p:=fun p hp=>by have:=A.pr p hp; omega
 have Hz:Hid (∀ u d,UpAt ps (l.map (LN.ex (tden l))) ps.length u d→cmpN u d=LN.sz ps l):=fun u d h=>by
  rw [LN.sz_prod hps (LN.tden_pos' l) fun q hq=>LN.tden_dvd hq,h.up,h.dn]
  rw [List.take_length,List.take_of_length_le (by rw [List.length_map,A.len]; omega),List.take_of_length_le (by rw [List.length_map,List.length_map,A.len]; omega)]
 have Hnum:=Lib.hid fun (k u d:Nat) (h:UpAt ps (l.map (LN.ex (tden l))) k u d)=>h.num A.pr A.n
 have Hnx:=Lib.hid fun (k u d:Nat) (h:UpAt ps (l.map (LN.ex (tden l))) k u d) (h1:k < ps.length) (h2:k < (l.map (LN.ex (tden l))).length)=>h.next h1 h2
 have Hex:Hid (∀ k (h:k < l.length) (h2:k < (l.map (LN.ex (tden l))).length),(l.map (LN.ex (tden l)))[k]=l[k].num * ((tden l / l[k].den:Nat):Int)):=fun k h h2=>by rw [List.getElem_map]; rfl
 have Hdv:Hid (∀ k (h:k < l.length),l[k].den ∣ tden l):=fun k h=>LN.tden_dvd (List.getElem_mem h)
 have Hm:Hid ((l.map (LN.ex (tden l))).length=l.length):=List.length_map ..
 have Htd:=Lib.hid (tden_succ l)
 have Htp:=Lib.hid (tden_pos l)
 have Hall:Hid (l.take ps.length=l):=by show _=_; rw [← A.len,List.take_length]
 have HA:=Lib.hid A
 have hn:=A.n
 clear L hps A
 generalize l.map (LN.ex (tden l))=ks at *
 obtain ⟨n,hnn⟩:∃ n,ps.length=n:=⟨_,rfl⟩
 rw [hnn] at hn Hz Hall ⊢
 have Hn:=Lib.hid hnn
 clear hnn
 go_enter Tryz.func29,Tryz.ntmps29
 go_wp2_with fail
 go_loopw [8,9] (fun cm i wr=>∃ k c:Nat,k≤n∧i = .int .i64 k∧cm = .int .i64 c∧0 < c∧c≤5000∧Hid (c=tden (l.take k))∧Hid (∀ j (h:j < l.length),j < k→smallQ l[j]=true∧l[j].den≤5000)∧Hid (Below w.heap.size w wr)) (fun _ i _=>n - (intOf i).toNat)
 case atStart=>exact ⟨0,1,Nat.zero_le _,rfl,rfl,by omega,by omega,rfl,fun j _ hj=>absurd hj (Nat.not_lt_zero _),Below.refl _ _⟩
 case round =>
  obtain ⟨k,c,hk,rfl,rfl,hc0,hc5,HC,HS,HB⟩:=hrel
  by_cases hlt:k < n
  ·have hlt':(k:Int) < n:=by omega
   have hkl:k < l.length:=by rw [HA.out.len,Hn.out]; exact hlt
   obtain ⟨b,off,rfl,hb,hcells⟩:=HA.out.rl.open (by rw [cellsQ_length]; omega)
   obtain ⟨x0,x1⟩:=cellsS_rd hcells k (by rw [List.length_map]; exact hkl)
   rw [← HB.out.cell (p:=⟨b,off + k * 2,none⟩) hb,qs_getD _ k hkl] at x0
   rw [← HB.out.cell (p:=⟨b,off + k * 2 + 1,none⟩) hb,qs_getD _ k hkl] at x1
   have Hst:=Lib.hid (Htd.out k hkl)
   have HS2:Hid (smallQ l[k]=true→l[k].den≤5000→∀ j (h:j < l.length),j < k + 1→smallQ l[j]=true∧l[j].den≤5000):=fun h1 h2 j hj hjk=>by
    rcases Nat.lt_or_ge j k with h | h
    ·exact HS.out j hj h
    ·obtain rfl:j=k:=by omega
     exact ⟨h1,h2⟩
   clear hcells
   have hd0:=l[k].den_pos
   simp only [qs] at x0 x1
   generalize l[k]=q at *
   have Hf:=HF.out wr HB.out q
   unfold fr fv at Hf
   by_cases hs:smallQ q=true
   ·rw [if_pos hs] at Hf
    have Hf:=Lib.hid Hf
    have hnd:=small_num hs
    go_wp2_with fail
    refine Calls.mono Hf.out ?_
    rintro e w2 ⟨rfl,hb2⟩
    have B2:=Lib.hid (HB.out.trans (hb2.mono HB.out.size))
    clear hb2 Hf x0 x1
    by_cases h5:q.den≤5000
    ·have h5':¬ (5000:Int) < q.den:=by omega
     have Hg:=Lib.hid fun W=>lgcd_any W c q.den (by omega) (by omega)
     have hg0:0 < Nat.gcd c q.den:=Nat.gcd_pos_of_pos_left _ hc0
     have hlq:=lcm_quot c q.den (by omega)
     have hlp:=Nat.lcm_pos hc0 hd0
     have hle:Nat.lcm c q.den≤5000 * 5000:=by
      rw [← hlq]
      exact Nat.mul_le_mul (Nat.le_trans (Nat.div_le_self _ _) hc5) h5
     rw [← HC.out] at Hst
     generalize Nat.lcm c q.den=m at *
     generalize Nat.gcd c q.den=g at *
     have HS3:=Lib.hid (HS2.out hs h5)
     generalize q.den=y at *
     obtain ⟨r,hr⟩:∃ r,c / g=r:=⟨_,rfl⟩
     have hr5:r≤5000:=by rw [← hr]; exact Nat.le_trans (Nat.div_le_self _ _) hc5
     have er:(c:Int) / (g:Int)=(r:Int):=by rw [← Int.natCast_ediv,hr]
     have hm1:(r:Int) * (y:Int)=(m:Int):=by rw [← Int.natCast_mul,← hr,hlq]
     clear hr
     have hgz:((g:Int) == 0)=false:=by rw [beq_eq_false_iff_ne]; omega
     clear hlq
     go_wp2_with fail
     refine Calls.mono (Hg.out _) ?_
     rintro e w3 ⟨rfl,hb3⟩
     have B3:=Lib.hid (B2.out.trans (hb3.mono B2.out.size))
     clear hb3 Hg B2
     by_cases hm5:m≤5000
     ·have hm5':¬ (5000:Int) < m:=by omega
      go_wp2
      go_roundw
      case rel=>exact ⟨k + 1,m,by omega,by go_num,rfl,hlp,hm5,Hst.out.symm,HS3.out,B3.out⟩
      case measure=>simp [intOf]; omega
     ·have hm5':(5000:Int) < m:=by omega
      go_wp2
      go_ret2
      exact ⟨0,false,rfl,by simp,B3.out⟩
    ·have h5':(5000:Int) < q.den:=by omega
     go_wp2
     go_ret2
     exact ⟨0,false,rfl,by simp,B2.out⟩
   ·rw [if_neg hs] at Hf
    have Hf:=Lib.hid Hf
    go_wp2_with fail
    refine Calls.mono Hf.out ?_
    rintro e w2 ⟨rfl,hb2⟩
    have B2:=Lib.hid (HB.out.trans (hb2.mono HB.out.size))
    clear hb2 Hf x0 x1
    go_wp2
    go_ret2
    exact ⟨0,false,rfl,by simp,B2.out⟩
  ·obtain rfl:k=n:=by omega
   rw [Hall.out] at HC
   clear Htd Htp Hall
   go_wp2_with fail
   go_loopw [6,7,13] (fun up dn i wr=>∃ j u d:Nat,j≤k∧i = .int .i64 j∧up = .string (dec u)∧dn = .string (dec d)∧Hid (UpAt ps ks j u d)∧Hid (Below w.heap.size w wr)) (fun _ _ i _=>k - (intOf i).toNat)
   case atStart=>exact ⟨0,1,1,Nat.zero_le _,rfl,by rw [dec_one],by rw [dec_one],⟨by simp [LN.upP],by simp [LN.upP],by simp⟩,HB.out⟩
   case round =>
    obtain ⟨j,u,d,hj,rfl,rfl,rfl,HU,HB⟩:=hrel
    by_cases hlt:j < k
    ·have hlt':(j:Int) < k:=by omega
     have hkl:j < l.length:=by rw [HA.out.len,Hn.out]; exact hlt
     have hkp:j < ps.length:=by rw [Hn.out]; exact hlt
     have hkk:j < ks.length:=by rw [Hm.out]; exact hkl
     obtain ⟨b,off,rfl,hb,hcells⟩:=HA.out.rl.open (by rw [cellsQ_length]; omega)
     obtain ⟨x0,x1⟩:=cellsS_rd hcells j (by rw [List.length_map]; exact hkl)
     rw [← HB.out.cell (p:=⟨b,off + j * 2,none⟩) hb,qs_getD _ j hkl] at x0
     rw [← HB.out.cell (p:=⟨b,off + j * 2 + 1,none⟩) hb,qs_getD _ j hkl] at x1
     obtain ⟨bp,op,rfl,hbp,hcp⟩:=HA.out.rp.open (by rw [ints_length]; omega)
     have Hcp:Hid (w.cell? ⟨bp,op + j,none⟩=some (.int .i64 ps[j])):=hcp j _ (ints_get ps j hkp)
     have Hpr:=Lib.hid (HA.out.pr ps[j] (List.getElem_mem hkp))
     obtain ⟨hs,h5⟩:=HS.out j hkl hlt
     have Hks:=Lib.hid (Hex.out j hkl hkk)
     have Hnx2:=Lib.hid (Hnx.out j u d HU.out hkp hkk)
     have hdv:=Hdv.out j hkl
     rw [← HC.out] at hdv Hks
     obtain ⟨hu,hd⟩:=Hnum.out j u d HU.out
     have hd0:=l[j].den_pos
     have hnd:=small_num hs
     clear hcells hcp
     simp only [qs] at x0 x1
     generalize l[j]=q at *
     have Hf:=HF.out wr HB.out q
     unfold fr fv at Hf
     rw [if_pos hs] at Hf
     have Hf:=Lib.hid Hf
     go_wp2_with fail
     refine Calls.mono Hf.out ?_
     rintro e w2 ⟨rfl,hb2⟩
     have B2:=Lib.hid (HB.out.trans (hb2.mono HB.out.size))
     clear hb2 Hf x0 x1
     have hcq:(c / q.den:Nat)≤c:=Nat.div_le_self _ _
     have ecq:(c:Int) / (q.den:Int)=((c / q.den:Nat):Int):=(Int.natCast_ediv _ _).symm
     generalize c / q.den=f at *
     generalize q.den=y at *
     have hyz:((y:Int) == 0)=false:=by rw [beq_eq_false_iff_ne]; omega
     generalize q.num=x at *
     by_cases g1:(5000:Int) < x
     ·go_wp2
      go_ret2
      exact ⟨0,false,rfl,by simp,B2.out⟩
     ·by_cases g2:x < -5000
      ·go_wp2
       go_ret2
       exact ⟨0,false,rfl,by simp,B2.out⟩
      ·have hf5:f≤5000:=by omega
       obtain ⟨z,hz⟩:∃ z,x * (f:Int)=z:=⟨_,rfl⟩
       have hzb:z.natAbs≤25000000:=by
        rw [← hz,Int.natAbs_mul,Int.natAbs_natCast]
        exact Nat.mul_le_mul (show x.natAbs≤5000 by omega) hf5
       rw [hz] at Hks
       by_cases g3:(500:Int) < z
       ·go_wp2
        go_ret2
        exact ⟨0,false,rfl,by simp,B2.out⟩
       ·by_cases g4:z < -500
        ·go_wp2
         go_ret2
         exact ⟨0,false,rfl,by simp,B2.out⟩
        ·rw [Hks.out] at Hnx2
         have Hn3:=Lib.hid (Hnx2.out ⟨by omega,by omega⟩)
         clear Hks Hnx2
         have cp:=Hcp.out
         have hpr:=Hpr.out
         rw [← B2.out.cell (p:=⟨bp,op + j,none⟩) hbp] at cp
         clear Hcp Hpr
         generalize ps[j]=pj at *
         obtain ⟨P,rfl⟩:∃ P:Nat,pj=P:=⟨pj.toNat,by omega⟩
         obtain ⟨m,hm⟩:∃ m,z.natAbs=m:=⟨_,rfl⟩
         have hmx:max z (-z)=(m:Int):=by omega
         have hm5:m≤500:=by omega
         have HOf:=Lib.hid fun W=>refOf_any W P (by omega)
         have hps:=pow_size (P:=P) (m:=m) (K:=5000) (by omega) (by omega)
         have HPw:=Lib.hid fun W=>refPower_any W P m (by omega) 5000 (by decide) (by decide) hps (by omega)
         have Hmu:=Lib.hid fun W=>refMul_any W u (P ^ m) hu (Nat.le_trans hps (by decide))
         have Hmd:=Lib.hid fun W=>refMul_any W d (P ^ m) hd (Nat.le_trans hps (by decide))
         clear hps
         by_cases g5:0 < z
         ·have Hup:Hid (UpAt ps ks (j + 1) (u * P ^ m) d):=by
           have:=Hn3.out
           rw [show (-z).toNat=0 by omega,show z.toNat=m by omega,Int.toNat_natCast,Nat.pow_zero,Nat.mul_one] at this
           exact this
          clear Hn3 Hmd
          go_wp2_with fail
          refine Calls.mono (HOf.out _) ?_
          rintro e w3 ⟨rfl,hb3⟩
          have B3:=Lib.hid (B2.out.trans (hb3.mono B2.out.size))
          clear hb3 B2 HOf cp
          go_wp2_with fail
          refine Calls.mono (HPw.out _) ?_
          rintro e w4 ⟨rfl,hb4⟩
          have B4:=Lib.hid (B3.out.trans (hb4.mono B3.out.size))
          clear hb4 B3 HPw
          go_wp2_with fail
          refine Calls.mono (Hmu.out _) ?_
          rintro e w5 ⟨rfl,hb5⟩
          have B5:=Lib.hid (B4.out.trans (hb5.mono B4.out.size))
          clear hb5 B4 Hmu
          go_wp2
          go_roundw
          case rel=>exact ⟨j + 1,_,_,by omega,by go_num,rfl,rfl,Hup.out,B5.out⟩
          case measure=>simp [intOf]; omega
         ·have Hup:Hid (UpAt ps ks (j + 1) u (d * P ^ m)):=by
           have:=Hn3.out
           rw [show (-z).toNat=m by omega,show z.toNat=0 by omega,Int.toNat_natCast,Nat.pow_zero,Nat.mul_one] at this
           exact this
          clear Hn3 Hmu
          go_wp2_with fail
          refine Calls.mono (HOf.out _) ?_
          rintro e w3 ⟨rfl,hb3⟩
          have B3:=Lib.hid (B2.out.trans (hb3.mono B2.out.size))
          clear hb3 B2 HOf cp
          go_wp2_with fail
          refine Calls.mono (HPw.out _) ?_
          rintro e w4 ⟨rfl,hb4⟩
          have B4:=Lib.hid (B3.out.trans (hb4.mono B3.out.size))
          clear hb4 B3 HPw
          go_wp2_with fail
          refine Calls.mono (Hmd.out _) ?_
          rintro e w5 ⟨rfl,hb5⟩
          have B5:=Lib.hid (B4.out.trans (hb5.mono B4.out.size))
          clear hb5 B4 Hmd
          go_wp2
          go_roundw
          case rel=>exact ⟨j + 1,_,_,by omega,by go_num,rfl,rfl,Hup.out,B5.out⟩
          case measure=>simp [intOf]; omega
    ·obtain rfl:j=k:=by omega
     have Hcm:=Lib.hid fun W=>refCmp_any W u d
     have Hval:=Lib.hid (Hz.out u d HU.out)
     generalize cmpN u d=r at *
     go_wp2_with fail
     refine Calls.mono (Hcm.out _) ?_
     rintro e w3 ⟨rfl,hb3⟩
     have B3:=Lib.hid (HB.out.trans (hb3.mono HB.out.size))
     clear hb3 Hcm
     go_wp2
     go_ret2
     exact ⟨r,true,rfl,fun _=>Hval.out,B3.out⟩
end Go.Proofs.YtlomhfknmhaboaaGreatDoor

namespace Go.Proofs.YtlomhfknmhaboaaGreatDoor.RY
open Go Go.Sort Go.Proofs.YtlomhfknmhaboaaGreatDoor
section
variable {P:Program} {ops:Array Oper} {md:Region.Mode} {C:World→Prop}
def noEnter:Op→Bool
 | .move _ | .assign _ | .load _ _ | .fieldAddr _ _ _ | .indexAddr _ _ _ | .extract _ _ | .binOp _ _ _ _ _ | .convert _ _ _=>true
 | .call c=>match c.callee with
  | .builtin .min | .builtin .max | .builtin .len=>true
  | _=>false
 | _=>false
theorem value_no_enter {s:Sem Value} {w w':World} {f:FuncId} {args:Array Value} (h:(do pure (Next.value (← s)):Sem Next).run P w = .ok (.enter f args) w'):False:=by
 simp only [Sem.run_bind,Sem.run_pure] at h
 cases hs:s.run P w with
 | ok v w1=>rw [hs] at h; simp [Result.andThen] at h
 | halt x w1=>rw [hs] at h; simp [Result.andThen] at h
theorem no_enter {o:Oper} {a:Act} {w w':World} {f:FuncId} {args:Array Value} (ho:noEnter o.op=true) (h:(execOp a.eval o).run P w = .ok (.enter f args) w'):False:=by
 have cases5:(∃ x,o.op = .move x)∨(∃ x,o.op = .assign x)∨(∃ t x,o.op = .load t x)∨(∃ t x k,o.op = .fieldAddr t x k)∨(∃ t x y,o.op = .indexAddr t x y)∨(∃ x k,o.op = .extract x k)∨(∃ b t x y r,o.op = .binOp b t x y r)∨(∃ s d x,o.op = .convert s d x)∨(∃ c,o.op = .call c):=by
  cases hop:o.op <;> rw [hop] at ho <;> first | (simp [noEnter] at ho; done) | simp
 rcases cases5 with ⟨x,hop⟩ | ⟨x,hop⟩ | ⟨t,x,hop⟩ | ⟨t,x,k,hop⟩ | ⟨t,x,y,hop⟩ | ⟨x,k,hop⟩ | ⟨b,t,x,y,r,hop⟩ | ⟨s,d,x,hop⟩ | ⟨c,hop⟩
 ·rw [BigFrame.run_move x hop] at h; cases h
 ·rw [BigFrame.run_assign x hop] at h; cases h
 ·unfold execOp at h; rw [hop] at h; exact value_no_enter h
 ·unfold execOp at h; rw [hop] at h; exact value_no_enter h
 ·unfold execOp at h; rw [hop] at h; exact value_no_enter h
 ·unfold execOp at h; rw [hop] at h; exact value_no_enter h
 ·unfold execOp at h; rw [hop] at h; exact value_no_enter h
 ·unfold execOp at h; rw [hop] at h; exact value_no_enter h
 ·rw [hop] at ho
  unfold execOp at h
  rw [hop] at h
  unfold noEnter at ho
  simp only at ho h
  unfold resolve at h
  cases hc:c.callee with
  | value x=>rw [hc] at ho; cases ho
  | invoke x y=>rw [hc] at ho; cases ho
  | builtin b =>
   rw [hc] at ho h
   simp only [Sem.run_bind,Sem.run_pure,Result.andThen_ok,invoke] at h
   cases b <;> first | (simp at ho; done) | (unfold builtin at h; exact value_no_enter h)
theorem still_of_quiet {o:Oper} {a:Act} {w:World} {v:Value} (ho:noEnter o.op=true) (h:o.quietAt P a C w v) {K:Act→World→Prop} (hk:K (a.put o.dst v) w):o.wp P a w K (fun _ _ _=>False):=by
 unfold Oper.quietAt at h
 unfold Oper.wp
 have hne:=@no_enter P o a w
 generalize (execOp a.eval o).run P w=r at *
 cases r with
 | ok n w' =>
  cases n <;> simp only [Oper.quietUpon] at h <;> simp only [Oper.upon]
  case value u=>obtain ⟨rfl,rfl⟩:=h; exact hk
  case skip=>obtain ⟨rfl,rfl⟩:=h; exact hk
  case enter f args=>exact (hne ho rfl).elim
 | halt x w'=>simp only [Oper.quietUpon] at h
def safeW (C:World→Prop) (s:Nat) (listed:Array Bool) (w:World):Prop:=listed.getD s false=true∨C w
def anyR (P:Program) (md:Region.Mode) (ops:Array Oper) (C:World→Prop) (s:Nat) (Q:Act→World→Prop):Nat→Array Bool→Act→World→Prop
 | 0,listed,a,w=>Region.ready md ops listed=[]∧Q a w
 | f + 1,listed,a,w=>Region.ready md ops listed≠[]∧∀ i∈Region.ready md ops listed,
   wpOp P ops (fun _ _ _=>False) i (fun a' w'=>safeW C s (listed.setIfInBounds i true) w'∧anyR P md ops C s Q f (listed.setIfInBounds i true) a' w') a w
theorem wp_weaken {o:Oper} {a:Act} {w:World} {K:Act→World→Prop} {Q':Exit→Act→World→Prop} (h:o.wp P a w K (fun _ _ _=>False)):o.wp P a w K Q':=by
 unfold Oper.wp at *
 generalize (execOp a.eval o).run P w=r at *
 cases r with
 | ok n w' =>
  cases n <;> simp only [Oper.upon] at h ⊢ <;>
   first
    | exact h
    | exact Calls.mono h (fun e w'' he=>by cases e <;> first | exact he | exact he.elim | (obtain ⟨_,_,hf⟩:=he; exact hf.elim))
    | exact Rows.mono h (fun _ _ he=>he)
 | halt x w'=>cases x <;> simp only [Oper.upon] at h <;> exact h.elim
theorem wpOp_weaken {i:Nat} {a:Act} {w:World} {K K':Act→World→Prop} {Q':Exit→Act→World→Prop} (hk:∀ a w,K a w→K' a w) (h:wpOp P ops (fun _ _ _=>False) i K a w):wpOp P ops Q' i K' a w:=by
 unfold wpOp at *
 split
 ·rename_i ho; simp only [ho] at h; exact hk _ _ h
 ·rename_i o ho
  simp only [ho] at h
  split
  ·rename_i hw
   simp only [hw,if_true] at h
   rcases h with h | ⟨_,_,_,hf⟩
   ·exact .inl (Oper.wp_mono hk (wp_weaken h))
   ·exact hf.elim
  ·rename_i hw; simp only [hw] at h; exact hk _ _ h
theorem wpOp_strong {i:Nat} {a:Act} {w:World} {K:Act→World→Prop} {Q':Exit→Act→World→Prop} (hq:∀ e a w,Q' e a w→e = .normal) (h:wpOp P ops Q' i K a w):wpOp P ops (fun _ _ _=>False) i K a w:=by
 have hout:¬ LetsOut Q':=fun ⟨a,w,h⟩=>by have:=hq _ _ _ h; cases this
 unfold wpOp at *
 split
 ·rename_i ho; simp only [ho] at h; exact h
 ·rename_i o ho
  simp only [ho] at h
  split
  ·rename_i hw
   simp only [hw,if_true] at h
   rcases h with h | ⟨_,h⟩
   ·left
    unfold Oper.wp at *
    generalize (execOp a.eval o).run P w=r at *
    cases r with
    | ok n w' =>
     cases n <;> simp only [Oper.upon] at h ⊢ <;>
      first
       | exact h
       | exact Calls.mono h (fun e w'' he=>by cases e <;> first | exact he | (have:=hq _ _ _ he; cases this) | exact absurd he hout)
       | exact Rows.mono h (fun _ _ he=>he)
    | halt x w'=>cases x <;> simp only [Oper.upon] at h <;> first | exact h.elim | (have:=hq _ _ _ h; cases this)
   ·exact absurd h hout
  ·rename_i hw; simp only [hw] at h; exact h
theorem anyR_any {s:Nat} {Q:Act→World→Prop} {Q':Exit→Act→World→Prop} (hQ:∀ a w,Q a w→Q' .normal a w) :
  ∀ (f:Nat) (listed:Array Bool) (a:Act) (w:World),anyR P md ops C s Q f listed a w→wpAny P md ops Q' f listed a w
 | 0,_,_,_,h=>⟨h.1,hQ _ _ h.2⟩
 | f + 1,_,_,_,h=>⟨fun h0=>absurd h0 h.1,fun i hi=>wpOp_weaken (fun a' w' h'=>anyR_any hQ f _ a' w' h'.2) (h.2 i hi)⟩
structure RInv (md:Region.Mode) (ops:Array Oper) (listed:Array Bool):Prop where
 size:listed.size=ops.size
 closed:∀ j oj,ops[j]?=some oj→listed.getD j false=true→∀ e∈oj.after,Region.binds md e=true→listed.getD e.on false=true
theorem RInv.set {i:Nat} {listed:Array Bool} (inv:RInv md ops listed) (hi:i∈Region.ready md ops listed):RInv md ops (listed.setIfInBounds i true):=by
 obtain ⟨_,oi,hoi,hall⟩:=mem_ready.1 hi
 refine ⟨by simp [inv.size],fun j oj hj hl e he hb=>?_⟩
 by_cases hij:i=j
 ·subst hij
  have:oj=oi:=Option.some.inj (hj.symm.trans hoi)
  subst this
  exact getD_set_true (hall e he hb)
 ·rw [getD_set_ne false hij] at hl
  exact getD_set_true (inv.closed j oj hj hl e he hb)
def reachB (md:Region.Mode) (ops:Array Oper):Nat→Nat→Nat→Bool
 | 0,_,_=>false
 | f + 1,s,i=>match ops[s]? with
  | some o=>o.after.any fun e=>Region.binds md e && (e.on == i || reachB md ops f e.on i)
  | none=>false
theorem reach_listed {listed:Array Bool} (inv:RInv md ops listed):∀ (f s i:Nat),reachB md ops f s i=true→listed.getD s false=true→listed.getD i false=true
 | 0,_,_,h,_=>by cases h
 | f + 1,s,i,h,hs=>by
  unfold reachB at h
  split at h
  ·rename_i o ho
   obtain ⟨e,he,hb⟩:=Array.any_eq_true'.1 h
   simp only [Bool.and_eq_true,Bool.or_eq_true,beq_iff_eq] at hb
   have hl:=inv.closed s o ho hs e he hb.1
   rcases hb.2 with h2 | h2
   ·rw [← h2]; exact hl
   ·exact reach_listed inv f e.on i h2 hl
  ·cases h
def ReadsIn (P:Program) (ops:Array Oper) (md:Region.Mode) (C:World→Prop) (s i:Nat) (o:Oper) (v:Value) (a:Act):Prop :=
 (reachB md ops 4 s i=true∧YieldsIn P ops C o v a)∨YieldsIn P ops (fun _=>True) o v a
theorem ReadsIn.of_same {s i:Nat} {o:Oper} {v:Value} {a a':Act} (hy:ReadsIn P ops md C s i o v a) (he:execOp a'.eval o=execOp a.eval o)
  (hw:Region.wanted o (yielded ops a'.tmps)=Region.wanted o (yielded ops a.tmps)):ReadsIn P ops md C s i o v a' :=
 hy.imp (fun ⟨h1,h2⟩=>⟨h1,h2.of_same he hw⟩) (fun h=>h.of_same he hw)
theorem reads_op {s i:Nat} {o:Oper} {v:Value} {a:Act} {w:World} {listed:Array Bool} (hi:ops[i]?=some o) (hne:noEnter o.op=true) (inv:RInv md ops listed) (hr:i∈Region.ready md ops listed) (hs:safeW C s listed w)
  (hy:ReadsIn P ops md C s i o v a) {K:Act→World→Prop} (hk:K (a.put o.dst v) w):wpOp P ops (fun _ _ _=>False) i K a w:=by
 have key:∀ D:World→Prop,D w→YieldsIn P ops D o v a→wpOp P ops (fun _ _ _=>False) i K a w:=fun D hD h=>by
  unfold wpOp
  simp only [hi]
  rcases h with ⟨h1,h2⟩ | ⟨h1,rfl⟩
  ·simp only [h1,if_true]
   exact .inl (still_of_quiet hne (h2 w hD) hk)
  ·simp only [h1,Bool.false_eq_true,if_false]
   exact hk
 rcases hy with ⟨hw,h⟩ | h
 ·refine key C ?_ h
  rcases hs with hs | hs
  ·have:=reach_listed inv 4 s i hw hs
   rw [getD_both (mem_ready.1 hr).1] at this
   cases this
  ·exact hs
 ·exact key _ trivial h
theorem wpOp_put {j:Nat} {oi oj:Oper} {v:Value} (hj:ops[j]?=some oj) (hap:oi.apart ops oj=true)
  (hsi:∀ cs b,oi.op ≠ .select cs b) (hsj:∀ cs b,oj.op ≠ .select cs b) {s i:Nat} {K:Act→World→Prop} {a:Act} {w:World}
  (hy:ReadsIn P ops md C s i oi v a) (h:wpOp P ops (fun _ _ _=>False) j K (a.put oi.dst v) w) :
  wpOp P ops (fun _ _ _=>False) j (fun a' w'=>ReadsIn P ops md C s i oi v a'∧K (a'.put oi.dst v) w') a w:=by
 obtain ⟨h1,h2,h3⟩:=Oper.apart_spec hap
 have keep:∀ (a:Act),ReadsIn P ops md C s i oi v a→∀ u,ReadsIn P ops md C s i oi v (a.put oj.dst u):=fun a hy u =>
  hy.of_same (execOp_put oi hsi a oj.dst u h3) (wanted_put oi a oj.dst u h3)
 have keepd:∀ d,ReadsIn P ops md C s i oi v ({ a with defers:=d :: a.defers }:Act):=fun d=>hy.of_same rfl rfl
 unfold wpOp at *
 simp only [hj] at *
 rw [wanted_put oj a oi.dst v h1] at h
 split
 ·rename_i hw
  simp only [hw,if_true] at h
  left
  rcases h with h | ⟨_,_,_,hf⟩
  ·unfold Oper.wp at *
   rw [execOp_put oj hsj a oi.dst v h1] at h
   generalize (execOp a.eval oj).run P w=r at *
   cases r with
   | ok n w' =>
    cases n <;> simp only [Oper.upon] at h ⊢
    case value u=>exact ⟨keep a hy u,by rw [← Act.put_comm a v u h2]; exact h⟩
    case skip=>exact ⟨keep a hy undef,by rw [← Act.put_comm a v undef h2]; exact h⟩
    case defer d =>
     refine ⟨keep _ (keepd d) undef,?_⟩
     rw [Act.put_defers] at h
     rw [← Act.put_comm _ v undef h2]
     exact h
    case enter f args =>
     exact Calls.mono h (fun e w'' he=>by
      cases e
      case returned u=>exact ⟨keep a hy u,by rw [← Act.put_comm a v u h2]; exact he⟩
      case panicked c=>exact he
      case outgrown=>obtain ⟨_,_,hf⟩:=he; exact hf.elim)
    case row row args=>exact Rows.mono h (fun u w'' he=>⟨keep a hy u,by rw [← Act.put_comm a v u h2]; exact he⟩)
    all_goals exact h
   | halt x w'=>cases x <;> simp only [Oper.upon] at h <;> exact h.elim
  ·exact hf.elim
 ·rename_i hw
  simp only [hw] at h
  exact ⟨keep a hy _,by rw [← Act.put_comm a v undef h2]; exact h⟩
theorem anyR_first {s i:Nat} {oi:Oper} {v:Value} {Q:Act→World→Prop} (hi:ops[i]?=some oi) (his:i≠s) (hne:noEnter oi.op=true) (hsel:∀ (j:Nat) (o:Oper) cs b,ops[j]?=some o→o.op ≠ .select cs b) :
  ∀ (f:Nat) (listed:Array Bool) (a:Act) (w:World),RInv md ops listed →
   (∀ j oj,ops[j]?=some oj→j≠i→listed.getD j true=false→(∀ e∈oj.after,Region.binds md e=true→e.on≠i)→oi.apart ops oj=true) →
   i∈Region.ready md ops listed→ReadsIn P ops md C s i oi v a→safeW C s listed w →
   anyR P md ops C s Q f (listed.setIfInBounds i true) (a.put oi.dst v) w→anyR P md ops C s Q (f + 1) listed a w:=by
 intro f
 induction f with
 | zero =>
  intro listed a w inv _ hr hy hs H
  refine ⟨fun h=>(by rw [h] at hr; cases hr),fun j hj=>?_⟩
  by_cases hji:j=i
  ·subst hji
   exact reads_op hi hne inv hr hs hy ⟨hs.imp (fun h=>getD_set_true h) id,H⟩
  ·have:=ready_mono hj hji
   rw [H.1] at this
   cases this
 | succ f ih =>
  intro listed a w inv hfree hr hy hs H
  have hun:=(mem_ready.1 hr).1
  refine ⟨fun h=>(by rw [h] at hr; cases hr),fun j hj=>?_⟩
  by_cases hji:j=i
  ·subst hji
   exact reads_op hi hne inv hr hs hy ⟨hs.imp (fun h=>getD_set_true h) id,H⟩
  ·have h1:=H.2 j (ready_mono hj hji)
   obtain ⟨hjun,oj,hoj,hall⟩:=mem_ready.1 hj
   have hnot:∀ e∈oj.after,Region.binds md e=true→e.on≠i:=fun e he hb heq=>by
    have h1:=hall e he hb
    rw [heq,getD_both hun] at h1
    cases h1
   have h2:=wpOp_put hoj (hfree j oj hoj hji hjun hnot) (fun cs b=>hsel i oi cs b hi) (fun cs b=>hsel j oj cs b hoj) hy h1
   have hfree':∀ k ok,ops[k]?=some ok→k≠i→(listed.setIfInBounds j true).getD k true=false →
     (∀ e∈ok.after,Region.binds md e=true→e.on≠i)→oi.apart ops ok=true:=fun k ok hk hki hun hno=>by
    refine hfree k ok hk hki ?_ hno
    by_cases hjk:j=k
    ·subst hjk; exact hjun
    ·rw [getD_set_ne true hjk] at hun; exact hun
   have hr':=ready_mono hr (Ne.symm hji)
   refine wpOp_mono (fun a' w' h3=>?_) h2
   obtain ⟨hy',hs',H'⟩:=h3
   have hs2:safeW C s (listed.setIfInBounds j true) w':=by
    rcases hs' with h | h
    ·rw [Array.setIfInBounds_comm _ _ (Ne.symm hji),getD_set_ne false his] at h
     exact .inl h
    ·exact .inr h
   refine ⟨hs2,ih (listed.setIfInBounds j true) a' w' (inv.set hj) hfree' hr' hy' hs2 ?_⟩
   rw [Array.setIfInBounds_comm _ _ hji]
   exact H'
def ordB (md:Region.Mode) (ops:Array Oper) (s:Nat):List (Nat×Nat)→Array Bool→Bool
 | [],listed=>(Region.ready md ops listed).isEmpty
 | (k,i) :: l,listed =>
  (if k=0 then decide (Region.ready md ops listed=[i])
  else (Region.ready md ops listed).contains i && Region.free md ops listed i && (match ops[i]? with | some o=>noEnter o.op | none=>false) && decide (i≠s) && (k == 2 || reachB md ops 4 s i)) &&
  ordB md ops s l (listed.setIfInBounds i true)
def walkR (P:Program) (ops:Array Oper) (C:World→Prop) (s:Nat) (Q:Act→World→Prop):List (Nat×Nat)→Bool→Act→World→Prop
 | [],_,a,w=>Q a w
 | (k,i) :: l,b,a,w =>
  if k=0 then wpList P ops (fun e a' w'=>e = .normal∧((b || i == s)=true∨C w')∧walkR P ops C s Q l (b || i == s) a' w') (ops[i]?).toList a w
  else if k=2 then wpQuiet P ops (fun _=>True) (fun a'=>walkR P ops C s Q l b a' w) (ops[i]?).toList a
  else wpQuiet P ops C (fun a'=>walkR P ops C s Q l b a' w) (ops[i]?).toList a
theorem qOp_of_list {i:Nat} {o:Oper} {a:Act} {D:World→Prop} {K:Act→Prop} (hi:ops[i]?=some o) (h:wpQuiet P ops D K (ops[i]?).toList a):qOp P ops D i K a:=by
 rw [hi] at h
 unfold qOp
 simp only [hi]
 exact h
theorem anyR_walk {s:Nat} {Q:Act→World→Prop} (hsel:Region.noSelect ops=true) :
  ∀ (l:List (Nat×Nat)) (listed:Array Bool) (a:Act) (w:World),RInv md ops listed→safeW C s listed w→ordB md ops s l listed=true →
   walkR P ops C s Q l (listed.getD s false) a w→anyR P md ops C s Q l.length listed a w
 | [],listed,a,w,_,_,hB,h=>⟨by simpa [ordB] using hB,h⟩
 | (k,i) :: l,listed,a,w,inv,hs,hB,h=>by
  simp only [ordB,Bool.and_eq_true] at hB
  obtain ⟨hB1,hB2⟩:=hB
  by_cases hk:k=0
  ·subst hk
   simp only [if_true,decide_eq_true_eq] at hB1
   have hr:i∈Region.ready md ops listed:=by rw [hB1]; exact List.mem_singleton.2 rfl
   have hgs:(listed.setIfInBounds i true).getD s false=(listed.getD s false || i == s):=by
    by_cases his:i=s
    ·subst his
     obtain ⟨hun,o,ho,_⟩:=mem_ready.1 hr
     have hlt:i < listed.size:=by rw [inv.size]; exact (Array.getElem?_eq_some_iff.1 ho).1
     simp [hlt]
    ·rw [getD_set_ne false his]
     simp [his]
   refine ⟨by rw [hB1]; simp,fun j hj=>?_⟩
   rw [hB1] at hj
   obtain rfl:=List.mem_singleton.1 hj
   obtain ⟨hun,o,ho,_⟩:=mem_ready.1 hr
   simp only [walkR,if_true,ho,Option.toList] at h
   have h2:wpOp P ops (fun e a' w'=>e = .normal∧((listed.getD s false || j == s)=true∨C w')∧walkR P ops C s Q l (listed.getD s false || j == s) a' w') j (fun a' w'=>((listed.getD s false || j == s)=true∨C w')∧walkR P ops C s Q l (listed.getD s false || j == s) a' w') a w:=by
    unfold wpOp
    simp only [ho]
    simp only [wpList,true_and] at h
    exact h
   have h3:=wpOp_strong (fun e a' w' hq=>hq.1) h2
   refine wpOp_mono (fun a' w' h4=>?_) h3
   have hs2:safeW C s (listed.setIfInBounds j true) w':=by unfold safeW; rw [hgs]; exact h4.1
   exact ⟨hs2,anyR_walk hsel l _ a' w' (inv.set hr) hs2 hB2 (by rw [hgs]; exact h4.2)⟩
  ·rw [if_neg hk] at hB1
   simp only [Bool.and_eq_true,decide_eq_true_eq,Bool.or_eq_true,beq_iff_eq] at hB1
   obtain ⟨⟨⟨⟨hr,hf⟩,hne⟩,his⟩,hw⟩:=hB1
   have hr':i∈Region.ready md ops listed:=by simpa using hr
   obtain ⟨_,o,ho,_⟩:=mem_ready.1 hr'
   have hne':noEnter o.op=true:=by rw [ho] at hne; exact hne
   have hgs:(listed.setIfInBounds i true).getD s false=listed.getD s false:=getD_set_ne false his
   have hs2:safeW C s (listed.setIfInBounds i true) w:=by unfold safeW; rw [hgs]; exact hs
   simp only [walkR,if_neg hk] at h
   have hread:∃ v,ReadsIn P ops md C s i o v a∧walkR P ops C s Q l (listed.getD s false) (a.put o.dst v) w:=by
    by_cases h2:k=2
    ·rw [if_pos h2] at h
     obtain ⟨v,hy,hK⟩:=yieldsIn_of_qOp ho (qOp_of_list ho h)
     exact ⟨v,.inr hy,hK⟩
    ·rw [if_neg h2] at h
     obtain ⟨v,hy,hK⟩:=yieldsIn_of_qOp ho (qOp_of_list ho h)
     exact ⟨v,.inl ⟨hw.resolve_left h2,hy⟩,hK⟩
   obtain ⟨v,hy,hK⟩:=hread
   exact anyR_first ho his hne' (Region.noSelect_spec hsel) l.length listed a w inv (Region.free_spec ho hf) hr' hy hs
    (anyR_walk hsel l _ _ w (inv.set hr') hs2 hB2 (by rw [hgs]; exact hK))
theorem pick_one:∀ (l:List Oper) (i:Nat),(l.toArray[i]?).toList=(l.drop i).take 1
 | [],i=>by simp
 | o :: l,0=>by simp
 | o :: l,i + 1=>by
  have:=pick_one l i
  simpa using this
theorem walkR_read {s i:Nat} {Q:Act→World→Prop} {l:List (Nat×Nat)} {b:Bool} {a:Act} {w:World} {lo:List Oper} (h:wpQuiet P lo.toArray C (fun a'=>walkR P lo.toArray C s Q l b a' w) ((lo.drop i).take 1) a):walkR P lo.toArray C s Q ((1,i) :: l) b a w:=by
 simp only [walkR,pick_one]
 exact h
theorem walkR_any {s i:Nat} {Q:Act→World→Prop} {l:List (Nat×Nat)} {b:Bool} {a:Act} {w:World} {lo:List Oper} (h:wpQuiet P lo.toArray (fun _=>True) (fun a'=>walkR P lo.toArray C s Q l b a' w) ((lo.drop i).take 1) a):walkR P lo.toArray C s Q ((2,i) :: l) b a w:=by
 simp only [walkR,pick_one]
 exact h
theorem walkR_move {s i:Nat} {Q:Act→World→Prop} {l:List (Nat×Nat)} {b:Bool} {a:Act} {w:World} {lo:List Oper}
  (h:wpList P lo.toArray (fun e a' w'=>e = .normal∧((b || i == s)=true∨C w')∧walkR P lo.toArray C s Q l (b || i == s) a' w') ((lo.drop i).take 1) a w):walkR P lo.toArray C s Q ((0,i) :: l) b a w:=by
 simp only [walkR,pick_one]
 exact h
theorem wp_region_readers {id:Nat} {Q:Exit→Act→World→Prop} {a:Act} {w:World} {l:List Oper} (s:Nat) (ord:List (Nat×Nat)) (C:World→Prop) (hm:P.follows .mixedOrders=true)
  (hB:(Region.noSelect l.toArray && decide (ord.length=l.length) && ordB .any l.toArray s ord (Array.replicate l.length false))=true)
  (hC:C { w with drawn:=w.drawn + 1 }) (h:walkR P l.toArray C s (fun a' w'=>Q .normal a' w') ord false a { w with drawn:=w.drawn + 1 }):(Code.region id l.toArray true).wp P Q a w:=by
 simp only [Bool.and_eq_true,decide_eq_true_eq] at hB
 obtain ⟨⟨hsel,hlen⟩,hord⟩:=hB
 refine wp_region_any hm ?_
 have inv0:RInv .any l.toArray (Array.replicate l.length false):=⟨by simp,fun j oj _ hl=>(by rw [getD_replicate_false] at hl; cases hl)⟩
 have H:=anyR_walk (md := .any) hsel ord _ a _ inv0 (.inr hC) hord (by rw [getD_replicate_false]; exact h)
 have:=anyR_any (Q':=Q) (fun a w h=>h) _ _ _ _ H
 rw [hlen] at this
 simpa using this
end
section
variable {P:Program} {ops:Array Oper} {md:Region.Mode} {C:World→Prop}
inductive RTree where
 | nil:RTree
 | rd:Nat→Nat→RTree→RTree
 | mv:Nat→RTree→RTree
 | two:Nat→Nat→RTree→RTree→RTree
def RTree.len:RTree→Nat
 | .nil=>0
 | .rd _ _ t=>t.len + 1
 | .mv _ t=>t.len + 1
 | .two _ _ t _=>t.len + 1
def ordT (md:Region.Mode) (ops:Array Oper) (s:Nat):RTree→Array Bool→Bool
 | .nil,listed=>(Region.ready md ops listed).isEmpty
 | .rd k i t,listed =>
  ((Region.ready md ops listed).contains i && Region.free md ops listed i && (match ops[i]? with | some o=>noEnter o.op | none=>false) && decide (i≠s) && (k == 2 || reachB md ops 4 s i)) &&
  ordT md ops s t (listed.setIfInBounds i true)
 | .mv i t,listed=>decide (Region.ready md ops listed=[i]) && ordT md ops s t (listed.setIfInBounds i true)
 | .two i j t u,listed=>(decide (Region.ready md ops listed=[i,j]) && decide (t.len=u.len)) && (ordT md ops s t (listed.setIfInBounds i true) && ordT md ops s u (listed.setIfInBounds j true))
def walkT (P:Program) (ops:Array Oper) (C:World→Prop) (s:Nat) (Q:Act→World→Prop):RTree→Bool→Act→World→Prop
 | .nil,_,a,w=>Q a w
 | .rd k i t,b,a,w=>if k=2 then wpQuiet P ops (fun _=>True) (fun a'=>walkT P ops C s Q t b a' w) (ops[i]?).toList a else wpQuiet P ops C (fun a'=>walkT P ops C s Q t b a' w) (ops[i]?).toList a
 | .mv i t,b,a,w=>wpList P ops (fun e a' w'=>e = .normal∧((b || i == s)=true∨C w')∧walkT P ops C s Q t (b || i == s) a' w') (ops[i]?).toList a w
 | .two i j t u,b,a,w =>
  wpList P ops (fun e a' w'=>e = .normal∧((b || i == s)=true∨C w')∧walkT P ops C s Q t (b || i == s) a' w') (ops[i]?).toList a w ∧
  wpList P ops (fun e a' w'=>e = .normal∧((b || j == s)=true∨C w')∧walkT P ops C s Q u (b || j == s) a' w') (ops[j]?).toList a w
theorem set_getD {s i:Nat} {listed:Array Bool} (inv:RInv md ops listed) (hr:i∈Region.ready md ops listed):(listed.setIfInBounds i true).getD s false=(listed.getD s false || i == s):=by
 by_cases his:i=s
 ·subst his
  obtain ⟨hun,o,ho,_⟩:=mem_ready.1 hr
  have hlt:i < listed.size:=by rw [inv.size]; exact (Array.getElem?_eq_some_iff.1 ho).1
  simp [hlt]
 ·rw [getD_set_ne false his]
  simp [his]
theorem step_mv {s j:Nat} {K:Act→World→Prop} {listed:Array Bool} {a:Act} {w:World} (inv:RInv md ops listed) (hr:j∈Region.ready md ops listed)
  (h:wpList P ops (fun e a' w'=>e = .normal∧((listed.getD s false || j == s)=true∨C w')∧K a' w') (ops[j]?).toList a w) :
  wpOp P ops (fun _ _ _=>False) j (fun a' w'=>safeW C s (listed.setIfInBounds j true) w'∧K a' w') a w:=by
 obtain ⟨hun,o,ho,_⟩:=mem_ready.1 hr
 simp only [ho,Option.toList] at h
 have h2:wpOp P ops (fun e a' w'=>e = .normal∧((listed.getD s false || j == s)=true∨C w')∧K a' w') j (fun a' w'=>((listed.getD s false || j == s)=true∨C w')∧K a' w') a w:=by
  unfold wpOp
  simp only [ho]
  simp only [wpList,true_and] at h
  exact h
 have h3:=wpOp_strong (fun e a' w' hq=>hq.1) h2
 refine wpOp_mono (fun a' w' h4=>⟨?_,h4.2⟩) h3
 unfold safeW
 rw [set_getD inv hr]
 exact h4.1
theorem anyR_tree {s:Nat} {Q:Act→World→Prop} (hsel:Region.noSelect ops=true) :
  ∀ (l:RTree) (listed:Array Bool) (a:Act) (w:World),RInv md ops listed→safeW C s listed w→ordT md ops s l listed=true →
   walkT P ops C s Q l (listed.getD s false) a w→anyR P md ops C s Q l.len listed a w
 | .nil,listed,a,w,_,_,hB,h=>⟨by simpa [ordT] using hB,h⟩
 | .mv i t,listed,a,w,inv,hs,hB,h=>by
  simp only [ordT,Bool.and_eq_true,decide_eq_true_eq] at hB
  obtain ⟨hB1,hB2⟩:=hB
  have hr:i∈Region.ready md ops listed:=by rw [hB1]; exact List.mem_singleton.2 rfl
  refine ⟨by rw [hB1]; simp,fun j hj=>?_⟩
  rw [hB1] at hj
  obtain rfl:=List.mem_singleton.1 hj
  refine wpOp_mono (fun a' w' h4=>⟨h4.1,anyR_tree hsel t _ a' w' (inv.set hr) h4.1 hB2 ?_⟩) (step_mv inv hr h)
  rw [set_getD inv hr]
  exact h4.2
 | .two i k t u,listed,a,w,inv,hs,hB,h=>by
  simp only [ordT,Bool.and_eq_true,decide_eq_true_eq] at hB
  obtain ⟨⟨hB1,hlen⟩,hB2,hB3⟩:=hB
  have hr:i∈Region.ready md ops listed:=by rw [hB1]; simp
  have hr2:k∈Region.ready md ops listed:=by rw [hB1]; simp
  refine ⟨by rw [hB1]; simp,fun j hj=>?_⟩
  rw [hB1] at hj
  simp only [List.mem_cons,List.not_mem_nil,or_false] at hj
  by_cases hji:j=i
  ·subst hji
   refine wpOp_mono (fun a' w' h4=>⟨h4.1,anyR_tree hsel t _ a' w' (inv.set hr) h4.1 hB2 ?_⟩) (step_mv inv hr h.1)
   rw [set_getD inv hr]
   exact h4.2
  ·have hjk:j=k:=hj.resolve_left hji
   subst hjk
   have:=wpOp_mono (fun a' w' (h4:safeW C s (listed.setIfInBounds j true) w'∧walkT P ops C s Q u (listed.getD s false || j == s) a' w')=>(⟨h4.1,anyR_tree hsel u _ a' w' (inv.set hr2) h4.1 hB3 (by rw [set_getD inv hr2]; exact h4.2)⟩:safeW C s (listed.setIfInBounds j true) w'∧anyR P md ops C s Q u.len (listed.setIfInBounds j true) a' w')) (step_mv inv hr2 h.2)
   rw [← hlen] at this
   exact this
 | .rd k i t,listed,a,w,inv,hs,hB,h=>by
  simp only [ordT,Bool.and_eq_true] at hB
  obtain ⟨hB1,hB2⟩:=hB
  simp only [decide_eq_true_eq,Bool.or_eq_true,beq_iff_eq] at hB1
  obtain ⟨⟨⟨⟨hr,hf⟩,hne⟩,his⟩,hw⟩:=hB1
  have hr':i∈Region.ready md ops listed:=by simpa using hr
  obtain ⟨_,o,ho,_⟩:=mem_ready.1 hr'
  have hne':noEnter o.op=true:=by rw [ho] at hne; exact hne
  have hgs:(listed.setIfInBounds i true).getD s false=listed.getD s false:=getD_set_ne false his
  have hs2:safeW C s (listed.setIfInBounds i true) w:=by unfold safeW; rw [hgs]; exact hs
  simp only [walkT] at h
  have hread:∃ v,ReadsIn P ops md C s i o v a∧walkT P ops C s Q t (listed.getD s false) (a.put o.dst v) w:=by
   by_cases h2:k=2
   ·rw [if_pos h2] at h
    obtain ⟨v,hy,hK⟩:=yieldsIn_of_qOp ho (qOp_of_list ho h)
    exact ⟨v,.inr hy,hK⟩
   ·rw [if_neg h2] at h
    obtain ⟨v,hy,hK⟩:=yieldsIn_of_qOp ho (qOp_of_list ho h)
    exact ⟨v,.inl ⟨hw.resolve_left h2,hy⟩,hK⟩
  obtain ⟨v,hy,hK⟩:=hread
  exact anyR_first ho his hne' (Region.noSelect_spec hsel) t.len listed a w inv (Region.free_spec ho hf) hr' hy hs
   (anyR_tree hsel t _ _ w (inv.set hr') hs2 hB2 (by rw [hgs]; exact hK))
theorem walkT_read {s i:Nat} {Q:Act→World→Prop} {l:RTree} {b:Bool} {a:Act} {w:World} {lo:List Oper} (h:wpQuiet P lo.toArray C (fun a'=>walkT P lo.toArray C s Q l b a' w) ((lo.drop i).take 1) a):walkT P lo.toArray C s Q (.rd 1 i l) b a w:=by
 simp only [walkT,pick_one]
 exact h
theorem walkT_any {s i:Nat} {Q:Act→World→Prop} {l:RTree} {b:Bool} {a:Act} {w:World} {lo:List Oper} (h:wpQuiet P lo.toArray (fun _=>True) (fun a'=>walkT P lo.toArray C s Q l b a' w) ((lo.drop i).take 1) a):walkT P lo.toArray C s Q (.rd 2 i l) b a w:=by
 simp only [walkT,pick_one]
 exact h
theorem walkT_move {s i:Nat} {Q:Act→World→Prop} {l:RTree} {b:Bool} {a:Act} {w:World} {lo:List Oper}
  (h:wpList P lo.toArray (fun e a' w'=>e = .normal∧((b || i == s)=true∨C w')∧walkT P lo.toArray C s Q l (b || i == s) a' w') ((lo.drop i).take 1) a w):walkT P lo.toArray C s Q (.mv i l) b a w:=by
 simp only [walkT,pick_one]
 exact h
theorem walkT_two {s i j:Nat} {Q:Act→World→Prop} {l m:RTree} {b:Bool} {a:Act} {w:World} {lo:List Oper}
  (h1:wpList P lo.toArray (fun e a' w'=>e = .normal∧((b || i == s)=true∨C w')∧walkT P lo.toArray C s Q l (b || i == s) a' w') ((lo.drop i).take 1) a w)
  (h2:wpList P lo.toArray (fun e a' w'=>e = .normal∧((b || j == s)=true∨C w')∧walkT P lo.toArray C s Q m (b || j == s) a' w') ((lo.drop j).take 1) a w):walkT P lo.toArray C s Q (.two i j l m) b a w:=by
 simp only [walkT,pick_one]
 exact ⟨h1,h2⟩
theorem wp_region_tree {id:Nat} {Q:Exit→Act→World→Prop} {a:Act} {w:World} {l:List Oper} (s:Nat) (ord:RTree) (C:World→Prop) (hm:P.follows .mixedOrders=true)
  (hB:(Region.noSelect l.toArray && decide (ord.len=l.length) && ordT .any l.toArray s ord (Array.replicate l.length false))=true)
  (hC:C { w with drawn:=w.drawn + 1 }) (h:walkT P l.toArray C s (fun a' w'=>Q .normal a' w') ord false a { w with drawn:=w.drawn + 1 }):(Code.region id l.toArray true).wp P Q a w:=by
 simp only [Bool.and_eq_true,decide_eq_true_eq] at hB
 obtain ⟨⟨hsel,hlen⟩,hord⟩:=hB
 refine wp_region_any hm ?_
 have inv0:RInv .any l.toArray (Array.replicate l.length false):=⟨by simp,fun j oj _ hl=>(by rw [getD_replicate_false] at hl; cases hl)⟩
 have H:=anyR_tree (md := .any) hsel ord _ a _ inv0 (.inr hC) hord (by rw [getD_replicate_false]; exact h)
 have:=anyR_any (Q':=Q) (fun a w h=>h) _ _ _ _ H
 rw [hlen] at this
 simpa using this
end
end Go.Proofs.YtlomhfknmhaboaaGreatDoor.RY
