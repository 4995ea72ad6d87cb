/- Lemmas for the laws of this seat, part 3. -/
import Derived.RegionIn
import Derived.BigRegionIn
import Derived.WalkMore
import Derived.Scope
import Derived.Great.BuildSlice
import Derived.Laws.StructEq
import Derived.Lib.Join
import Derived.Shelf.Strings.OnBuilder
import Derived.Lib.SmallJoins
import Derived.Deep.Strs
import Derived.Laws.BitsLemmas
import Derived.Laws.Bits64
import Derived.Shelf.Lays7
import Derived.Shelf.Spec.BitsCarry
import Derived.Test.YtnjedhgcfeoemaaGreatDoorWj2
set_option maxRecDepth 100000
set_option maxHeartbeats 16000000
namespace Go.Proofs.YtnjedhgcfeoemaaGreatDoor
open Go.RowKit Go.Shelf
attribute [local go_sem] Oper.semAt_some
def lgA (p:Int):Int:=match Vm p.toNat 62 26 with
 | some s=>s.2.2
 | none=>0
def lgB (p:Int):Int:=if p=2 then lgA p else lgA p+1
def okT (most:Int) (x:Int×Int):Prop:=(-most≤x.2∧x.2≤most)∧(Vm x.1.toNat 62 26).isSome=true
instance (most:Int) (x:Int×Int):Decidable (okT most x):=by unfold okT;infer_instance
def Zcz (tl:List (Int×Int)):Int:=(tl.map fun x=>min (x.2*lgA x.1) (x.2*lgB x.1)).sum
def Yi (tl:List (Int×Int)):Int:=(tl.map fun x=>max (x.2*lgA x.1) (x.2*lgB x.1)).sum
structure Zl (p:Addr) (v:Value) where
 w:World
 h:w.cell? p=some v
def Zkh (most:Int) (tl:List (Int×Int)):Value :=
 if ∀ x∈tl,okT most x then .tuple #[.int .i64 (Zcz tl),.int .i64 (Yi tl),.bool true] else .tuple #[.int .i64 0,.int .i64 0,.bool false]
theorem Qh{W W':World}(h:Below W.heap.size W W'):KeepsOthers W W' :=
 ⟨h.size,fun k _ hk _=>(h.block k (Array.getElem?_eq_some_iff.1 hk).1).trans hk⟩
theorem Ys{w:World}{g:Nat}{a:Value}{t:TypeId}(h:w.heap[g]?=some (.cells #[a] t (0,0))):w.cell? ⟨g,0,none⟩=some a∧w.frozen? ⟨g,0,none⟩=false :=
 ⟨by rw[cell_of_row w g 0 _ t (0,0) h];rfl,by simp[World.frozen?,h]⟩
theorem Kl{w:World}{g:Nat}{o:Obj}(h:w.heap[g]?=some o)(o':Obj):(w.alloc o').heap[g]?=some o:=by
 exact(Below.heap_alloc w o' g (Array.getElem?_eq_some_iff.1 h).1).trans h
theorem Qx(w:World)(c:Array Value)(t:TypeId)(k:Nat)(hk:w.heap.size=k):(w.alloc (.cells c t)).heap[k]?=some (.cells c t (0,0)):=by
 subst hk;exact Go.heap_alloc_new w _
theorem Zz2(w:World)(o1:Obj)(v2 v3 v4 v5:Value)(t2 t3 t4 t5:TypeId)(W:World)(hW:((((w.alloc o1).alloc (.cells #[v2] t2)).alloc (.cells #[v3] t3)).alloc (.cells #[v4] t4)).alloc (.cells #[v5] t5)=W):
  W.heap[w.heap.size+1]?=some (.cells #[v2] t2 (0,0))∧W.heap[w.heap.size+1+1]?=some (.cells #[v3] t3 (0,0))∧W.heap[w.heap.size+1+1+1]?=some (.cells #[v4] t4 (0,0))∧W.heap[w.heap.size+1+1+1+1]?=some (.cells #[v5] t5 (0,0)):=by
 subst hW;refine⟨Kl (Kl (Kl (Qx _ _ _ _ (by simp)) _) _) _,Kl (Kl (Qx _ _ _ _ (by simp)) _) _,Kl (Qx _ _ _ _ (by simp)) _,Qx _ _ _ _ (by simp)⟩
structure Zdh (B:Nat) (most:Int) (l:List (Int×Int)) (W:World):Prop where
 c3:W.cell? ⟨B+1,0,none⟩=some (.int .i64 most)
 c4:W.cell? ⟨B+1+1,0,none⟩=some (.int .i64 (Zcz l))
 c5:W.cell? ⟨B+1+1+1,0,none⟩=some (.int .i64 (Yi l))
 c6:W.cell? ⟨B+1+1+1+1,0,none⟩=some (.bool false)
 f4:W.frozen? ⟨B+1+1,0,none⟩=false
 f5:W.frozen? ⟨B+1+1+1,0,none⟩=false
 f6:W.frozen? ⟨B+1+1+1+1,0,none⟩=false
 sz:B+5<W.heap.size
 ok:∀ x∈l,okT most x
structure Ztp (B:Nat) (W:World):Prop where
 c4:W.cell? ⟨B+1+1,0,none⟩=some (.int .i64 0)
 c5:W.cell? ⟨B+1+1+1,0,none⟩=some (.int .i64 0)
 c6:W.cell? ⟨B+1+1+1+1,0,none⟩=some (.bool false)
theorem Zdh.below{B:Nat}{most:Int}{l:List (Int×Int)}{W W':World}(h:Zdh B most l W)(hb:Below W.heap.size W W'):Zdh B most l W' :=
 ⟨(hb.cell (block_lt_of_cell h.c3)).trans h.c3,(hb.cell (block_lt_of_cell h.c4)).trans h.c4,(hb.cell (block_lt_of_cell h.c5)).trans h.c5,(hb.cell (block_lt_of_cell h.c6)).trans h.c6,
  (hb.frozen (block_lt_of_cell h.c4)).trans h.f4,(hb.frozen (block_lt_of_cell h.c5)).trans h.f5,(hb.frozen (block_lt_of_cell h.c6)).trans h.f6,Nat.lt_of_lt_of_le h.sz hb.size,h.ok⟩
theorem Zdh.kept{B:Nat}{most:Int}{l:List (Int×Int)}{W W':World}{row:Option Nat}(h:Zdh B most l W)(hg:W.grownBy W' row)(hr:∀ r,row=some r→∃ o:Obj,W.heap[r]?=some o∧o.isCells=false):Zdh B most l W' :=
 ⟨cell_kept h.c3 hg hr,cell_kept h.c4 hg hr,cell_kept h.c5 hg hr,cell_kept h.c6 hg hr,(frozen_kept h.c4 hg hr).trans h.f4,(frozen_kept h.c5 hg hr).trans h.f5,(frozen_kept h.c6 hg hr).trans h.f6,Nat.lt_of_lt_of_le h.sz hg.size,h.ok⟩
theorem Ztp.kept{B:Nat}{W W':World}{row:Option Nat}(h:Ztp B W)(hg:W.grownBy W' row)(hr:∀ r,row=some r→∃ o:Obj,W.heap[r]?=some o∧o.isCells=false):Ztp B W' :=
 ⟨cell_kept h.c4 hg hr,cell_kept h.c5 hg hr,cell_kept h.c6 hg hr⟩
theorem Zdh.quits{B:Nat}{most:Int}{l:List (Int×Int)}{W:World}(h:Zdh B most l W):Ztp B (((W.setCell ⟨B+1+1,0,none⟩ (.int .i64 0)).setCell ⟨B+1+1+1,0,none⟩ (.int .i64 0)).setCell ⟨B+1+1+1+1,0,none⟩ (.bool false)):=by
 refine⟨?_,?_,?_⟩
 ·rw[World.cell?_setCell_other _ _ _ _ (by simp),World.cell?_setCell_other _ _ _ _ (by simp),World.cell?_setCell_same _ _ _ h.c4]
 ·rw[World.cell?_setCell_other _ _ _ _ (by simp),World.cell?_setCell_same _ _ _ (by rw[World.cell?_setCell_other _ _ _ _ (by simp)];exact h.c5)]
 ·rw[World.cell?_setCell_same _ _ _ (by rw[World.cell?_setCell_other _ _ _ _ (by simp),World.cell?_setCell_other _ _ _ _ (by simp)];exact h.c6)]
theorem Zdh.stored{B:Nat}{most:Int}{l l':List (Int×Int)}{W:World}(h:Zdh B most l W){v5 v6:Int}(h5:Zcz l'=v5)(h6:Yi l'=v6)(ok:∀ x∈l',okT most x):
  Zdh B most l' ((W.setCell ⟨B+1+1,0,none⟩ (.int .i64 v5)).setCell ⟨B+1+1+1,0,none⟩ (.int .i64 v6)):=by
 refine⟨?_,?_,?_,?_,?_,?_,?_,?_,ok⟩
 ·rw[World.cell?_setCell_other _ _ _ _ (by simp),World.cell?_setCell_other _ _ _ _ (by simp)];exact h.c3
 ·rw[World.cell?_setCell_other _ _ _ _ (by simp),World.cell?_setCell_same _ _ _ h.c4,h5]
 ·rw[World.cell?_setCell_same _ _ _ (by rw[World.cell?_setCell_other _ _ _ _ (by simp)];exact h.c5),h6]
 ·rw[World.cell?_setCell_other _ _ _ _ (by simp),World.cell?_setCell_other _ _ _ _ (by simp)];exact h.c6
 ·rw[World.frozen?_setCell,World.frozen?_setCell];exact h.f4
 ·rw[World.frozen?_setCell,World.frozen?_setCell];exact h.f5
 ·rw[World.frozen?_setCell,World.frozen?_setCell];exact h.f6
 ·have:=h.sz;simpa using this
theorem Zrv{B:Nat}{W0 W W4:World}(hB:W0.heap.size=B)(hb:Below W0.heap.size W0 W)(hsz:B+5<W.heap.size)(h:Below W.heap.size W W4)(v5 v6:Value):
  KT B (B+5) W ((W4.setCell ⟨B+1+1,0,none⟩ v5).setCell ⟨B+1+1+1,0,none⟩ v6):=by
 subst hB;refine⟨((h.mono hb.size).setCell (p:=⟨W0.heap.size+1+1,0,none⟩) (by show _≤W0.heap.size+1+1;omega) _).setCell (p:=⟨W0.heap.size+1+1+1,0,none⟩) (by show _≤W0.heap.size+1+1+1;omega) _,?_⟩
 rw[Zp (g:=W0.heap.size+1+1+1) (k:=W0.heap.size+5) (by omega),Zp (g:=W0.heap.size+1+1) (k:=W0.heap.size+5) (by omega),h.block _ hsz]
theorem Zak{W0 W:World}(hb:Below W0.heap.size W0 W)(v5 v6:Value):Below W0.heap.size W0 ((W.setCell ⟨W0.heap.size+1+1,0,none⟩ v5).setCell ⟨W0.heap.size+1+1+1,0,none⟩ v6) :=
 (hb.setCell (p:=⟨W0.heap.size+1+1,0,none⟩) (by show _≤W0.heap.size+1+1;omega) _).setCell (p:=⟨W0.heap.size+1+1+1,0,none⟩) (by show _≤W0.heap.size+1+1+1;omega) _
def Zmd (w:World) (b1 b2:Option Addr) (d1 d2 D m:Nat) (most:Int) (p:Int) (k:ByteArray):Act:={ tmps := #[.agg (Qa b1 d1 b2 d2 m D),.int .i64 most,.pointer (some ⟨w.heap.size,0,none⟩),.pointer (some ⟨w.heap.size+1,0,none⟩),.pointer (some ⟨w.heap.size+1+1,0,none⟩),.pointer (some ⟨w.heap.size+1+1+1,0,none⟩),.pointer (some ⟨w.heap.size+1+1+1+1,0,none⟩),.int .i64 p,.string k,undef,undef,undef,undef,undef,.agg #[.slice b1 m d1,.slice b2 m d2,.string (dec D)],.func (.func 241) #[] #[.pointer (some ⟨w.heap.size+1+1+1+1+1,0,none⟩)],.int .i64 p,.string k,undef,undef,undef,undef,undef,undef,undef,undef,undef,undef,undef,undef,undef,undef,undef,undef,undef,undef,undef,undef,undef,undef,undef,undef,undef,undef,undef,undef,undef,undef,undef,undef,undef,undef,undef,undef,undef,undef,undef,undef,undef,undef,undef,undef,undef,undef,undef,undef,undef,undef],defers:=[] }
theorem Zr5(l:List (Int×Int))(x:Int×Int):Zcz (l++[x])=Zcz l+min (x.2*lgA x.1) (x.2*lgB x.1):=by simp[Zcz]
theorem Zpy(l:List (Int×Int))(x:Int×Int):Yi (l++[x])=Yi l+max (x.2*lgA x.1) (x.2*lgB x.1):=by simp[Yi]
theorem Zzd(p:Int)(h1:2≤p)(h2:p≤97):0≤lgA p∧lgA p≤469762048:=by
 unfold lgA;cases hq:Vm p.toNat 62 26 with
 | none=>exact⟨Int.le_refl _,by decide⟩
 | some s =>
  have hfit:=(Zdu p.toNat (by omega) (by omega) 26 s hq).out
  have:(2:Nat)^26=67108864:=rfl
  simp only;omega
theorem Zrh{k a:Int}(hk : -10000000≤k∧k≤10000000)(ha:0≤a∧a≤469762049): -4697620490000000≤k*a∧k*a≤4697620490000000:=by
 have h:(k*a).natAbs≤10000000*469762049:=by rw[Int.natAbs_mul];exact Nat.mul_le_mul (by omega) (by omega)
 omega
theorem Zqv{most:Int}(hm:most≤10000000){x:Int×Int}(hx:okT most x)(hp:2≤x.1∧x.1≤97):
  (-4697620490000000≤x.2*lgA x.1∧x.2*lgA x.1≤4697620490000000)∧(-4697620490000000≤x.2*lgB x.1∧x.2*lgB x.1≤4697620490000000):=by
 have ha:=Zzd x.1 hp.1 hp.2;have hk:=hx.1;refine⟨Zrh (by omega) (by omega),Zrh (by omega) ?_⟩
 unfold lgB;split<;>omega
theorem Zqy{most:Int}(hm:most≤10000000):∀ (l:List (Int×Int)),(∀ x∈l,okT most x∧2≤x.1∧x.1≤97) →
  (-((l.length:Int)*4697620490000000)≤Zcz l∧Zcz l≤(l.length:Int)*4697620490000000)∧(-((l.length:Int)*4697620490000000)≤Yi l∧Yi l≤(l.length:Int)*4697620490000000)
 | [],_=>⟨⟨Int.le_refl _,Int.le_refl _⟩,⟨Int.le_refl _,Int.le_refl _⟩⟩
 | x::l,h=>by
  have ih:=Zqy hm l (fun y hy=>h y (List.mem_cons_of_mem _ hy))
  have hx:=h x (List.mem_cons_self ..);have ht:=Zqv hm hx.1 hx.2;have e1:Zcz (x::l)=min (x.2*lgA x.1) (x.2*lgB x.1)+Zcz l:=by simp[Zcz]
  have e2:Yi (x::l)=max (x.2*lgA x.1) (x.2*lgB x.1)+Yi l:=by simp[Yi]
  rw[e1,e2,List.length_cons];omega
theorem Zix(w:World)(b1 b2:Option Addr)(d1 d2 D:Nat)(tl:List (Int×Int))(most:Int)(hm0:0≤most)(hm:most≤10000000)(hl:tl.length≤1000)
  (hr1:Rd w b1 (Vc (tl.map Prod.fst))) (hr2:Rd w b2 (Zdk (tl.map fun x=>itx x.2))) (hp:∀ x∈tl,2≤x.1∧x.1≤97) (hz:∀ x∈tl,Za7 x.2) (L:Qb w) :
  Kc Tryz.prog 210 #[.agg (Qa b1 d1 b2 d2 tl.length D),.int .i64 most] w (Zkh most tl):=by
 unfold Kc;refine(callsIn_wide (n:=3)).1 ?_;refine callsIn_of_wp_marks Tryz.func210 rfl trivial ?_ rfl;simp only[Tryz.ntmps210,List.size_toArray,List.length_cons,List.length_nil,Nat.reduceAdd,Nat.reduceSub,Array.replicate_succ,Array.replicate_zero,List.push_toArray,List.append_toArray,List.nil_append,List.cons_append];have Hsz:Hid (∀ x∈tl,∀ W,Below w.heap.size w W→Kc Tryz.prog 239 #[.string (itx x.2)] W (if -9223372036854775808≤x.2∧x.2≤9223372036854775807 then .tuple #[.int .i64 x.2,.bool true] else .tuple #[.int .i64 0,.bool false])):=fun x hx W hW=>Zd4 W x.2 (hz x hx) (L.below hW)
 have Hfa:Hid (∀ x∈tl,∀ W,Kc Tryz.prog 240 #[.int .i64 x.1] W (Zgi x.1.toNat)):=fun x hx W=>by
  have h1:=hp x hx;obtain⟨q,hq⟩:=Int.eq_ofNat_of_zero_le (show 0≤x.1 by omega)
  have:=Zvg W q (by omega) (by omega)
  rw[hq];exact this
 clear L hz
 gi_wp2_with fail
 obtain⟨w0,hw0⟩:∃ w0,((((w.alloc (Obj.cells (Qa b1 d1 b2 d2 tl.length D) 163)).alloc (Obj.cells #[Value.int IntKind.i64 most] 3)).alloc (Obj.cells #[Value.int IntKind.i64 0] 3)).alloc (Obj.cells #[Value.int IntKind.i64 0] 3)).alloc (Obj.cells #[Value.bool false] 4)=w0:=⟨_,rfl⟩;have hsz0:w0.heap.size=w.heap.size+5:=by rw[← hw0];simp
 have hB0:Below w.heap.size w w0:=by rw[← hw0];exact(((((Below.refl _ w).alloc nr_ _).alloc (by simp) _).alloc (by simp;omega) _).alloc (by simp;omega) _).alloc (by simp;omega) _
 have hbox:=Zz2 w _ _ _ _ _ _ _ _ _ w0 hw0;rw[hw0];refine⟨trivial,?_⟩;refine(callsIn_wide.2 (Ztm w0 b1 b2 d1 d2 tl.length D)).mono ?_;rintro e w' ⟨rfl,rfl⟩;rw[hsz0];have hB5:(w0.alloc (.cells (Qa b1 d1 b2 d2 tl.length D) 163)).heap[w.heap.size+5]?=some (.cells (Qa b1 d1 b2 d2 tl.length D) 163 (0,0)):=by
  rw[← hsz0];exact Go.heap_alloc_new w0 _
 have hB1:Below w.heap.size w (w0.alloc (.cells (Qa b1 d1 b2 d2 tl.length D) 163)):=hB0.alloc (by omega) _
 have hsz1:(w0.alloc (.cells (Qa b1 d1 b2 d2 tl.length D) 163)).heap.size=w.heap.size+6:=by rw[World.size_alloc,hsz0]
 have hI1:Zdh w.heap.size most [] (w0.alloc (.cells (Qa b1 d1 b2 d2 tl.length D) 163)):=by
  obtain⟨h1,h2,h3,h4⟩:=hbox;have h1:=Kl h1 (.cells (Qa b1 d1 b2 d2 tl.length D) 163);have h2:=Kl h2 (.cells (Qa b1 d1 b2 d2 tl.length D) 163);have h3:=Kl h3 (.cells (Qa b1 d1 b2 d2 tl.length D) 163);have h4:=Kl h4 (.cells (Qa b1 d1 b2 d2 tl.length D) 163);exact⟨(Ys h1).1,(Ys h2).1,(Ys h3).1,(Ys h4).1,(Ys h2).2,(Ys h3).2,(Ys h4).2,by rw[hsz1];omega,fun x hx=>by cases hx⟩
 clear hB0 hw0 hbox;generalize w0.alloc (.cells (Qa b1 d1 b2 d2 tl.length D) 163)=w1 at *
 gi_wp2_with fail
 refine wpIn_rangeFunc_ownF rfl (by decide) (gf:=241) (lb := #[.pointer (some ⟨w.heap.size+5,0,none⟩)]) rfl trivial (enters_of Tryz.func241 (by kernel_rfl) rfl)
  (Zld 2 (by decide) w w1 hB1 (w.heap.size+5) b1 b2 d1 d2 D tl hl hB5 hr1 hr2) Qa4 (Qa5 (by rw[hsz1];omega) (by rw[hsz1];omega)) (Below.refl _ _) (fun _=>rfl)
  (fun pre W=>Zdh w.heap.size most (pre.map Subtype.val) W∧Below w.heap.size w W)
  (fun c pre W=>(c = .ret∧(∃ x∈tl,¬ okT most x)∧Ztp w.heap.size W)∧Below w.heap.size w W)
  (OwnFrom.and (Own.from (fun s A B row hs hg hr=>hs.kept hg hr) _) (ownFrom_below nr_ (by rw[hsz1];omega)))
  (fun c=>OwnFrom.and (Own.from (fun s A B row hs hg hr=>⟨hs.1,hs.2.1,hs.2.2.kept hg hr⟩) _) (ownFrom_below nr_ (by rw[hsz1];omega)))
  ⟨hI1,hB1⟩
  (fun x=>Zmd w b1 b2 d1 d2 D tl.length most x.1.1 (itx x.1.2)) ?assign ?body ?done ?stop
 case assign =>
  intro l x W K hK;unfold Zmd at hK
  gi_wp2
  exact hK
 case body =>
  rintro l pre ⟨⟨p,k⟩,hmem⟩ W ⟨hI,hB⟩ hlen;have HI:=hd_ hI;have HB:=hd_ hB;have hpp:=hp _ hmem;have hsm:=Hsz.out _ hmem W hB;have hfa:=Hfa.out _ hmem;simp only at hpp hsm hfa;have Hmem:=hd_ hmem;unfold Zmd;clear hI hB hr1 hr2 hI1 hB1 hB5;have hc3:=HI.out.c3;have hc4:=HI.out.c4;have hc5:=HI.out.c5;have hc6:=HI.out.c6;have hf4:=HI.out.f4;have hf5:=HI.out.f5;have hf6:=HI.out.f6
  by_cases hk64 : -9223372036854775808≤k∧k≤9223372036854775807
  ·rw[if_pos hk64] at hsm;have hneg:IntKind.i64.wrap (-most) = -most:=iw_ _ (by omega)
   by_cases hk1:k≤most
   ·by_cases hk2 : -most≤k
    ·have hfa2:∀ W,Kc Tryz.prog 240 #[.int .i64 p] W (Zgi p.toNat):=hfa
     by_cases hd:(Vm p.toNat 62 26).isSome=true
     ·obtain⟨ds,hds⟩:=Option.isSome_iff_exists.1 hd;have Hds:=hd_ hds;have Hok:Hid (okT most (p,k)):=⟨⟨hk2,hk1⟩,hd⟩;have hfv:Zgi p.toNat = .tuple #[.int .i64 ds.2.2,.bool true]:=by unfold Zgi;rw[hds]
      rw[hfv] at hfa2;have Hlg:Hid (lgA p=(ds.2.2:Int)):=by show _=_;unfold lgA;rw[hds]
      have hfit:=(Zdu p.toNat (by omega) (by omega) 26 ds hds).out
      have hout:ds.2.2≤469762048:=by have:(2:Nat)^26=67108864:=rfl;omega
      have hpl:(pre.map Subtype.val).length≤1000:=by rw[List.length_map];omega
      have hso:=Zqy hm (pre.map Subtype.val) (fun x hx=>⟨HI.out.ok x hx,by
       obtain⟨y,_,rfl⟩:=List.mem_map.1 hx;exact hp _ y.2⟩)
      have hterm:=Zqv hm Hok.out hpp;simp only at hterm;have Hsn1:Hid (Zcz ((pre++[(⟨(p,k),hmem⟩:{x // x∈tl})]).map Subtype.val)=Zcz (pre.map Subtype.val)+min (k*lgA p) (k*lgB p)):=by
       show _=_
       rw[List.map_append];exact Zr5 _ _
      have Hsn2:Hid (Yi ((pre++[(⟨(p,k),hmem⟩:{x // x∈tl})]).map Subtype.val)=Yi (pre.map Subtype.val)+max (k*lgA p) (k*lgB p)):=by
       show _=_
       rw[List.map_append];exact Zpy _ _
      have Hall:Hid (∀ x∈(pre++[(⟨(p,k),hmem⟩:{x // x∈tl})]).map Subtype.val,okT most x):=fun x hx=>by
       rw[List.map_append] at hx;rcases List.mem_append.1 hx with h|h
       ·exact HI.out.ok x h
       ·obtain rfl:=List.mem_singleton.1 h;exact Hok.out
      have hlB:lgB p=if p=2 then (ds.2.2:Int) else (ds.2.2:Int)+1:=by unfold lgB;rw[Hlg.out]
      rw[Hlg.out] at hterm;rw[Hlg.out] at Hsn1 Hsn2;have hk1':¬ most<k:=by omega
      have hk2':¬ k < -most:=by omega
      have hwb:IntKind.i64.wrap ((ds.2.2:Int)+1)=(ds.2.2:Int)+1:=iw_ _ (by omega)
      clear hd hds hfv hfit hfa hlen hk64
      by_cases hp2:p=2
      ·rw[if_pos hp2] at hlB;subst hp2;rw[hlB] at hterm Hsn1 Hsn2;rw[Int.min_self] at Hsn1;rw[Int.max_self] at Hsn2;have hw1:IntKind.i64.wrap (k*(ds.2.2:Int))=k*(ds.2.2:Int):=iw_ _ (by omega)
       clear hlB;generalize (ds.2.2:Int)=A at *
       obtain⟨lo,hlo⟩:∃ lo,Zcz (pre.map Subtype.val)=lo:=⟨_,rfl⟩;obtain⟨hi,hhi⟩:∃ hi,Yi (pre.map Subtype.val)=hi:=⟨_,rfl⟩;rw[hlo] at hso Hsn1;rw[hhi] at hso Hsn2;have Hlo:=hd_ hlo;have Hhi:=hd_ hhi;clear hlo hhi;have hw3:IntKind.i64.wrap (lo+k*A)=lo+k*A:=iw_ _ (by omega)
       have hw4':IntKind.i64.wrap (hi+k*A)=hi+k*A:=iw_ _ (by omega)
       have Hterm:=hd_ hterm;have Hso:=hd_ hso
       gi_wp2_with fail
       refine⟨trivial,?_⟩;refine(CallsIn.inRound l (callsIn_wide.2 hsm)).mono ?_;rintro e w2 ⟨rfl,hb2⟩;have HI2:=hd_ (HI.out.below hb2);have HB2:=hd_ (HB.out.trans (hb2.mono HB.out.size));have Hk2:=hd_ (hb2);have hc3:=HI2.out.c3;have hc4:=HI2.out.c4;have hc5:=HI2.out.c5;have hc6:=HI2.out.c6;have hf4:=HI2.out.f4;have hf5:=HI2.out.f5;have hf6:=HI2.out.f6;clear hsm hb2
       gi_wp2_with fail
       refine⟨trivial,?_⟩;refine(CallsIn.inRound l (callsIn_wide.2 (hfa2 w2))).mono ?_;rintro e w3 ⟨rfl,hb3⟩;have HI3:=hd_ (HI2.out.below hb3);have HB3:=hd_ (HB2.out.trans (hb3.mono HB2.out.size));have Hk3:=hd_ (Hk2.out.trans (hb3.mono Hk2.out.size));have hc3:=HI3.out.c3;have hc4:=HI3.out.c4;have hc5:=HI3.out.c5;have hc6:=HI3.out.c6;have hf4:=HI3.out.f4;have hf5:=HI3.out.f5;have hf6:=HI3.out.f6;clear hfa2 hb3
       gi_wp2_with fail
       have q0:=@Zl.h;have q9:Nonempty (Zl ⟨w.heap.size+1+1,0,none⟩ (.int .i64 lo)):=⟨⟨w3,by rw[HI3.out.c4,Hlo.out]⟩⟩
       have q8:Nonempty (Zl ⟨w.heap.size+1+1+1,0,none⟩ (.int .i64 hi)):=⟨⟨w3,by rw[HI3.out.c5,Hhi.out]⟩⟩
       refine Qn [(20,0),(1,1),(1,2),(1,3),(1,4),(1,5),(1,6),(1,7),(1,8),(21,9),(1,10),(1,11),(1,12),(1,13),(1,14),(1,15),(1,16),(1,17),(0,18),(0,19)]
        [(18,fun w'=>∃ p:Zl ⟨w.heap.size+1+1,0,none⟩ (.int .i64 lo),w'=p.w),(19,fun w'=>∃ p:Zl ⟨w.heap.size+1+1+1,0,none⟩ (.int .i64 hi),w'=p.w)]
        (by kernel_rfl) (by kernel_rfl) ⟨.inr ⟨⟨{ w3 with drawn:=w3.drawn+1 },HI3.out.c4.trans (by rw[Hlo.out])⟩,rfl⟩,.inr ⟨⟨{ w3 with drawn:=w3.drawn+1 },HI3.out.c5.trans (by rw[Hhi.out])⟩,rfl⟩,trivial⟩ ?_
       refine Qw (s:=18) _ (List.mem_cons_self ..) rfl ?_;simp only[dz_,Kg,tz_]
       go_big_quiet_step (fail)
       refine wpQuiet_nil ?_
       iterate 8 (refine Vh ?_;simp only[Kh,dz_,Kg,tz_];go_big_quiet_step (fail);refine wpQuiet_nil ?_)
       refine Qw (s:=19) _ (List.mem_cons_of_mem _ (List.mem_cons_self ..)) rfl ?_;simp only[Kh,dz_,Kg,tz_]
       go_big_quiet_step (fail)
       refine wpQuiet_nil ?_
       iterate 8 (refine Vh ?_;simp only[Kh,dz_,Kg,tz_];go_big_quiet_step (fail);refine wpQuiet_nil ?_)
       clear q0 q8 q9;obtain⟨w4,hw4⟩:∃ w4:World,{ heap:=w3.heap,tape:=w3.tape,drawn:=w3.drawn+1,os:=w3.os,output:=w3.output }=w4:=⟨_,rfl⟩;rw[hw4];have HI4:Hid (Zdh w.heap.size most (pre.map Subtype.val) w4):=by rw[← hw4];exact HI3.out.below ⟨rfl,rfl,rfl,Nat.le_refl _,fun _ _=>rfl⟩
       have HB4:Hid (Below w.heap.size w w4):=by rw[← hw4];exact HB3.out.trans ⟨rfl,rfl,rfl,Nat.le_refl _,fun _ _=>rfl⟩
       have Hk4:Hid (Below W.heap.size W w4):=by rw[← hw4];exact Hk3.out.trans ⟨rfl,rfl,rfl,Nat.le_refl _,fun _ _=>rfl⟩
       clear hw4 hc3 hc4 hc5 hc6 hf4 hf5 hf6;have hc4:=HI4.out.c4;have hc5:=HI4.out.c5;have hf4:=HI4.out.f4;have hf5:=HI4.out.f5;refine Kz ?_;simp only[Kh,dz_,Kg,tz_]
       go_wp2_with fail
       obtain⟨v5,hv5⟩:∃ v5:Int,lo+k*A=v5:=⟨_,rfl⟩;obtain⟨v6,hv6⟩:∃ v6:Int,hi+k*A=v6:=⟨_,rfl⟩;rw[hv5];rw[hv6];have hc52:(w4.setCell ⟨w.heap.size+1+1,0,none⟩ (.int .i64 v5)).cell? ⟨w.heap.size+1+1+1,0,none⟩=some (.int .i64 hi):=by
        rw[World.cell?_setCell_other _ _ _ _ (by simp),HI4.out.c5,Hhi.out]
       have hf52:(w4.setCell ⟨w.heap.size+1+1,0,none⟩ (.int .i64 v5)).frozen? ⟨w.heap.size+1+1+1,0,none⟩=false:=by rw[World.frozen?_setCell];exact HI4.out.f5
       refine⟨⟨.inl rfl,.inr ⟨⟨w4.setCell ⟨w.heap.size+1+1,0,none⟩ (.int .i64 v5),hc52⟩,rfl⟩,trivial⟩,?_⟩;clear hc4 hc5 hf4 hf5;refine Kz ?_;simp only[Kh,dz_,Kg,tz_]
       go_wp2_with fail
       refine⟨⟨.inl rfl,.inl rfl,trivial⟩,?_⟩;simp only[Vq];exact⟨(Qh Hk4.out).trans ((KeepsOthers.setCell _ _ _).trans (KeepsOthers.setCell _ _ _)),Zrv rfl HB.out HI.out.sz Hk4.out _ _,HI4.out.stored (Hsn1.out.trans hv5) (Hsn2.out.trans hv6) Hall.out,Zak HB4.out _ _⟩
      ·rw[if_neg hp2] at hlB;rw[hlB] at hterm Hsn1 Hsn2;have hpe:(p==2)=false:=by rw[beq_eq_false_iff_ne];exact hp2
       have hw1:IntKind.i64.wrap (k*(ds.2.2:Int))=k*(ds.2.2:Int):=iw_ _ (by omega)
       have hw2:IntKind.i64.wrap (k*((ds.2.2:Int)+1))=k*((ds.2.2:Int)+1):=iw_ _ (by omega)
       clear hlB;generalize (ds.2.2:Int)=A at *
       obtain⟨lo,hlo⟩:∃ lo,Zcz (pre.map Subtype.val)=lo:=⟨_,rfl⟩;obtain⟨hi,hhi⟩:∃ hi,Yi (pre.map Subtype.val)=hi:=⟨_,rfl⟩;rw[hlo] at hso Hsn1;rw[hhi] at hso Hsn2;have Hlo:=hd_ hlo;have Hhi:=hd_ hhi;clear hlo hhi;have hw3:IntKind.i64.wrap (lo+min (k*A) (k*(A+1)))=lo+min (k*A) (k*(A+1)):=iw_ _ (by omega)
       have hw4':IntKind.i64.wrap (hi+max (k*A) (k*(A+1)))=hi+max (k*A) (k*(A+1)):=iw_ _ (by omega)
       have Hterm:=hd_ hterm;have Hso:=hd_ hso
       gi_wp2_with fail
       refine⟨trivial,?_⟩;refine(CallsIn.inRound l (callsIn_wide.2 hsm)).mono ?_;rintro e w2 ⟨rfl,hb2⟩;have HI2:=hd_ (HI.out.below hb2);have HB2:=hd_ (HB.out.trans (hb2.mono HB.out.size));have Hk2:=hd_ (hb2);have hc3:=HI2.out.c3;have hc4:=HI2.out.c4;have hc5:=HI2.out.c5;have hc6:=HI2.out.c6;have hf4:=HI2.out.f4;have hf5:=HI2.out.f5;have hf6:=HI2.out.f6;clear hsm hb2
       gi_wp2_with fail
       refine⟨trivial,?_⟩;refine(CallsIn.inRound l (callsIn_wide.2 (hfa2 w2))).mono ?_;rintro e w3 ⟨rfl,hb3⟩;have HI3:=hd_ (HI2.out.below hb3);have HB3:=hd_ (HB2.out.trans (hb3.mono HB2.out.size));have Hk3:=hd_ (Hk2.out.trans (hb3.mono Hk2.out.size));have hc3:=HI3.out.c3;have hc4:=HI3.out.c4;have hc5:=HI3.out.c5;have hc6:=HI3.out.c6;have hf4:=HI3.out.f4;have hf5:=HI3.out.f5;have hf6:=HI3.out.f6;clear hfa2 hb3
       gi_wp2_with fail
       have q0:=@Zl.h;have q9:Nonempty (Zl ⟨w.heap.size+1+1,0,none⟩ (.int .i64 lo)):=⟨⟨w3,by rw[HI3.out.c4,Hlo.out]⟩⟩
       have q8:Nonempty (Zl ⟨w.heap.size+1+1+1,0,none⟩ (.int .i64 hi)):=⟨⟨w3,by rw[HI3.out.c5,Hhi.out]⟩⟩
       refine Qn [(20,0),(1,1),(1,2),(1,3),(1,4),(1,5),(1,6),(1,7),(1,8),(21,9),(1,10),(1,11),(1,12),(1,13),(1,14),(1,15),(1,16),(1,17),(0,18),(0,19)]
        [(18,fun w'=>∃ p:Zl ⟨w.heap.size+1+1,0,none⟩ (.int .i64 lo),w'=p.w),(19,fun w'=>∃ p:Zl ⟨w.heap.size+1+1+1,0,none⟩ (.int .i64 hi),w'=p.w)]
        (by kernel_rfl) (by kernel_rfl) ⟨.inr ⟨⟨{ w3 with drawn:=w3.drawn+1 },HI3.out.c4.trans (by rw[Hlo.out])⟩,rfl⟩,.inr ⟨⟨{ w3 with drawn:=w3.drawn+1 },HI3.out.c5.trans (by rw[Hhi.out])⟩,rfl⟩,trivial⟩ ?_
       refine Qw (s:=18) _ (List.mem_cons_self ..) rfl ?_;simp only[dz_,Kg,tz_]
       go_big_quiet_step (fail)
       refine wpQuiet_nil ?_
       iterate 8 (refine Vh ?_;simp only[Kh,dz_,Kg,tz_];go_big_quiet_step (fail);refine wpQuiet_nil ?_)
       refine Qw (s:=19) _ (List.mem_cons_of_mem _ (List.mem_cons_self ..)) rfl ?_;simp only[Kh,dz_,Kg,tz_]
       go_big_quiet_step (fail)
       refine wpQuiet_nil ?_
       iterate 8 (refine Vh ?_;simp only[Kh,dz_,Kg,tz_];go_big_quiet_step (fail);refine wpQuiet_nil ?_)
       clear q0 q8 q9;obtain⟨w4,hw4⟩:∃ w4:World,{ heap:=w3.heap,tape:=w3.tape,drawn:=w3.drawn+1,os:=w3.os,output:=w3.output }=w4:=⟨_,rfl⟩;rw[hw4];have HI4:Hid (Zdh w.heap.size most (pre.map Subtype.val) w4):=by rw[← hw4];exact HI3.out.below ⟨rfl,rfl,rfl,Nat.le_refl _,fun _ _=>rfl⟩
       have HB4:Hid (Below w.heap.size w w4):=by rw[← hw4];exact HB3.out.trans ⟨rfl,rfl,rfl,Nat.le_refl _,fun _ _=>rfl⟩
       have Hk4:Hid (Below W.heap.size W w4):=by rw[← hw4];exact Hk3.out.trans ⟨rfl,rfl,rfl,Nat.le_refl _,fun _ _=>rfl⟩
       clear hw4 hc3 hc4 hc5 hc6 hf4 hf5 hf6;have hc4:=HI4.out.c4;have hc5:=HI4.out.c5;have hf4:=HI4.out.f4;have hf5:=HI4.out.f5;refine Kz ?_;simp only[Kh,dz_,Kg,tz_]
       go_wp2_with fail
       obtain⟨v5,hv5⟩:∃ v5:Int,lo+min (k*A) (k*(A+1))=v5:=⟨_,rfl⟩;obtain⟨v6,hv6⟩:∃ v6:Int,hi+max (k*A) (k*(A+1))=v6:=⟨_,rfl⟩;rw[hv5];rw[hv6];have hc52:(w4.setCell ⟨w.heap.size+1+1,0,none⟩ (.int .i64 v5)).cell? ⟨w.heap.size+1+1+1,0,none⟩=some (.int .i64 hi):=by
        rw[World.cell?_setCell_other _ _ _ _ (by simp),HI4.out.c5,Hhi.out]
       have hf52:(w4.setCell ⟨w.heap.size+1+1,0,none⟩ (.int .i64 v5)).frozen? ⟨w.heap.size+1+1+1,0,none⟩=false:=by rw[World.frozen?_setCell];exact HI4.out.f5
       refine⟨⟨.inl rfl,.inr ⟨⟨w4.setCell ⟨w.heap.size+1+1,0,none⟩ (.int .i64 v5),hc52⟩,rfl⟩,trivial⟩,?_⟩;clear hc4 hc5 hf4 hf5;refine Kz ?_;simp only[Kh,dz_,Kg,tz_]
       go_wp2_with fail
       refine⟨⟨.inl rfl,.inl rfl,trivial⟩,?_⟩;simp only[Vq];exact⟨(Qh Hk4.out).trans ((KeepsOthers.setCell _ _ _).trans (KeepsOthers.setCell _ _ _)),Zrv rfl HB.out HI.out.sz Hk4.out _ _,HI4.out.stored (Hsn1.out.trans hv5) (Hsn2.out.trans hv6) Hall.out,Zak HB4.out _ _⟩
     ·have Hbad:Hid (∃ x∈tl,¬ okT most x):=⟨(p,k),Hmem.out,fun h=>hd h.2⟩
      have hfv:Zgi p.toNat = .tuple #[.int .i64 0,.bool false]:=by
       unfold Zgi;cases hq:Vm p.toNat 62 26 with
       | none=>rfl
       | some s=>rw[hq] at hd;exact absurd rfl hd
      rw[hfv] at hfa2;have hk1':¬ most<k:=by omega
      have hk2':¬ k < -most:=by omega
      clear hd hfv hfa
      gi_wp2_with fail
      refine⟨trivial,?_⟩;refine(CallsIn.inRound l (callsIn_wide.2 hsm)).mono ?_;rintro e w2 ⟨rfl,hb2⟩;have HI2:=hd_ (HI.out.below hb2);have HB2:=hd_ (HB.out.trans (hb2.mono HB.out.size));have Hk2:=hd_ (hb2);have hc3:=HI2.out.c3;have hc4:=HI2.out.c4;have hc5:=HI2.out.c5;have hc6:=HI2.out.c6;have hf4:=HI2.out.f4;have hf5:=HI2.out.f5;have hf6:=HI2.out.f6;clear hsm hb2
      gi_wp2_with fail
      refine⟨trivial,?_⟩;refine(CallsIn.inRound l (callsIn_wide.2 (hfa2 w2))).mono ?_;rintro e w3 ⟨rfl,hb3⟩;have HI3:=hd_ (HI2.out.below hb3);have HB3:=hd_ (HB2.out.trans (hb3.mono HB2.out.size));have Hk3:=hd_ (Hk2.out.trans (hb3.mono Hk2.out.size));have hc3:=HI3.out.c3;have hc4:=HI3.out.c4;have hc5:=HI3.out.c5;have hc6:=HI3.out.c6;have hf4:=HI3.out.f4;have hf5:=HI3.out.f5;have hf6:=HI3.out.f6;clear hfa2 hb3
      gi_wp2
      exact⟨(Qh Hk3.out).trans (((KeepsOthers.setCell _ _ _).trans (KeepsOthers.setCell _ _ _)).trans (KeepsOthers.setCell _ _ _)),⟨rfl,Hbad.out,HI3.out.quits⟩,
       ((HB3.out.setCell (p:=⟨w.heap.size+1+1,0,none⟩) (by simp;omega) _).setCell (p:=⟨w.heap.size+1+1+1,0,none⟩) (by simp;omega) _).setCell (p:=⟨w.heap.size+1+1+1+1,0,none⟩) (by simp;omega) _⟩
    ·have Hbad:Hid (∃ x∈tl,¬ okT most x):=⟨(p,k),Hmem.out,fun h=>hk2 h.1.1⟩
     have hk1':¬ most<k:=by omega
     have hk2':k < -most:=by omega
     clear hfa
     gi_wp2_with fail
     refine⟨trivial,?_⟩;refine(CallsIn.inRound l (callsIn_wide.2 hsm)).mono ?_;rintro e w2 ⟨rfl,hb2⟩;have HI2:=hd_ (HI.out.below hb2);have HB2:=hd_ (HB.out.trans (hb2.mono HB.out.size));have Hk2:=hd_ (hb2);have hc3:=HI2.out.c3;have hc4:=HI2.out.c4;have hc5:=HI2.out.c5;have hc6:=HI2.out.c6;have hf4:=HI2.out.f4;have hf5:=HI2.out.f5;have hf6:=HI2.out.f6;clear hsm hb2
     gi_wp2
     exact⟨(Qh Hk2.out).trans (((KeepsOthers.setCell _ _ _).trans (KeepsOthers.setCell _ _ _)).trans (KeepsOthers.setCell _ _ _)),⟨rfl,Hbad.out,HI2.out.quits⟩,
      ((HB2.out.setCell (p:=⟨w.heap.size+1+1,0,none⟩) (by simp;omega) _).setCell (p:=⟨w.heap.size+1+1+1,0,none⟩) (by simp;omega) _).setCell (p:=⟨w.heap.size+1+1+1+1,0,none⟩) (by simp;omega) _⟩
   ·have Hbad:Hid (∃ x∈tl,¬ okT most x):=⟨(p,k),Hmem.out,fun h=>hk1 h.1.2⟩
    have hk1':most<k:=by omega
    clear hfa
    gi_wp2_with fail
    refine⟨trivial,?_⟩;refine(CallsIn.inRound l (callsIn_wide.2 hsm)).mono ?_;rintro e w2 ⟨rfl,hb2⟩;have HI2:=hd_ (HI.out.below hb2);have HB2:=hd_ (HB.out.trans (hb2.mono HB.out.size));have Hk2:=hd_ (hb2);have hc3:=HI2.out.c3;have hc4:=HI2.out.c4;have hc5:=HI2.out.c5;have hc6:=HI2.out.c6;have hf4:=HI2.out.f4;have hf5:=HI2.out.f5;have hf6:=HI2.out.f6;clear hsm hb2
    gi_wp2
    exact⟨(Qh Hk2.out).trans (((KeepsOthers.setCell _ _ _).trans (KeepsOthers.setCell _ _ _)).trans (KeepsOthers.setCell _ _ _)),⟨rfl,Hbad.out,HI2.out.quits⟩,
     ((HB2.out.setCell (p:=⟨w.heap.size+1+1,0,none⟩) (by simp;omega) _).setCell (p:=⟨w.heap.size+1+1+1,0,none⟩) (by simp;omega) _).setCell (p:=⟨w.heap.size+1+1+1+1,0,none⟩) (by simp;omega) _⟩
  ·rw[if_neg hk64] at hsm;have Hbad:Hid (∃ x∈tl,¬ okT most x):=⟨(p,k),Hmem.out,fun h=>hk64 ⟨by have:=h.1.1;simp only at this;omega,by have:=h.1.2;simp only at this;omega⟩⟩
   clear hfa
   gi_wp2_with fail
   refine⟨trivial,?_⟩;refine(CallsIn.inRound l (callsIn_wide.2 hsm)).mono ?_;rintro e w2 ⟨rfl,hb2⟩;have HI2:=hd_ (HI.out.below hb2);have HB2:=hd_ (HB.out.trans (hb2.mono HB.out.size));have Hk2:=hd_ (hb2);have hc3:=HI2.out.c3;have hc4:=HI2.out.c4;have hc5:=HI2.out.c5;have hc6:=HI2.out.c6;have hf4:=HI2.out.f4;have hf5:=HI2.out.f5;have hf6:=HI2.out.f6;clear hsm hb2
   gi_wp2
   exact⟨(Qh Hk2.out).trans (((KeepsOthers.setCell _ _ _).trans (KeepsOthers.setCell _ _ _)).trans (KeepsOthers.setCell _ _ _)),⟨rfl,Hbad.out,HI2.out.quits⟩,
    ((HB2.out.setCell (p:=⟨w.heap.size+1+1,0,none⟩) (by simp;omega) _).setCell (p:=⟨w.heap.size+1+1+1,0,none⟩) (by simp;omega) _).setCell (p:=⟨w.heap.size+1+1+1+1,0,none⟩) (by simp;omega) _⟩
 case done =>
  rintro D' ys W hD rfl ⟨hI,hB⟩ hK;rw[List.attach_map_subtype_val] at hI;have hv:Zkh most tl = .tuple #[.int .i64 (Zcz tl),.int .i64 (Yi tl),.bool true]:=by unfold Zkh;rw[if_pos hI.ok]
  have Hv:=hd_ hv;have HI:=hd_ hI;have HB:=hd_ hB;have HK:=hd_ hK;have hc4:=HI.out.c4;have hc5:=HI.out.c5;have hc6:=HI.out.c6;have hf4:=HI.out.f4;have hf5:=HI.out.f5;have hf6:=HI.out.f6;clear hv hI hB hK hr1 hr2 hI1 hB1 hB5 Hsz Hfa;generalize Zcz tl=lo at *
  generalize Yi tl=hi at *
  gi_wp2_with fail
  gi_region
  gi_wp2
  clear hc4 hc5 hc6 hf4 hf5 hf6;have e4:(((W.setCell { block:=w.heap.size+1+1,off:=0 } (Value.int IntKind.i64 lo)).setCell { block:=w.heap.size+1+1+1,off:=0 } (Value.int IntKind.i64 hi)).setCell { block:=w.heap.size+1+1+1+1,off:=0 } (Value.bool true)).drew.cell? ⟨w.heap.size+1+1,0,none⟩=some (.int .i64 lo):=by
   show World.cell? (((W.setCell { block:=w.heap.size+1+1,off:=0 } (Value.int IntKind.i64 lo)).setCell { block:=w.heap.size+1+1+1,off:=0 } (Value.int IntKind.i64 hi)).setCell { block:=w.heap.size+1+1+1+1,off:=0 } (Value.bool true)) _=_
   rw[World.cell?_setCell_other _ _ _ _ (by simp),World.cell?_setCell_other _ _ _ _ (by simp),World.cell?_setCell_same _ _ _ HI.out.c4]
  have e5:(((W.setCell { block:=w.heap.size+1+1,off:=0 } (Value.int IntKind.i64 lo)).setCell { block:=w.heap.size+1+1+1,off:=0 } (Value.int IntKind.i64 hi)).setCell { block:=w.heap.size+1+1+1+1,off:=0 } (Value.bool true)).drew.cell? ⟨w.heap.size+1+1+1,0,none⟩=some (.int .i64 hi):=by
   show World.cell? (((W.setCell { block:=w.heap.size+1+1,off:=0 } (Value.int IntKind.i64 lo)).setCell { block:=w.heap.size+1+1+1,off:=0 } (Value.int IntKind.i64 hi)).setCell { block:=w.heap.size+1+1+1+1,off:=0 } (Value.bool true)) _=_
   rw[World.cell?_setCell_other _ _ _ _ (by simp),World.cell?_setCell_same _ _ _ (by rw[World.cell?_setCell_other _ _ _ _ (by simp)];exact HI.out.c5)]
  have e6:(((W.setCell { block:=w.heap.size+1+1,off:=0 } (Value.int IntKind.i64 lo)).setCell { block:=w.heap.size+1+1+1,off:=0 } (Value.int IntKind.i64 hi)).setCell { block:=w.heap.size+1+1+1+1,off:=0 } (Value.bool true)).drew.cell? ⟨w.heap.size+1+1+1+1,0,none⟩=some (.bool true):=by
   show World.cell? (((W.setCell { block:=w.heap.size+1+1,off:=0 } (Value.int IntKind.i64 lo)).setCell { block:=w.heap.size+1+1+1,off:=0 } (Value.int IntKind.i64 hi)).setCell { block:=w.heap.size+1+1+1+1,off:=0 } (Value.bool true)) _=_
   rw[World.cell?_setCell_same _ _ _ (by rw[World.cell?_setCell_other _ _ _ _ (by simp),World.cell?_setCell_other _ _ _ _ (by simp)];exact HI.out.c6)]
  have hk9:=(((KeepsOthers.setCell W ⟨w.heap.size+1+1,0,none⟩ (.int .i64 lo)).trans (KeepsOthers.setCell _ ⟨w.heap.size+1+1+1,0,none⟩ (.int .i64 hi))).trans (KeepsOthers.setCell _ ⟨w.heap.size+1+1+1+1,0,none⟩ (.bool true))).trans (KeepsOthers.drew _);have hK9:=hk9.same D' _ HK.out rfl;have hb9:=(((HB.out.setCell (p:=⟨w.heap.size+1+1,0,none⟩) (by show _≤w.heap.size+1+1;omega) (.int .i64 lo)).setCell (p:=⟨w.heap.size+1+1+1,0,none⟩) (by show _≤w.heap.size+1+1+1;omega) (.int .i64 hi)).setCell (p:=⟨w.heap.size+1+1+1+1,0,none⟩) (by show _≤w.heap.size+1+1+1+1;omega) (.bool true)).drew
  generalize (((W.setCell { block:=w.heap.size+1+1,off:=0 } (Value.int IntKind.i64 lo)).setCell { block:=w.heap.size+1+1+1,off:=0 } (Value.int IntKind.i64 hi)).setCell { block:=w.heap.size+1+1+1+1,off:=0 } (Value.bool true)).drew=w9 at *
  have g4:=cell_kept e4 (grownBy_putObj' _ D' (.deferred none)) (fun r e=>by cases e;exact⟨_,hK9,rfl⟩)
  have g5:=cell_kept e5 (grownBy_putObj' _ D' (.deferred none)) (fun r e=>by cases e;exact⟨_,hK9,rfl⟩)
  have g6:=cell_kept e6 (grownBy_putObj' _ D' (.deferred none)) (fun r e=>by cases e;exact⟨_,hK9,rfl⟩)
  refine⟨by simp,.inl ⟨_,_,rfl,run_takeDeferred hK9,?_⟩⟩
  refine⟨.tuple #[.int .i64 lo,.int .i64 hi,.bool true],?_,by rw[Hv.out],hb9.trans (belowK_b (w:=w) nr_ w9 D' _ _ (by rw[hsz1] at hD;omega) hK9 rfl rfl)⟩
  simp[results,Tryz.results210,go_sem,g4,g5,g6]
 case stop =>
  rintro D' c pre W hD hSp ⟨⟨rfl,hbad,hX⟩,hB⟩ hK;have hv:Zkh most tl = .tuple #[.int .i64 0,.int .i64 0,.bool false]:=by
   unfold Zkh;rw[if_neg];intro h;obtain⟨x,hx,hn⟩:=hbad;exact hn (h x hx)
  have g4:=cell_kept hX.c4 (grownBy_putObj' _ D' (.deferred none)) (fun r e=>by cases e;exact⟨_,hK,rfl⟩)
  have g5:=cell_kept hX.c5 (grownBy_putObj' _ D' (.deferred none)) (fun r e=>by cases e;exact⟨_,hK,rfl⟩)
  have g6:=cell_kept hX.c6 (grownBy_putObj' _ D' (.deferred none)) (fun r e=>by cases e;exact⟨_,hK,rfl⟩)
  gi_wp2
  refine⟨by simp,.inl ⟨_,_,rfl,run_takeDeferred hK,?_⟩⟩
  refine⟨.tuple #[.int .i64 0,.int .i64 0,.bool false],?_,by rw[hv],hB.trans (belowK_b (w:=w) nr_ W D' _ _ (by rw[hsz1] at hD;omega) hK rfl rfl)⟩
  simp[results,Tryz.results210,go_sem,g4,g5,g6]
end Go.Proofs.YtnjedhgcfeoemaaGreatDoor

namespace Go.Proofs.YtnjedhgcfeoemaaGreatDoor
open Go.RowKit
structure Yo (w:World) (tl:List (Int×Int)) (b1:Option Addr) (b2:Option Addr):Prop where
 r1:Rd w b1 (Vc (tl.map Prod.fst))
 r2:Rd w b2 (Zdk (tl.map fun x=>itx x.2))
 len:tl.length≤1000
 p:∀ x∈tl,2≤x.1∧x.1≤97
 z:∀ x∈tl,Za7 x.2
theorem Yo.below{w w':World}{tl:List (Int×Int)}{b1 b2:Option Addr}(h:Yo w tl b1 b2)(hb:Below w.heap.size w w'):Yo w' tl b1 b2 :=
 ⟨h.r1.below hb nr_,h.r2.below hb nr_,h.len,h.p,h.z⟩
theorem Ze2(w:World)(a b:Int)(ha : -4000000000000000000≤a∧a≤4000000000000000000)(hb:0<b)(hb2:b≤4000000000000000000):
  Kc Tryz.prog 247 #[.int .i64 a,.int .i64 b] w (.int .i64 (a/b)):=by
 unfold Kc;have hbz:(b==0)=false:=by rw[beq_eq_false_iff_ne];omega
 by_cases h:a<0
 ·have hw1:IntKind.i64.wrap (-a) = -a:=iw_ _ (by omega)
  have hw2:IntKind.i64.wrap (-a+b) = -a+b:=iw_ _ (by omega)
  have hw3:IntKind.i64.wrap (-a+b-1) = -a+b-1:=iw_ _ (by omega)
  have e1:Int.tdiv (-a+b-1) b=(-a+b-1)/b:=Int.tdiv_eq_ediv_of_nonneg (by omega)
  have q1:0≤(-a+b-1)/b:=Int.ediv_nonneg (by omega) (by omega)
  have q2:(-a+b-1)/b ≤ -a+b-1:=Int.ediv_le_self _ (by omega)
  have hw4:IntKind.i64.wrap ((-a+b-1)/b)=(-a+b-1)/b:=iw_ _ (by omega)
  have hw5:IntKind.i64.wrap (-((-a+b-1)/b)) = -((-a+b-1)/b):=iw_ _ (by omega)
  have Hv:Hid (a/b = -((-a+b-1)/b)):=by
   show _=_
   have h1:=Int.emod_add_mul_ediv (-a+b-1) b;have h2:=Int.emod_nonneg (-a+b-1) (show b≠0 by omega)
   have h3:=Int.emod_lt_of_pos (-a+b-1) hb;generalize (-a+b-1)/b=q at *
   generalize (-a+b-1)%b=r at *
   have e2:a=(b-1-r)+b*(-q):=by rw[Int.mul_neg];omega
   rw[e2,Int.add_mul_ediv_left _ _ (show b≠0 by omega),Int.ediv_eq_zero_of_lt (by omega) (by omega)]
   omega
  generalize (-a+b-1)/b=q at *
  go_enter Tryz.func247,Tryz.ntmps247;go_wp2;go_ret;exact⟨by rw[Hv.out];rfl,Below.refl _ _⟩
 ·have e1:Int.tdiv a b=a/b:=Int.tdiv_eq_ediv_of_nonneg (by omega)
  have q1:0≤a/b:=Int.ediv_nonneg (by omega) (by omega)
  have q2:a/b≤a:=Int.ediv_le_self _ (by omega)
  have hw4:IntKind.i64.wrap (a/b)=a/b:=iw_ _ (by omega)
  generalize a/b=q at *
  go_enter Tryz.func247,Tryz.ntmps247;go_wp2;go_ret;exact⟨rfl,Below.refl _ _⟩
theorem Zpq(w:World)(n:Int)(d g:Nat)(hn:Za7 n)(hd:Num d)(hd0:0<d)(hn1:Num (n.natAbs+1))(hd1:Num (d+1))(hg:Nat.gcd n.natAbs d=g)(L:Qb w):
  Kc Tryz.prog 125 #[.string (itx (-n)),.string (itx (-(d:Int)))] w (fv (n/(g:Int)) (d/g)):=by
 unfold Kc fv;have hg0:0<g:=by rw[← hg];exact Nat.gcd_pos_of_pos_right _ hd0
 have hgl:g≤d:=by rw[← hg];exact Nat.gcd_le_right _ hd0
 have hgn:Num g:=hd.le hgl;have Hb0:=hd_ ((Below.refl w.heap.size w).alloc nr_ (.cells #[.string ⟨#[]⟩,.string ⟨#[]⟩] 42));have Hnew:Hid ((w.alloc (.cells #[.string ⟨#[]⟩,.string ⟨#[]⟩] 42)).heap[w.heap.size]?=some (.cells #[.string ⟨#[]⟩,.string ⟨#[]⟩] 42 (0,0))):=heap_alloc_new w _;have HL:=hd_ (L.below Hb0.out);have Hsg:Hid (∀ W,Kc Tryz.prog 84 #[.string (itx (-(d:Int)))] W (.int .i64 (-1))):=fun W=>by
  have:=Zo W (-(d:Int))
  rw[Int.sign_eq_neg_one_of_neg (show -(d:Int)<0 by omega)] at this
  exact this
 have Hn1:Hid (∀ W,Kc Tryz.prog 71 #[.string (itx (-n))] W (.string (itx n))):=fun W=>by
  have:=Zmc W (-n) (show Num _ by rw[Int.natAbs_neg];exact hn)
  rw[Int.neg_neg] at this;exact this
 have Hn2:Hid (∀ W,Kc Tryz.prog 71 #[.string (itx (-(d:Int)))] W (.string (dec d))):=fun W=>by
  have:=Zmc W (-(d:Int)) (show Num _ by rw[Int.natAbs_neg];exact hd)
  rw[Int.neg_neg,Kj] at this;exact this
 clear L;go_enter Tryz.func125,Tryz.ntmps125
 go_wp2_with fail
 generalize w.alloc (.cells #[.string ⟨#[]⟩,.string ⟨#[]⟩] 42)=W0 at *
 have Hgc:Hid (∀ W,Below W0.heap.size W0 W→Kc Tryz.prog 188 #[.string (itx n),.string (dec d)] W (.string (dec g))):=fun W hW=>by
  have:=Zi4 W n (d:Int) hn (show Num _ from hd) (HL.out.below hW)
  rw[Kj,show Int.gcd n (d:Int)=g from hg] at this
  exact this
 have Hd1:Hid (∀ W,Below W0.heap.size W0 W→Kc Tryz.prog 163 #[.string (itx n),.string (dec g)] W (.tuple #[.string (itx (n/(g:Int))),.string (itx (n%(g:Int))),.int .i64 0])):=fun W hW=>Yc W n g hn hgn hg0 hn1 (HL.out.below hW)
 have Hd2:Hid (∀ W,Below W0.heap.size W0 W→Kc Tryz.prog 163 #[.string (dec d),.string (dec g)] W (.tuple #[.string (dec (d/g)),.string (itx ((d:Int)%(g:Int))),.int .i64 0])):=fun W hW=>by
  have:=Yc W (d:Int) g (show Num _ from hd) hgn hg0 (show Num (d+1) from hd1) (HL.out.below hW)
  rw[Kj,show (d:Int)/(g:Int)=((d/g:Nat):Int) from rfl,Kj] at this
  exact this
 have ho:=Zhy g
 by_cases h1:g=1
 ·have Hrs:Hid (itx (n/(g:Int))=itx n):=by show _=_;rw[h1];congr 1;exact Int.ediv_one n
  have Hrt:Hid (dec (d/g)=dec d):=by show _=_;rw[h1,Nat.div_one]
  rw[decide_eq_true h1] at ho;clear h1 Hd1 Hd2 hg hg0 hgl hgn hn hd hn1 hd1;obtain⟨s,hs⟩:∃ s,itx n=s:=⟨_,rfl⟩;obtain⟨t,ht⟩:∃ t,dec d=t:=⟨_,rfl⟩;rw[hs] at Hrs Hgc Hn1;rw[ht] at Hrt Hgc Hn2;clear hs ht;generalize itx (-n)=ns at *
  generalize itx (-(d:Int))=nd at *
  generalize dec g=u at *
  refine cm_ (Hsg.out _) ?_;rintro e w1 ⟨rfl,hb1⟩;have Hb1:=hd_ hb1;clear hb1 Hsg
  go_wp2_with fail
  refine cm_ (Hn1.out _) ?_;rintro e w5 ⟨rfl,hb5⟩;have Hb5:=hd_ (Hb1.out.trans (hb5.mono Hb1.out.size));clear hb5 Hb1 Hn1
  go_wp2_with fail
  refine cm_ (Hn2.out _) ?_;rintro e w6 ⟨rfl,hb6⟩;have Hb6:=hd_ (Hb5.out.trans (hb6.mono Hb5.out.size));clear hb6 Hb5 Hn2
  go_wp2_with fail
  refine cm_ (Hgc.out w6 Hb6.out) ?_;rintro e w2 ⟨rfl,hb2⟩;have Hb2:=hd_ (Hb6.out.trans (hb2.mono Hb6.out.size));clear hb2 Hb6 Hgc;have Hcell:=hd_ (Kk Hnew.out Hb2.out);have Hbw:=hd_ (Hb0.out.trans (Hb2.out.mono Hb0.out.size));obtain⟨k0,k1,f0,f1⟩:=Ka Hcell.out;clear Hb2 Hb0 Hcell Hnew HL;go_wp2;obtain⟨c0,c1,hb3⟩:=Kq (.string s) (.string t) k0 k1 nr_ Hbw.out;generalize (w2.setCell ⟨w.heap.size,0,none⟩ (.string s)).setCell ⟨w.heap.size,1,none⟩ (.string t)=w9 at *
  exact bodyPost_ret (v := .agg #[.string s,.string t]) (by simp[results,Tryz.results125,go_sem,c0,c1]) rfl ⟨by rw[Hrs.out,Hrt.out],hb3⟩
 ·rw[decide_eq_false h1] at ho;obtain⟨rs,hrs⟩:∃ rs,itx (n/(g:Int))=rs:=⟨_,rfl⟩;obtain⟨rt,hrt⟩:∃ rt,dec (d/g)=rt:=⟨_,rfl⟩;rw[hrs] at Hd1;rw[hrt] at Hd2;have Hrs:=hd_ hrs;have Hrt:=hd_ hrt;clear h1 hg hg0 hgl hgn hn hd hn1 hd1 hrs hrt;generalize itx (n%(g:Int))=e1 at Hd1;generalize itx ((d:Int)%(g:Int))=e2 at Hd2;obtain⟨s,hs⟩:∃ s,itx n=s:=⟨_,rfl⟩;obtain⟨t,ht⟩:∃ t,dec d=t:=⟨_,rfl⟩;obtain⟨u,hu⟩:∃ u,dec g=u:=⟨_,rfl⟩;rw[hs] at Hd1 Hgc Hn1;rw[ht] at Hd2 Hgc Hn2;rw[hu] at Hd1 Hd2 Hgc ho;clear hs ht hu;generalize itx (-n)=ns at *
  generalize itx (-(d:Int))=nd at *
  refine cm_ (Hsg.out _) ?_;rintro e w1 ⟨rfl,hb1⟩;have Hb1:=hd_ hb1;clear hb1 Hsg
  go_wp2_with fail
  refine cm_ (Hn1.out _) ?_;rintro e w5 ⟨rfl,hb5⟩;have Hb5:=hd_ (Hb1.out.trans (hb5.mono Hb1.out.size));clear hb5 Hb1 Hn1
  go_wp2_with fail
  refine cm_ (Hn2.out _) ?_;rintro e w6 ⟨rfl,hb6⟩;have Hb6:=hd_ (Hb5.out.trans (hb6.mono Hb5.out.size));clear hb6 Hb5 Hn2
  go_wp2_with fail
  refine cm_ (Hgc.out w6 Hb6.out) ?_;rintro e w2 ⟨rfl,hb2⟩;have Hb2:=hd_ (Hb6.out.trans (hb2.mono Hb6.out.size));clear hb2 Hb6 Hgc
  go_wp2_with fail
  refine cm_ (Hd1.out w2 Hb2.out) ?_;rintro e w3 ⟨rfl,hb3⟩;have Hb3:=hd_ (Hb2.out.trans (hb3.mono Hb2.out.size));clear hb3 Hb2 Hd1
  go_wp2_with fail
  refine cm_ (Hd2.out w3 Hb3.out) ?_;rintro e w4 ⟨rfl,hb4⟩;have Hb4:=hd_ (Hb3.out.trans (hb4.mono Hb3.out.size));clear hb4 Hb3 Hd2;have Hcell:=hd_ (Kk Hnew.out Hb4.out);have Hbw:=hd_ (Hb0.out.trans (Hb4.out.mono Hb0.out.size));obtain⟨k0,k1,f0,f1⟩:=Ka Hcell.out;clear Hb4 Hb0 Hcell Hnew HL;go_wp2;obtain⟨c0,c1,hb3⟩:=Kq (.string rs) (.string rt) k0 k1 nr_ Hbw.out;generalize (w4.setCell ⟨w.heap.size,0,none⟩ (.string rs)).setCell ⟨w.heap.size,1,none⟩ (.string rt)=w9 at *
  exact bodyPost_ret (v := .agg #[.string rs,.string rt]) (by simp[results,Tryz.results125,go_sem,c0,c1]) rfl ⟨by rw[Hrs.out,Hrt.out],hb3⟩
theorem Zpr(w:World)(n m:Int)(hn:Za7 n)(hm:Za7 m)(hm0:m≠0)(hn1:Num (n.natAbs+1))(hm1:Num (m.natAbs+1))(L:Qb w):
  Kc Tryz.prog 125 #[.string (itx n),.string (itx m)] w (fr ((n:Rat)/(m:Rat))):=by
 have key:∀ (k:Int) (d:Nat),d≠0→fv (k/((Nat.gcd k.natAbs d:Nat):Int)) (d/Nat.gcd k.natAbs d)=fr (mkRat k d):=fun k d hd=>by
  have:=Zcw k d hd
  unfold Zjp at this;exact this
 by_cases h:0<m
 ·obtain⟨d,rfl⟩:∃ d:Nat,m=(d:Int):=⟨m.toNat,by omega⟩
  have:=Zb0 w n d _ hn hm (by omega) hn1 hm1 rfl L
  rw[key n d (by omega),Rat.mkRat_eq_div] at this
  rw[Kj];exact this
 ·obtain⟨d,rfl⟩:∃ d:Nat,m = -(d:Int):=⟨m.natAbs,by omega⟩
  have hmm:Num d:=by have:Num (-(d:Int)).natAbs:=hm;rwa [Int.natAbs_neg] at this
  have hmm1:Num (d+1):=by rwa [Int.natAbs_neg] at hm1
  have:=Zpq w (-n) d _ (show Num _ by rw[Int.natAbs_neg];exact hn) hmm (by omega) (by rw[Int.natAbs_neg];exact hn1) hmm1 rfl L
  rw[Int.neg_neg,key (-n) d (by omega),Rat.mkRat_eq_div] at this
  have e:((-n:Int):Rat)/((d:Nat):Rat)=(n:Rat)/((-(d:Int):Int):Rat):=by
   rw[Rat.div_def,Rat.div_def,Rat.intCast_neg,Rat.intCast_neg,Rat.intCast_natCast];have hi:(-((d:Nat):Rat))⁻¹ = -(((d:Nat):Rat)⁻¹):=by
    apply Rat.inv_eq_of_mul_eq_one;have:((d:Nat):Rat)≠0:=by intro h0;exact absurd (Rat.natCast_eq_zero_iff.1 h0) (by omega)
    rw[Rat.neg_mul,Rat.mul_neg,Rat.neg_neg,Rat.mul_inv_cancel _ this]
   rw[hi,Rat.neg_mul,Rat.mul_neg]
  rw[e] at this;exact this
theorem Zzx(a b:Rat):a/b=((a.num*b.den:Int):Rat)/(((a.den:Int)*b.num:Int):Rat):=by
 have h1:a=(a.num:Rat)/((a.den:Nat):Rat):=by rw[← Rat.mkRat_eq_div,Rat.mkRat_self]
 have h2:b=(b.num:Rat)/((b.den:Nat):Rat):=by rw[← Rat.mkRat_eq_div,Rat.mkRat_self]
 have ha:((a.den:Nat):Rat)≠0:=by intro h;exact a.den_nz (Rat.natCast_eq_zero_iff.1 h)
 have hb:((b.den:Nat):Rat)≠0:=by intro h;exact b.den_nz (Rat.natCast_eq_zero_iff.1 h)
 rw[Rat.intCast_mul,Rat.intCast_mul,Rat.intCast_natCast,Rat.intCast_natCast];generalize a.num=x at *
 generalize b.num=y at *
 generalize ((a.den:Nat):Rat)=u at *
 generalize ((b.den:Nat):Rat)=v at *
 subst h1 h2
 by_cases hy:(y:Rat)=0
 ·rw[hy];simp[Rat.div_def]
 ·grind
theorem Qbj(w:World)(a b:Rat)(D E:Nat)(ha:Sm D a)(hb:Sm E b)(hb0:b≠0)(h6:D+E+2≤1000000)(L:Qb w):
  Kc Tryz.prog 246 #[fr a,fr b] w (.tuple #[fr (a/b),.int .i64 0]):=by
 have hm0:b.num≠0:=fun h=>hb0 (Rat.num_eq_zero.1 h)
 have p1:=ha.pos;have p2:=hb.pos;have e1:(a.num*b.den).natAbs<10^(D+E):=by rw[Int.natAbs_mul];exact Qd ha.1 hb.2
 have e2:((a.den:Int)*b.num).natAbs<10^(D+E):=by rw[Int.natAbs_mul];exact Qd ha.2 hb.1
 have h3:10^(D+E)<10^(D+E+1):=Nat.pow_lt_pow_right (by decide) (by omega)
 have z1:Za7 (a.num*b.den):=Ku e1 (by omega) (by omega)
 have z2:Za7 ((a.den:Int)*b.num):=Ku e2 (by omega) (by omega)
 have z3:Num ((a.num*b.den).natAbs+1):=Ku (D:=D+E+1) (by omega) (by omega) (by omega)
 have z4:Num (((a.den:Int)*b.num).natAbs+1):=Ku (D:=D+E+1) (by omega) (by omega) (by omega)
 have hm1:(a.den:Int)*b.num≠0:=Int.mul_ne_zero (by have:=a.den_nz;omega) hm0
 have zn:Za7 a.num:=Ku ha.1 p1 (by omega)
 have zm:Za7 b.num:=Ku hb.1 p2 (by omega)
 have zd:Num a.den:=Ku ha.2 p1 (by omega)
 have ze:Num b.den:=Ku hb.2 p2 (by omega)
 obtain⟨rs,hrs⟩:∃ rs,itx (a/b).num=rs:=⟨_,rfl⟩;obtain⟨rt,hrt⟩:∃ rt,dec (a/b).den=rt:=⟨_,rfl⟩;have Hv:Hid (fr (a/b) = .agg #[.string rs,.string rt]):=by show _=_;unfold fr fv;rw[hrs,hrt]
 have hlo:∀ W,Qb W→Kc Tryz.prog 125 #[.string (itx (a.num*b.den)),.string (itx ((a.den:Int)*b.num))] W (.agg #[.string rs,.string rt]):=fun W LW=>by
  have:=Zpr W _ _ z1 z2 hm1 z3 z4 LW
  rw[← Zzx] at this;unfold fr fv at this;rw[hrs,hrt] at this;exact this
 unfold Kc
 show Calls _ _ #[fv a.num a.den,fv b.num b.den] _ _
 have Hsg:Hid (∀ W,Kc Tryz.prog 89 #[fv b.num b.den] W (.int .i64 b.num.sign)):=fun W=>Zj2 W b.num b.den
 have hs0:(b.num.sign==0)=false:=by
  rw[beq_eq_false_iff_ne];intro h;exact hm0 (Int.sign_eq_zero_iff_zero.1 h)
 clear hrs hrt hm1 z3 z4 e1 e2 h3 ha hb hb0;generalize a.num=n at *
 generalize a.den=d at *
 generalize b.num=m at *
 generalize b.den=e at *
 generalize m.sign=sg at *
 have H3:=hd_ (Zhd.mk' w (itx n) (dec d) (itx m) (dec e));have HL:=hd_ (L.below H3.out.bel);clear L;have Hm1:Hid (∀ W,Below (((w.alloc (.cells #[.string (itx n),.string (dec d)] 42)).alloc (.cells #[.string (itx m),.string (dec e)] 42)).alloc (.cells #[.string ⟨#[]⟩,.string ⟨#[]⟩] 42)).heap.size (((w.alloc (.cells #[.string (itx n),.string (dec d)] 42)).alloc (.cells #[.string (itx m),.string (dec e)] 42)).alloc (.cells #[.string ⟨#[]⟩,.string ⟨#[]⟩] 42)) W→∀ d' os,Calls Tryz.prog 115 #[.string (itx n),.string (dec e)] (Go.Sort.grow (redrawn W d') os) fun x w''=>x = .returned (.string (itx (n*e)))∧∃ p:Regrown,w''=Go.Sort.grow (redrawn W p.d) p.os):=fun W hW d' os=>by
  have:=Yu (Go.Sort.grow (redrawn W d') os) n (e:Int) zn (show Num _ from ze) z1 ((HL.out.below hW).below (below_regrown W d' os))
  rw[Kj] at this;exact Calls.regrown_of this
 have Hm2:Hid (∀ W,Below (((w.alloc (.cells #[.string (itx n),.string (dec d)] 42)).alloc (.cells #[.string (itx m),.string (dec e)] 42)).alloc (.cells #[.string ⟨#[]⟩,.string ⟨#[]⟩] 42)).heap.size (((w.alloc (.cells #[.string (itx n),.string (dec d)] 42)).alloc (.cells #[.string (itx m),.string (dec e)] 42)).alloc (.cells #[.string ⟨#[]⟩,.string ⟨#[]⟩] 42)) W→∀ d' os,Calls Tryz.prog 115 #[.string (dec d),.string (itx m)] (Go.Sort.grow (redrawn W d') os) fun x w''=>x = .returned (.string (itx ((d:Int)*m)))∧∃ p:Regrown,w''=Go.Sort.grow (redrawn W p.d) p.os):=fun W hW d' os=>by
  have:=Yu (Go.Sort.grow (redrawn W d') os) (d:Int) m (show Num _ from zd) zm z2 ((HL.out.below hW).below (below_regrown W d' os))
  rw[Kj] at this;exact Calls.regrown_of this
 have Hm3:Hid (∀ W,Below (((w.alloc (.cells #[.string (itx n),.string (dec d)] 42)).alloc (.cells #[.string (itx m),.string (dec e)] 42)).alloc (.cells #[.string ⟨#[]⟩,.string ⟨#[]⟩] 42)).heap.size (((w.alloc (.cells #[.string (itx n),.string (dec d)] 42)).alloc (.cells #[.string (itx m),.string (dec e)] 42)).alloc (.cells #[.string ⟨#[]⟩,.string ⟨#[]⟩] 42)) W→∀ d' os,Calls Tryz.prog 125 #[.string (itx (n*e)),.string (itx ((d:Int)*m))] (Go.Sort.grow (redrawn W d') os) fun x w''=>x = .returned (.agg #[.string rs,.string rt])∧∃ p:Regrown,w''=Go.Sort.grow (redrawn W p.d) p.os):=fun W hW d' os=>by
  exact Calls.regrown_of (hlo (Go.Sort.grow (redrawn W d') os) ((HL.out.below hW).below (below_regrown W d' os)))
 unfold fv at Hsg ⊢;clear hlo z1 z2 zn zm zd ze hm0 p1 p2;go_enter Tryz.func246,Tryz.ntmps246;obtain⟨k0,k1,-,-⟩:=Ka H3.out.fa;obtain⟨k2,k3,-,-⟩:=Ka H3.out.fb
 go_wp2_with fail
 generalize ((w.alloc (.cells #[.string (itx n),.string (dec d)] 42)).alloc (.cells #[.string (itx m),.string (dec e)] 42)).alloc (.cells #[.string ⟨#[]⟩,.string ⟨#[]⟩] 42)=W0 at *
 clear k0 k1 k2 k3;refine cm_ (Hsg.out _) ?_;rintro e w1 ⟨rfl,hb1⟩;have Hb1:=hd_ hb1;clear hb1 Hsg;obtain⟨k0,k1,-,-⟩:=Ka (H3.out.next Hb1.out).fa;obtain⟨k2,k3,-,-⟩:=Ka (H3.out.next Hb1.out).fb;have q0:=cell_regrown k0;have q1:=cell_regrown k1;have q2:=cell_regrown k2;have q3:=cell_regrown k3;have hM1:=Hm1.out w1 Hb1.out;have hM2:=Hm2.out w1 Hb1.out;have hM3:=Hm3.out w1 Hb1.out;clear k0 k1 k2 k3 Hm1 Hm2 Hm3
 go_wp2_with fail
 refine Kv 11 (by kernel_rfl) (by kernel_rfl) ?_
 simp only[List.take_succ_cons,List.take_zero,List.drop_succ_cons,List.drop_zero]
 repeat (first | go_big_quiet_step (first | with_reducible exact hM1 _ _ | with_reducible exact hM2 _ _ | with_reducible exact hM3 _ _) | quiet_step (first | with_reducible exact hM1 _ _ | with_reducible exact hM2 _ _ | with_reducible exact hM3 _ _))
 refine wpQuiet_nil ?_;intro w8 hw8;obtain⟨⟨dq,osq⟩,rfl⟩:=hw8;have hb8:=below_regrown w1 dq osq;have H8:=hd_ ((H3.out.next Hb1.out).next hb8);clear hb8 hM1 hM2 hM3 q0 q1 q2 q3 H3 Hb1;generalize Go.Sort.grow (redrawn w1 dq) osq=w8 at *
 obtain⟨k0,k1,f0,f1⟩:=Ka H8.out.fr;have Hbw:=hd_ H8.out.bel;clear H8;go_wp2;obtain⟨c0,c1,hb3⟩:=Kq (B:=w.heap.size) (.string rs) (.string rt) k0 k1 (by omega) Hbw.out
 generalize (w8.setCell ⟨w.heap.size+1+1,0,none⟩ (.string rs)).setCell ⟨w.heap.size+1+1,1,none⟩ (.string rt)=w9 at *
 exact bodyPost_ret (v := .tuple #[.agg #[.string rs,.string rt],.int .i64 0]) (by simp[results,Tryz.results246,go_sem,c0,c1]) rfl ⟨by rw[Hv.out],hb3⟩
theorem Zn{D:Nat}{ps:List Int}{l:List Rat}{x:Int×Int}(hx:x∈Vo D ps l):x.1∈ps∧∃ q∈l,q.num≠0∧x.2=q.num*((D/q.den:Nat):Int):=by
 unfold Vo at hx;obtain⟨y,hy,he⟩:=List.mem_filterMap.1 hx;have h1:=(List.of_mem_zip hy).1;have h2:=(List.of_mem_zip hy).2
 by_cases h:y.2.num=0
 ·rw[if_pos h] at he;cases he
 ·rw[if_neg h] at he;simp only[Option.some.injEq] at he;subst he;exact⟨h1,y.2,h2,h,rfl⟩
def tlQ (ps:List Int) (l:List Rat):List (Int×Int):=Vo (Qc l) ps l
theorem Zt7{ps:List Int}{l:List Rat}{D:Nat}(hs:∀ q∈l,Sm D q)(h6:3+(l.length+2)*D≤900000):∀ x∈tlQ ps l,Za7 x.2:=fun x hx=>by
 obtain⟨_,q,hq,_,he⟩:=Zn hx;have h1:=Zie l D hs l.length nr_;rw[List.take_length] at h1;have h2:=(hs q hq).1;have h3:Qc l/q.den≤Qc l:=Nat.div_le_self _ _;have h4:=Qd h2 (Nat.lt_of_le_of_lt h3 h1);rw[he];refine Ku (D:=D+(1+l.length*D)) ?_ (by omega) ?_
 ·rw[Int.natAbs_mul];exact h4
 ·rw[Nat.add_mul] at h6;omega
theorem Zg{w:World}{g:Nat}{cs:Array Value}{t:TypeId}(h:w.heap[g]?=some (.cells cs t (0,0))):Rd w (some ⟨g,0,none⟩) cs.toList:=by
 refine .inr ⟨g,0,rfl,(Array.getElem?_eq_some_iff.1 h).1,fun i v hi=>?_⟩
 rw[Nat.zero_add,cell_of_row w g i _ t (0,0) h,← Array.getElem?_toList];exact hi
theorem Zl0{w:World}{g:Nat}{a1 a2:Option Addr}{c1 c2:Nat}{l1 l2:Zeq}{t:TypeId}(h:w.heap[g]?=some (.cells #[.slice a1 l1.length c1,.slice a2 l2.length c2] t (0,0)))(h1:Rd w a1 (Qs l1))(h2:Rd w a2 (Qs l2)):RdL w (some ⟨g,0,none⟩) [l1,l2]:=by
 obtain⟨k0,k1,-,-⟩:=(⟨by rw[cell_of_row w g 0 _ t (0,0) h];rfl,by rw[cell_of_row w g 1 _ t (0,0) h];rfl,trivial,trivial⟩:w.cell? ⟨g,0,none⟩=some (.slice a1 l1.length c1)∧w.cell? ⟨g,1,none⟩=some (.slice a2 l2.length c2)∧True∧True)
 refine .inr ⟨g,0,rfl,(Array.getElem?_eq_some_iff.1 h).1,fun i hi=>?_⟩
 match i,hi with
 | 0,_=>exact⟨a1,c1,k0,h1⟩
 | 1,_=>exact⟨a2,c2,k1,h2⟩
structure Zt (w:World) (ps:List Int) (a0 a:Option Addr) (l:List Rat) (D:Nat):Prop where
 rp:Rd w a0 (Vc ps)
 rl:Rd w a (Kx l)
 len:l.length=ps.length
 n:ps.length≤100
 pr:∀ p∈ps,2≤p∧p≤97
 sm:∀ q∈l,Sm D q
 d:D≤1000
theorem Zt.below{w w':World}{ps:List Int}{a0 a:Option Addr}{l:List Rat}{D:Nat}(h:Zt w ps a0 a l D)(hb:Below w.heap.size w w'):Zt w' ps a0 a l D :=
 ⟨h.rp.below hb nr_,h.rl.below hb nr_,h.len,h.n,h.pr,h.sm,h.d⟩
theorem Zt.i64{w:World}{ps:List Int}{a0 a:Option Addr}{l:List Rat}{D:Nat}(h:Zt w ps a0 a l D):Zjq ps:=fun x hx=>by have:=h.pr x hx;omega
theorem Zic{w:World}{ps:List Int}{a0 a:Option Addr}{l:List Rat}{D c0 c:Nat}(S:Zt w ps a0 a l D)(L:Qb w):
  Calls Tryz.prog 100 #[.slice a0 ps.length c0,.slice a l.length c] w fun e w'=>∃ b1 d1 b2 d2,e = .returned (.agg (Qa b1 d1 b2 d2 (tlQ ps l).length (Qc l)))∧Yo w' (tlQ ps l) b1 b2∧Below w.heap.size w w':=by
 have hn:=S.n;have hd:=S.d;have hlen:=S.len;have h6:3+(l.length+2)*D≤900000:=by
  have:(l.length+2)*D≤102*1000:=Nat.mul_le_mul (by omega) hd
  omega
 refine cm_ (Zlm w a0 a c0 c ps l D S.rp S.rl S.len.symm S.sm (by omega) h6 L) ?_
 rintro e w' ⟨b1,d1,b2,d2,he,r1,r2,hb⟩;refine⟨b1,d1,b2,d2,he,⟨r1,r2,?_,?_,Zt7 S.sm h6⟩,hb⟩
 ·exact Nat.le_trans (Zeu _ _ _) (by omega)
 ·exact fun x hx=>S.pr x.1 (Zn hx).1
theorem Kd{w w':World}{B g:Nat}{o:Obj}(h:w.heap[g]?=some o)(hb:Below B w w')(hB:w.heap.size≤B):w'.heap[g]?=some o :=
 (hb.block g (Nat.lt_of_lt_of_le (Array.getElem?_eq_some_iff.1 h).1 hB)).trans h
theorem Sm.one:Sm 1 1:=⟨by decide,by decide⟩
theorem Sm.minus:Sm 1 (-1):=⟨by decide,by decide⟩
theorem Zwf:∀ (l:List Rat),(∀ q∈l,Sm 30 q)→sgo (l.map qs)=0
 | [],_=>rfl
 | q::l,h=>by
  have h1:∃ p:Rat,qs q=qs p∧Sm 400 p:=⟨q,rfl,(h q List.mem_cons_self).le (by decide)⟩
  have h2:∃ p:Rat,qs q=qs p∧Vy p:=⟨q,rfl,h q List.mem_cons_self⟩;rw[List.map_cons,sgo,if_pos h1,if_pos h2];exact Zwf l fun p hp=>h p (List.mem_cons_of_mem _ hp)
theorem Zfc{n:Nat}{l:List Rat}(h:∀ q∈l,Sm 30 q)(hl:l.length=n):Zcd n (l.map qs)=0:=by
 unfold Zcd;rw[if_pos (by rw[List.length_map];exact hl),Zwf l h]
theorem Zi2(z:Int)(D:Nat)(hD:0<D)(h:z.natAbs<10^D):(itx z).size≤D+1:=by
 have h1:=(Yz z.natAbs D hD).2 h;have h2:=Zb2 z;omega
theorem Zq2{l:List Rat}(h:∀ q∈l,Sm 30 q):Ssz (l.map qs):=fun x hx=>by
 obtain⟨q,hq,rfl⟩:=List.mem_map.1 hx;have h1:=Zi2 q.num 30 (by decide) (h q hq).1
 have h2:=(Yz q.den 30 (by decide)).2 (h q hq).2
 exact⟨Nat.le_trans h1 (by decide),Nat.le_trans h2 (by decide)⟩
theorem Zsd{ps:List Int}{la lb:List Rat}(hp:Vp ps=0)(ha:∀ q∈la,Sm 30 q)(hb:∀ q∈lb,Sm 30 q)(h1:la.length=ps.length)(h2:lb.length=ps.length):Zkl ps [la.map qs,lb.map qs]=0:=by
 unfold Zkl;rw[if_pos hp,lgo,if_pos (Zfc ha h1),lgo,if_pos (Zfc hb h2),lgo]
theorem Zt.le{w:World}{ps:List Int}{a0 a:Option Addr}{l:List Rat}{D E:Nat}(h:Zt w ps a0 a l D)(hE:D≤E)(h1:E≤1000):Zt w ps a0 a l E :=
 ⟨h.rp,h.rl,h.len,h.n,h.pr,fun q hq=>(h.sm q hq).le hE,h1⟩
theorem Zk5(W:World)(ps:List Int)(g:Nat)(a0 a1 a2:Option Addr)(c0 c1 c2:Nat)(la lb:List Rat)(A:Zt W ps a0 a1 la 30)(B:Zt W ps a0 a2 lb 30)(hp:Vp ps=0)(L:Qb W)
  (h1:W.heap[g]?=some (.cells #[.slice a1 la.length c1,.slice a2 lb.length c2] 38 (0,0))) :
  Kc Tryz.prog 107 #[.slice a0 ps.length c0,.slice (some ⟨g,0,none⟩) 2 2] W (.int .i64 0):=by
 have h1':W.heap[g]?=some (.cells #[.slice a1 (la.map qs).length c1,.slice a2 (lb.map qs).length c2] 38 (0,0)):=by rw[List.length_map,List.length_map];exact h1
 have hn:=A.n;have e1:=A.len;have e2:=B.len;have h:=Zcp W a0 _ c0 2 ps [la.map qs,lb.map qs] A.rp A.i64 (by omega) (Zl0 h1' A.rl B.rl) (by simp)
  (by
   intro l hl;simp only[List.mem_cons,List.not_mem_nil,or_false] at hl;rcases hl with rfl|rfl
   ·exact⟨by rw[List.length_map];omega,Zq2 A.sm⟩
   ·exact⟨by rw[List.length_map];omega,Zq2 B.sm⟩) L
 rw[Zsd hp A.sm B.sm e1 e2] at h;exact h
theorem Ze7(w:World)(ps:List Int)(a0 a1 a2:Option Addr)(c0 c1 c2:Nat)(la lb:List Rat)(A:Zt w ps a0 a1 la 30)(B:Zt w ps a0 a2 lb 30)(hp:Vp ps=0)(L:Qb w)
  (hq:tlQ ps lb≠[]) :
  Kc Tryz.prog 192 #[.slice a0 ps.length c0,.slice a1 la.length c1,.slice a2 lb.length c2] w (.int .i64 0):=by
 unfold Kc;have HB:=hd_ B;have HL:=hd_ L;have Hk:Hid (∀ W g,Below w.heap.size w W→W.heap[g]?=some (.cells #[.slice a1 la.length c1,.slice a2 lb.length c2] 38 (0,0))→Kc Tryz.prog 107 #[.slice a0 ps.length c0,.slice (some ⟨g,0,none⟩) 2 2] W (.int .i64 0)):=fun W g hW hg =>
  Zk5 W ps g a0 a1 a2 c0 c1 c2 la lb (A.below hW) (B.below hW) hp (L.below hW) hg
 have hz:(((tlQ ps lb).length:Int)==0)=false:=by
  rw[beq_eq_false_iff_ne];intro h;exact hq (List.eq_nil_of_length_eq_zero (by omega))
 have Ht:Hid (∀ W,Below w.heap.size w W→Calls Tryz.prog 100 #[.slice a0 ps.length c0,.slice a2 lb.length c2] W fun e w'=>∃ b1 d1 b2 d2,e = .returned (.agg (Qa b1 d1 b2 d2 (tlQ ps lb).length (Qc lb)))∧Yo w' (tlQ ps lb) b1 b2∧Below W.heap.size W w'):=fun W hW =>
  Zic (HB.out.below hW) (HL.out.below hW)
 clear A B hp L hq HB HL;generalize (tlQ ps lb).length=m at *
 go_enter Tryz.func192,Tryz.ntmps192
 go_wp2_with fail
 have B1:=hd_ ((Below.refl w.heap.size w).alloc nr_ (.cells #[.slice a1 la.length c1,.slice a2 lb.length c2] 38));refine cm_ (Hk.out _ _ B1.out (Qx w _ _ _ rfl)) ?_;rintro e w1 ⟨rfl,hb⟩;have B2:=hd_ (B1.out.trans (hb.mono B1.out.size));clear hb Hk B1
 go_wp2_with fail
 refine cm_ (Ht.out _ B2.out) ?_;rintro e w2 ⟨b1,d1,b2,d2,rfl,T,hb⟩;have B3:=hd_ (B2.out.trans (hb.mono B2.out.size));clear hb Ht T;have hf:∀ W:World,(Instr.field 163 (.agg (Qa b1 d1 b2 d2 m (Qc lb))) 0).run Tryz.prog W = .ok (.slice b1 m d1) W:=fun W=>by rfl
 go_wp2_with fail
 go_ret;exact⟨rfl,B3.out⟩
theorem Zsq : (Tryz.prog.fieldsOf 42).toList.map (fun f => (f.name, f.type, f.offset)) = [("Num", 25, 0), ("Den", 25, 1)] := by kernel_rfl
theorem Zwc:Tryz.prog.stoodInHeld 42=false:=by kernel_rfl
theorem Zzt:Tryz.prog.eqGuardType Tryz.prog.depth 42=false:=by kernel_rfl
theorem Ze0 (W : World) (d : Nat) (s t s' t' : ByteArray) (fs : List Field) (h : fs.map (fun f => (f.name, f.type, f.offset)) = [("Num", 25, 0), ("Den", 25, 1)]) :
  (Op.eqFields (d+1) #[.string s,.string t] #[.string s',.string t'] fs).run Tryz.prog W = .ok (s.toList==s'.toList&&t.toList==t'.toList) W:=by
 obtain⟨f,g,rfl⟩:∃ f g,fs=[f,g]:=by
  have hl:=congrArg List.length h;rw[List.length_map] at hl;cases fs with
  | nil=>simp at hl
  | cons f fs =>
   cases fs with
   | nil=>simp at hl
   | cons g fs =>
    cases fs with
    | nil=>exact⟨f,g,rfl⟩
    | cons x fs=>simp at hl
 simp only[List.map_cons,List.map_nil,List.cons.injEq,Prod.mk.injEq,and_true] at h;obtain⟨⟨h1,h2,h3⟩,h4,h5,h6⟩:=h;have hu:=Tryz.underlying25;simp[Op.eqFields,h1,h2,h3,h4,h5,h6,go_sem,hu]
 by_cases q1:s.toList=s'.toList<;>by_cases q2:t.toList=t'.toList<;>simp[q1,q2]
theorem Zq0:Tryz.prog.underlying 42=some (.struct (Tryz.prog.fieldsOf 42)):=by
 have h:=Tryz.underlying42;unfold Program.fieldsOf;rw[h]
theorem Ziw(W:World)(s t s' t':ByteArray):
  (binOp .neq 42 (.agg #[.string s,.string t]) (.agg #[.string s',.string t'])).run Tryz.prog W = .ok (.bool (!(s.toList==s'.toList&&t.toList==t'.toList))) W:=by
 rw[run_neq_struct,show (10000:Nat)=9998+1+1 from rfl,run_equalIn_agg (ht:=Zq0) (hp:=Zwc),Ze0 W _ s t s' t' _ Zsq]
 rfl
theorem Zn9(W:World)(s t s' t':ByteArray):
  (binOp .eql 42 (.agg #[.string s,.string t]) (.agg #[.string s',.string t'])).run Tryz.prog W = .ok (.bool (s.toList==s'.toList&&t.toList==t'.toList)) W:=by
 rw[run_eql_struct,show (10000:Nat)=9998+1+1 from rfl,run_equalIn_agg (ht:=Zq0) (hp:=Zwc),Ze0 W _ s t s' t' _ Zsq]
 rfl
theorem Zbj(W:World)(op:BinOp)(x y:Operand)(xs ys:Array Value):(eqGuard op 42 x y (.agg xs) (.agg ys)).run Tryz.prog W = .ok () W:=run_eqGuard_agg W op _ x y xs ys Zzt
theorem toList_inj{a b:ByteArray}(h:(a.toList==b.toList)=true):a=b:=by
 have h1:=eq_of_beq h;rw[ByteArray.toList_eq,ByteArray.toList_eq] at h1;exact ByteArray.ext (Array.toList_inj.1 h1)
theorem Zj8(p q:Rat):((itx p.num).toList==(itx q.num).toList&&(dec p.den).toList==(dec q.den).toList)=decide (p=q):=by
 by_cases h:p=q
 ·subst h;simp
 ·rw[decide_eq_false h,Bool.eq_false_iff];intro hc;rw[Bool.and_eq_true] at hc;exact h (Rat.ext (Zi3 (toList_inj hc.1)) (Zjg (toList_inj hc.2)))
theorem Zpd{C:World→Prop}{K:Act→Prop}{a:Act}{o:Oper}(x y:Operand)(r:TypeId)(p q:Rat)(h:o.op = .binOp .neq 42 x y r)(hx:a.eval x = .agg #[.string (itx p.num),.string (dec p.den)])(hy:a.eval y = .agg #[.string (itx q.num),.string (dec q.den)])
  (hk:K (a.put o.dst (.bool (!decide (p=q))))):o.quiet Tryz.prog a C K :=
 ⟨_,fun w _=>by
  unfold Oper.quietAt execOp;rw[h];simp only[Sem.run_bind,hx,hy,Zbj,Ziw,Result.andThen_ok,Sem.run_pure,Zj8];exact⟨rfl,rfl⟩,hk⟩
theorem Sm.inv{D:Nat}{q:Rat}(h:Sm D q)(_:0<D):Sm D q⁻¹:=by
 have e:q⁻¹=Rat.inv q:=rfl;have h1:=h.1;have h2:=h.2;rw[e];unfold Rat.inv;split
 ·refine⟨?_,h.1⟩
  show (-(q.den:Int)).natAbs<_
  omega
 ·split
  ·exact⟨by show ((q.den:Nat):Int).natAbs<_;omega,h.1⟩
  ·exact h
theorem Sm.div{D E:Nat}{a b:Rat}(ha:Sm D a)(hb:Sm E b):Sm (D+E) (a/b):=by
 rw[Rat.div_def];exact ha.mul (hb.inv hb.pos)
def Zar (la lb:List Rat):Nat→Rat
 | 0=>0
 | k+1=>if lb.getD k 0=0 then Zar la lb k else la.getD k 0/lb.getD k 0
theorem Zsl{D:Nat}{l:List Rat}(h:∀ q∈l,Sm D q)(hD:0<D)(k:Nat):Sm D (l.getD k 0):=by
 rw[List.getD_eq_getElem?_getD];rcases Nat.lt_or_ge k l.length with hk|hk
 ·rw[List.getElem?_eq_getElem hk];exact h _ (List.getElem_mem hk)
 ·rw[List.getElem?_eq_none hk];exact Sm.zero.le hD
theorem Zj7{D:Nat}{la lb:List Rat}(ha:∀ q∈la,Sm D q)(hb:∀ q∈lb,Sm D q)(hD:0<D):∀ k,Sm (D+D) (Zar la lb k)
 | 0=>Sm.zero.le (by omega)
 | k+1=>by
  unfold Zar;split
  ·exact Zj7 ha hb hD k
  ·exact(Zsl ha hD k).div (Zsl hb hD k)
def Znp (la lb:List Rat) (n:Nat) (k:Rat):Bool:=decide (∀ j,j<n→k*lb.getD j 0=la.getD j 0)
theorem Zfe{w:World}{g:Nat}{a b:Value}{t:TypeId}(h:w.heap[g]?=some (.cells #[a,b] t (0,0)))(x y:Value):
  ((w.setCell ⟨g,0,none⟩ x).setCell ⟨g,1,none⟩ y).heap[g]?=some (.cells #[x,y] t (0,0)):=by
 rw[Zcl (Zcl h 0 x) 1 y];rfl
theorem Zbb{w:World}{g k:Nat}{o:Obj}(h:w.heap[k]?=some o)(hk:g≠k)(x y:Value):
  ((w.setCell ⟨g,0,none⟩ x).setCell ⟨g,1,none⟩ y).heap[k]?=some o:=by
 rw[Zp hk,Zp hk];exact h
structure BW (W:World) where
 w:World
 b:Below W.heap.size W w
theorem BW.cell{W:World}{p:Addr}{v:Value}(h:W.cell? p=some v)(q:BW W):q.w.cell? p=some v:=(q.b.cell (block_lt_of_cell h)).trans h
theorem Zrc(w:World)(a1 a2:Option Addr)(c1 c2 n D:Nat)(la lb:List Rat)(ra:Rd w a1 (Kx la))(rb:Rd w a2 (Kx lb))(ea:la.length=n)(eb:lb.length=n)
  (sa:∀ q∈la,Sm D q) (sb:∀ q∈lb,Sm D q) (hn:n≤1000) (hD0:0<D) (hD:D≤1000) (L:Qb w) :
  Kc Tryz.prog 220 #[.slice a1 n c1,.slice a2 n c2] w (.tuple #[fr (Zar la lb n),.bool (Znp la lb n (Zar la lb n))]):=by
 unfold Kc;have HL:=hd_ L;have Hra:=hd_ ra;have Hrb:=hd_ rb;have Hea:=hd_ ea;have Heb:=hd_ eb;have Hsa:=hd_ sa;have Hsb:=hd_ sb;have HD:=hd_ hD;have HD0:=hd_ hD0;have B0:=hd_ ((Below.refl w.heap.size w).alloc nr_ (.cells #[.string ⟨#[]⟩,.string ⟨#[]⟩] 42));have K0:=hd_ (Qx w #[.string ⟨#[]⟩,.string ⟨#[]⟩] 42 _ rfl);have S0:Hid ((w.alloc (.cells #[.string ⟨#[]⟩,.string ⟨#[]⟩] 42)).heap.size=w.heap.size+1):=by show (w.heap.push _).size=_;exact Array.size_push ..
 have Hnum:Hid (∀ W,Below w.heap.size w W→Kc Tryz.prog 98 #[.int .i64 0] W (.agg #[.string (itx 0),.string (dec 1)])):=fun W hW=>Zd7 W 0 (by decide) (by decide) (HL.out.below hW)
 clear L ra rb ea eb sa sb hD hD0;go_enter Tryz.func220,Tryz.ntmps220
 go_wp2_with fail
 generalize w.alloc (.cells #[.string ⟨#[]⟩,.string ⟨#[]⟩] 42)=w0 at *
 refine cm_ (Hnum.out _ B0.out) ?_;rintro e w1 ⟨rfl,hb⟩;have B1:=hd_ (B0.out.trans (hb.mono B0.out.size));have K1:=hd_ (Kd K0.out hb nr_);have S1:Hid (w.heap.size+1≤w1.heap.size):=by show _≤_;have:=hb.size;have:=S0.out;omega
 clear hb K0 B0 S0 Hnum
 go_wp2_with fail
 have B2:=hd_ (B1.out.alloc B1.out.size (.cells #[.string (itx 0),.string (dec 1)] 42));have K2:=hd_ (Kl K1.out (.cells #[.string (itx 0),.string (dec 1)] 42));have M2:=hd_ (Qx w1 #[.string (itx 0),.string (dec 1)] 42 _ rfl);have hne:w.heap.size≠w1.heap.size:=by have:=S1.out;omega
 have hge:w.heap.size≤w1.heap.size:=by have:=S1.out;omega
 have Hne:=hd_ hne;have Hge:=hd_ hge;generalize w1.alloc (.cells #[.string (itx 0),.string (dec 1)] 42)=w2 at *
 clear K1 B1 S1 hne hge;generalize w1.heap.size=g1 at *
 go_loopw [14] (fun i wr=>∃ k:Nat,k≤n∧i = .int .i64 k∧Hid (wr.heap[w.heap.size]?=some (.cells #[.string ⟨#[]⟩,.string ⟨#[]⟩] 42 (0,0)))∧Hid (wr.heap[g1]?=some (.cells #[.string (itx (Zar la lb k).num),.string (dec (Zar la lb k).den)] 42 (0,0)))∧Hid (Below w.heap.size w wr)) (fun i _=>n-(intOf i).toNat)
 case atStart=>exact⟨0,Nat.zero_le _,rfl,K2,M2,B2⟩
 case round =>
  obtain⟨k,hk,rfl,K,M,B⟩:=hrel
  by_cases hlt:k<n
  ·have hlt':(k:Int)<n:=by omega
   have hkb:k<lb.length:=by rw[Heb.out];exact hlt
   have hka:k<la.length:=by rw[Hea.out];exact hlt
   obtain⟨b,off,rfl,hb,hcells⟩:=Hrb.out.open (by rw[Ky,Heb.out];omega)
   obtain⟨x0,x1⟩:=Ql hcells k (by rw[List.length_map];exact hkb)
   rw[← B.out.cell (p:=⟨b,off+k*2,none⟩) hb,Qt _ k hkb] at x0;rw[← B.out.cell (p:=⟨b,off+k*2+1,none⟩) hb,Qt _ k hkb] at x1;have Hxb:Hid (lb.getD k 0=lb[k]):=by show _=_;rw[List.getD_eq_getElem?_getD,List.getElem?_eq_getElem hkb];rfl
   have Hxa:Hid (la.getD k 0=la[k]):=by show _=_;rw[List.getD_eq_getElem?_getD,List.getElem?_eq_getElem hka];rfl
   have Sa:=hd_ (Hsa.out _ (List.getElem_mem hka));have Sb:=hd_ (Hsb.out _ (List.getElem_mem hkb));obtain⟨b',off',rfl,hb',hcells'⟩:=Hra.out.open (by rw[Ky,Hea.out];omega)
   obtain⟨y0,y1⟩:=Ql hcells' k (by rw[List.length_map];exact hka)
   rw[← B.out.cell (p:=⟨b',off'+k*2,none⟩) hb',Qt _ k hka] at y0;rw[← B.out.cell (p:=⟨b',off'+k*2+1,none⟩) hb',Qt _ k hka] at y1;have Hs:Hid (Zar la lb (k+1)=if lb.getD k 0=0 then Zar la lb k else la.getD k 0/lb.getD k 0):=hd_ rfl
   rw[Hxb.out,Hxa.out] at Hs;generalize lb[k]=xb at *
   generalize la[k]=xa at *
   simp only[qs] at x0 x1 y0 y1;clear hcells hcells' Hxb Hxa
   by_cases h0:xb=0
   ·subst h0;have Hs':Hid (Zar la lb (k+1)=Zar la lb k):=by show _=_;rw[Hs.out,if_pos rfl]
    have hz:((itx (0:Int)).toList==[48])=true:=by rw[Zgg];rfl
    have B':=hd_ (B.out.alloc B.out.size (.cells #[.string (itx 0),.string (dec 1)] 42));have K':=hd_ (Kl K.out (.cells #[.string (itx 0),.string (dec 1)] 42));have M':=hd_ (Kl M.out (.cells #[.string (itx 0),.string (dec 1)] 42));clear Hs y0 y1 B K M Sa Sb
    go_wp2_with fail
    go_roundw
    case rel =>
     refine⟨k+1,by omega,by go_num,K',?_,B'⟩
     rw[Hs'.out];exact M'
    case measure=>simp[intOf];omega
   ·have Hs':Hid (Zar la lb (k+1)=xa/xb):=by show _=_;rw[Hs.out,if_neg h0]
    have hz:((itx xb.num).toList==[48])=false:=by rw[Zgg];exact decide_eq_false fun h=>h0 (Rat.num_eq_zero.1 h)
    have B':=hd_ (B.out.alloc B.out.size (.cells #[.string (itx xb.num),.string (dec xb.den)] 42));have K':=hd_ (Kl K.out (.cells #[.string (itx xb.num),.string (dec xb.den)] 42));have M':=hd_ (Kl M.out (.cells #[.string (itx xb.num),.string (dec xb.den)] 42));have N':=hd_ (Qx wr #[.string (itx xb.num),.string (dec xb.den)] 42 _ rfl);have W':=hd_ ((Below.refl wr.heap.size wr).alloc nr_ (.cells #[.string (itx xb.num),.string (dec xb.den)] 42));have Y0:=hd_ ((W'.out.cell (p:=⟨b',off'+k*2,none⟩) (Nat.lt_of_lt_of_le hb' B.out.size)).trans y0);have Y1:=hd_ ((W'.out.cell (p:=⟨b',off'+k*2+1,none⟩) (Nat.lt_of_lt_of_le hb' B.out.size)).trans y1);have HDv:Hid (∀ W,Below w.heap.size w W→Kc Tryz.prog 246 #[fr xa,fr xb] W (.tuple #[fr (xa/xb),.int .i64 0])):=fun W hW =>
     Qbj W xa xb D D Sa.out Sb.out h0 (by have:=HD.out;omega) (HL.out.below hW)
    unfold fr fv at HDv;clear Hs y0 y1 B K M Sa Sb h0 W';have H0:=hd_ (show ((0:Int)≤k∧(k:Int)<n) from ⟨by omega,by omega⟩)
    go_wp2_with fail
    generalize wr.alloc (.cells #[.string (itx xb.num),.string (dec xb.den)] 42)=W0 at *
    clear x0 x1;obtain⟨k0,k1,-,-⟩:=Ka N'.out;have q0:=BW.cell k0;have q1:=BW.cell k1;have q2:=BW.cell Y0.out;have q3:=BW.cell Y1.out;have hnon:Nonempty (BW W0):=⟨⟨W0,Below.refl _ _⟩⟩;clear k0 k1 N';refine RP.wp_region_readers 9 [(1,0),(1,1),(1,2),(1,3),(1,4),(0,5),(2,6),(2,7),(2,8),(0,9)] (fun w'=>∃ p:BW W0,w'=p.w) (by kernel_rfl) (by kernel_rfl) ?_ ?_
    ·exact⟨⟨{ W0 with drawn:=W0.drawn+1 },⟨rfl,rfl,rfl,Nat.le_refl _,fun _ _=>rfl⟩⟩,rfl⟩
    iterate 5 (refine RP.walkR_read ?_;simp only[Kh,dz_,Kg,tz_];go_big_quiet_step (fail);refine wpQuiet_nil ?_)
    clear q0 q1 q2 q3 hnon;refine RP.walkR_move ?_;simp only[Kh,dz_,Kg,tz_]
    go_wp2_with fail
    refine cm_ (HDv.out _ B'.out.drew) ?_;rintro e w5 ⟨rfl,hb5⟩;have W5:Hid (Below W0.heap.size W0 w5):=(Below.refl W0.heap.size W0).drew.trans hb5;have B5:=hd_ (B'.out.trans (W5.out.mono B'.out.size));have K5:=hd_ (Kd K'.out W5.out nr_);have M5:=hd_ (Kd M'.out W5.out nr_);clear hb5 HDv K' M' B' Y0 Y1
    go_wp2_with fail
    refine⟨⟨⟨w5,W5.out⟩,rfl⟩,?_⟩;refine RP.walkR_any ?_;simp only[Kh,dz_,Kg,tz_]
    go_big_quiet_step (fail)
    refine wpQuiet_nil ?_;refine RP.walkR_any ?_;simp only[Kh,dz_,Kg,tz_]
    go_big_quiet_step (fail)
    refine wpQuiet_nil ?_;refine RP.walkR_any ?_;simp only[Kh,dz_,Kg,tz_]
    go_big_quiet_step (fail)
    refine wpQuiet_nil ?_;obtain⟨k0,k1,f0,f1⟩:=Ka M5.out;refine RP.walkR_move ?_;simp only[Kh,dz_,Kg,tz_]
    go_wp2_with fail
    have B6:=hd_ ((B5.out.setCell (p:=⟨g1,0,none⟩) Hge.out (.string (itx (xa/xb).num))).setCell (p:=⟨g1,1,none⟩) Hge.out (.string (dec (xa/xb).den)));have M6:=hd_ (Zfe M5.out (.string (itx (xa/xb).num)) (.string (dec (xa/xb).den)));have K6:=hd_ (Zbb K5.out Hne.out.symm (.string (itx (xa/xb).num)) (.string (dec (xa/xb).den)));clear k0 k1 f0 f1 K5 M5 B5 W5;generalize (w5.setCell ⟨g1,0,none⟩ (.string (itx (xa/xb).num))).setCell ⟨g1,1,none⟩ (.string (dec (xa/xb).den))=w6 at *
    simp only[RP.walkR];go_wp2
    go_roundw
    case rel =>
     refine⟨k+1,by omega,by go_num,K6,?_,B6⟩
     rw[Hs'.out];exact M6
    case measure=>simp[intOf];omega
  ·have hlt':¬ (k:Int)<n:=by omega
   have hkn:k=n:=by omega
   subst hkn;clear hk hlt;generalize hq:Zar la lb k=q at *
   have Sq:Hid (Sm (D+D) q):=by show Sm _ q;rw[← hq];exact Zj7 Hsa.out Hsb.out HD0.out k
   have Hq:=hd_ hq;clear hq
   go_wp2_with fail
   go_loopw [34] (fun i wr=>∃ j:Nat,j≤k∧i = .int .i64 j∧Hid (∀ i,i<j→q*lb.getD i 0=la.getD i 0)∧Hid (wr.heap[w.heap.size]?=some (.cells #[.string ⟨#[]⟩,.string ⟨#[]⟩] 42 (0,0)))∧Hid (wr.heap[g1]?=some (.cells #[.string (itx q.num),.string (dec q.den)] 42 (0,0)))∧Hid (Below w.heap.size w wr)) (fun i _=>k-(intOf i).toNat)
   case atStart=>exact⟨0,Nat.zero_le _,rfl,fun i hi=>absurd hi (Nat.not_lt_zero _),K,M,B⟩
   case round =>
    clear K M B;obtain⟨j,hj,rfl,Hall,K,M,B⟩:=hrel
    by_cases hlt:j<k
    ·have hlt':(j:Int)<k:=by omega
     have hkb:j<lb.length:=by rw[Heb.out];exact hlt
     have hka:j<la.length:=by rw[Hea.out];exact hlt
     obtain⟨b,off,rfl,hb,hcells⟩:=Hrb.out.open (by rw[Ky,Heb.out];omega)
     obtain⟨x0,x1⟩:=Ql hcells j (by rw[List.length_map];exact hkb)
     rw[← B.out.cell (p:=⟨b,off+j*2,none⟩) hb,Qt _ j hkb] at x0;rw[← B.out.cell (p:=⟨b,off+j*2+1,none⟩) hb,Qt _ j hkb] at x1;have Hxb:Hid (lb.getD j 0=lb[j]):=by show _=_;rw[List.getD_eq_getElem?_getD,List.getElem?_eq_getElem hkb];rfl
     have Hxa:Hid (la.getD j 0=la[j]):=by show _=_;rw[List.getD_eq_getElem?_getD,List.getElem?_eq_getElem hka];rfl
     have Sb:=hd_ (Hsb.out _ (List.getElem_mem hkb));obtain⟨b',off',rfl,hb',hcells'⟩:=Hra.out.open (by rw[Ky,Hea.out];omega)
     obtain⟨y0,y1⟩:=Ql hcells' j (by rw[List.length_map];exact hka)
     rw[← B.out.cell (p:=⟨b',off'+j*2,none⟩) hb',Qt _ j hka] at y0;rw[← B.out.cell (p:=⟨b',off'+j*2+1,none⟩) hb',Qt _ j hka] at y1;generalize lb[j]=xb at *
     generalize la[j]=xa at *
     simp only[qs] at x0 x1 y0 y1;have B':=hd_ (B.out.alloc B.out.size (.cells #[.string (itx xb.num),.string (dec xb.den)] 42));have K':=hd_ (Kl K.out (.cells #[.string (itx xb.num),.string (dec xb.den)] 42));have M':=hd_ (Kl M.out (.cells #[.string (itx xb.num),.string (dec xb.den)] 42));have N':=hd_ (Qx wr #[.string (itx xb.num),.string (dec xb.den)] 42 _ rfl);have W':=hd_ ((Below.refl wr.heap.size wr).alloc nr_ (.cells #[.string (itx xb.num),.string (dec xb.den)] 42));have Y0:=hd_ ((W'.out.cell (p:=⟨b',off'+j*2,none⟩) (Nat.lt_of_lt_of_le hb' B.out.size)).trans y0);have Y1:=hd_ ((W'.out.cell (p:=⟨b',off'+j*2+1,none⟩) (Nat.lt_of_lt_of_le hb' B.out.size)).trans y1);have HM:Hid (∀ W,Below w.heap.size w W→∀ d os,Calls Tryz.prog 47 #[fr q,fr xb] (Go.Sort.grow (redrawn W d) os) fun e w''=>e = .returned (fr (q*xb))∧∃ p:Regrown,w''=Go.Sort.grow (redrawn W p.d) p.os):=fun W hW =>
      Zew W q xb (D+D) D Sq.out Sb.out (by have:=HD.out;omega) (HL.out.below hW)
     unfold fr fv at HM;clear hcells hcells' y0 y1 K M B W' Sb;have H0:=hd_ (show ((0:Int)≤j∧(j:Int)<k) from ⟨by omega,by omega⟩)
     go_wp2_with fail
     generalize wr.alloc (.cells #[.string (itx xb.num),.string (dec xb.den)] 42)=W0 at *
     clear x0 x1;obtain⟨k0,k1,-,-⟩:=Ka N'.out;obtain⟨m0,m1,-,-⟩:=Ka M'.out;have q0:=cell_regrown k0;have q1:=cell_regrown k1;have q2:=cell_regrown Y0.out;have q3:=cell_regrown Y1.out;have q4:=cell_regrown m0;have q5:=cell_regrown m1;have hM:=HM.out _ B'.out;clear k0 k1 HM N' m0 m1;refine wp_region_quiet_below (by kernel_rfl) (by kernel_rfl) ?_
     repeat (first | go_big_quiet_step (with_reducible exact hM _ _) | quiet_step (with_reducible exact hM _ _))
     refine BigFrame.wpQuiet_want rfl fun K hK=>Zpd _ _ _ (q*xb) xa rfl rfl rfl (hK _ ?_)
     refine wpQuiet_nil ?_;intro w2 hw2;obtain⟨⟨dq,osq⟩,rfl⟩:=hw2;have W2:=hd_ (below_regrown W0 dq osq);have B2:=hd_ (B'.out.trans (W2.out.mono B'.out.size));have K2:=hd_ (Kd K'.out W2.out nr_);have M2:=hd_ (Kd M'.out W2.out nr_);clear K' M' B' Y0 Y1 W2 hM q0 q1 q2 q3 q4 q5;generalize Go.Sort.grow (redrawn W0 dq) osq=w2 at *
     by_cases hqx:q*xb=xa
     ·rw[decide_eq_true hqx];have Hall':Hid (∀ i,i<j+1→q*lb.getD i 0=la.getD i 0):=fun i hi=>by
       rcases Nat.lt_or_ge i j with h|h
       ·exact Hall.out i h
       ·rw[show i=j by omega,Hxb.out,Hxa.out];exact hqx
      clear hqx Hall Hxa Hxb
      go_wp2_with fail
      go_roundw
      case rel=>exact⟨j+1,by omega,by go_num,Hall',K2,M2,B2⟩
      case measure=>simp[intOf];omega
     ·rw[decide_eq_false hqx];have HB:Hid (Znp la lb k q=false):=by
       show _=_
       exact decide_eq_false fun h=>hqx (by rw[← Hxb.out,← Hxa.out];exact h j hlt)
      clear hqx Hall Hxa Hxb;obtain⟨k0,k1,f0,f1⟩:=Ka K2.out;obtain⟨m0,m1,-,-⟩:=Ka M2.out
      go_wp2_with fail
      obtain⟨c0,c1,hb3⟩:=Kq (B:=w.heap.size) (.string (itx q.num)) (.string (dec q.den)) k0 k1 nr_ B2.out;generalize (w2.setCell ⟨w.heap.size,0,none⟩ (.string (itx q.num))).setCell ⟨w.heap.size,1,none⟩ (.string (dec q.den))=w9 at *
      rw[Hq.out,HB.out];exact bodyPost_ret (v := .tuple #[.agg #[.string (itx q.num),.string (dec q.den)],.bool false]) (by simp[results,Tryz.results220,go_sem,c0,c1]) rfl ⟨rfl,hb3⟩
    ·have hlt':¬ (j:Int)<k:=by omega
     have HB:Hid (Znp la lb k q=true):=by
      show _=_
      exact decide_eq_true fun i hi=>Hall.out i (by omega)
     clear Hall;obtain⟨k0,k1,f0,f1⟩:=Ka K.out;obtain⟨m0,m1,-,-⟩:=Ka M.out
     go_wp2_with fail
     obtain⟨c0,c1,hb3⟩:=Kq (B:=w.heap.size) (.string (itx q.num)) (.string (dec q.den)) k0 k1 nr_ B.out;generalize (wr.setCell ⟨w.heap.size,0,none⟩ (.string (itx q.num))).setCell ⟨w.heap.size,1,none⟩ (.string (dec q.den))=w9 at *
     rw[Hq.out,HB.out];exact bodyPost_ret (v := .tuple #[.agg #[.string (itx q.num),.string (dec q.den)],.bool true]) (by simp[results,Tryz.results220,go_sem,c0,c1]) rfl ⟨rfl,hb3⟩
theorem Zv8(w:World)(ps:List Int)(a0 a1 a2:Option Addr)(c0 c1 c2:Nat)(la lb:List Rat)(A:Zt w ps a0 a1 la 30)(B:Zt w ps a0 a2 lb 30)(hp:Vp ps=0)(L:Qb w)(hz:tlQ ps lb≠[])(q:Int)
  (hf:∀ W,Below w.heap.size w W→Kc Tryz.prog 193 #[.slice a0 ps.length c0,.slice a1 la.length c1,.slice a2 lb.length c2] W (.string (itx q))) :
  Kc Tryz.prog 128 #[.slice a0 ps.length c0,.slice a1 la.length c1,.slice a2 lb.length c2] w (.tuple #[.string (itx q),.int .i64 0]):=by
 unfold Kc;have Hc:=hd_ (Ze7 w ps a0 a1 a2 c0 c1 c2 la lb A B hp L hz);have Hf:=hd_ hf;clear A B hp L hz hf;go_enter Tryz.func128,Tryz.ntmps128
 go_wp2_with fail
 refine cm_ Hc.out ?_;rintro e w1 ⟨rfl,hb⟩;have B1:=hd_ hb;clear hb Hc
 go_wp2_with fail
 refine cm_ (Hf.out _ B1.out) ?_;rintro e w2 ⟨rfl,hb⟩;have B2:=hd_ (B1.out.trans (hb.mono B1.out.size));clear hb Hf
 go_wp2_with fail
 go_ret2
 exact⟨rfl,B2.out⟩
theorem Sm.two:Sm 1 2:=⟨by decide,by decide⟩
theorem Zxh(w:World)(n d:Int)(v:Rat)(hof:∀ W,Below w.heap.size w W→Kc Tryz.prog 35 #[.int .i64 n,.int .i64 d] W (.tuple #[fr v,.int .i64 0])):
  Kc Tryz.prog 169 #[.int .i64 n,.int .i64 d] w (fr v):=by
 unfold Kc;have Hof:=hd_ hof;clear hof;unfold fr fv at Hof ⊢;have B0:=hd_ ((Below.refl w.heap.size w).alloc nr_ (.cells #[.string ⟨#[]⟩,.string ⟨#[]⟩] 42));have K0:=hd_ (Qx w #[.string ⟨#[]⟩,.string ⟨#[]⟩] 42 _ rfl);go_enter Tryz.func169,Tryz.ntmps169
 go_wp2_with fail
 refine cm_ (Hof.out _ B0.out) ?_;rintro e w1 ⟨rfl,hb⟩;have B1:=hd_ (B0.out.trans (hb.mono B0.out.size));have K1:=hd_ (Kd K0.out hb nr_);clear hb B0 K0 Hof;have B2:=hd_ (B1.out.alloc B1.out.size (.cells #[.string (itx v.num),.string (dec v.den)] 42));have K2:=hd_ (Kl K1.out (.cells #[.string (itx v.num),.string (dec v.den)] 42));have M2:=hd_ (Qx w1 #[.string (itx v.num),.string (dec v.den)] 42 _ rfl);obtain⟨k0,k1,f0,f1⟩:=Ka K2.out;obtain⟨m0,m1,-,-⟩:=Ka M2.out
 go_wp2_with fail
 obtain⟨c0,c1,hb3⟩:=Kq (B:=w.heap.size) (.string (itx v.num)) (.string (dec v.den)) k0 k1 nr_ B2.out;exact bodyPost_ret (v := .agg #[.string (itx v.num),.string (dec v.den)]) (by simp[results,Tryz.results169,go_sem,c0,c1]) rfl ⟨rfl,hb3⟩
end Go.Proofs.YtnjedhgcfeoemaaGreatDoor

namespace Go.Proofs.YtnjedhgcfeoemaaGreatDoor
open Go.RowKit Go.Shelf
end Go.Proofs.YtnjedhgcfeoemaaGreatDoor

namespace Go.Proofs.YtnjedhgcfeoemaaGreatDoor
open Go.RowKit
theorem Zhq{C:World→Prop}{K:Act→Prop}{a:Act}{o:Oper}(x y:Operand)(r:TypeId)(p q:Rat)(h:o.op = .binOp .eql 42 x y r)(hx:a.eval x = .agg #[.string (itx p.num),.string (dec p.den)])(hy:a.eval y = .agg #[.string (itx q.num),.string (dec q.den)])
  (hk:K (a.put o.dst (.bool (decide (p=q))))):o.quiet Tryz.prog a C K :=
 ⟨_,fun w _=>by
  unfold Oper.quietAt execOp;rw[h];simp only[Sem.run_bind,hx,hy,Zbj,Zn9,Result.andThen_ok,Sem.run_pure,Zj8];exact⟨rfl,rfl⟩,hk⟩
theorem Zn3(w:World)(z:Int)(h0 : -9223372036854775808≤z)(h1:z≤9223372036854775807)(L:Qb w):Kc Tryz.prog 144 #[.int .i64 z] w (.string (itx z)):=by
 refine(Tryz.strconv_Itoa z h0 h1 w L.tab).mono ?_;rintro e w1 ⟨rfl,hw⟩;exact⟨rfl,Zb7 hw⟩
theorem Zdp(n:Nat)(h:n≤100000000000000000000):Num n:=Ku (D:=21) (by omega) (by decide) (by decide)
theorem Qam(w:World)(n:Int)(d:Nat)(q1 : -9223372036854775808≤n)(q2:n≤9223372036854775807)(q3:0<d)(q4:d≤1000000)(L:Qb w):
  Kc Tryz.prog 169 #[.int .i64 n,.int .i64 d] w (fr (mkRat n d)) :=
 Zxh w n d _ fun W hW=>by
  have:=Znv W n d q1 q2 (by omega) (Zdp _ (by omega)) (Zdp _ (by omega)) q3 (Zdp _ (by omega)) (Zdp _ (by omega)) (L.below hW)
  rw[Zcw n d (by omega)] at this
  exact this
instance (D:Nat) (q:Rat):Decidable (Sm D q):=by unfold Sm;infer_instance
theorem k7:((itx 7).toList==[55])=true:=by decide +kernel
theorem Zxf{w:World}{g:Nat}{l:List Int}{t:TypeId}(h:w.heap[g]?=some (.cells (Vc l).toArray t (0,0))):Rd w (some ⟨g,0,none⟩) (Vc l):=by
 have:=Zg h
 simpa using this
def Zas:Nat→List Int
 | 0=>[2,3,5] | 1=>[2,3] | 2=>[2,3,5,7] | 3=>[2,3,7] | 4=>[3,5,7] | 5=>[2] | 6=>[2,5,7] | 7=>[2,3,11] | 8=>[2,3,5,13] | _=>[2,3,7,11]
theorem Zpf:∀ k,k<10→Vp (Zas k)=0∧(Zas k).length≤4∧0<(Zas k).length∧(∀ p∈Zas k,2≤p∧p≤13):=by decide +kernel
theorem Zpe(w:World)(n:Nat)(hn:n<256):
  Calls Tryz.prog 31 #[.int .u8 n] w fun e w'=>∃ g,e = .returned (.slice (some ⟨g,0,none⟩) (Zas (n%10)).length (Zas (n%10)).length)∧Rd w' (some ⟨g,0,none⟩) (Vc (Zas (n%10)))∧Below w.heap.size w w':=by
 have htm:Int.tmod (n:Int) 10=((n%10:Nat):Int):=by rw[Int.tmod_eq_emod_of_nonneg (by omega)];omega
 have hk:n%10<10:=Nat.mod_lt _ (by decide)
 generalize n%10=k at *
 clear hn;go_enter Tryz.func31,Tryz.ntmps31;have hk':(0:Int)≤k∧(k:Int)<10:=⟨by omega,by omega⟩
 go_wp2_with fail
 go_ret;clear hk';have h10:k=0∨k=1∨k=2∨k=3∨k=4∨k=5∨k=6∨k=7∨k=8∨k=9:=by omega
 rcases h10 with rfl|rfl|rfl|rfl|rfl|rfl|rfl|rfl|rfl|rfl
 all_goals
  refine⟨_,rfl,?_,?_⟩
  ·refine Zxf (t:=3) ?_
   repeat (first | exact Qx _ _ _ _ (by simp) | refine Kl ?_ _)
  ·repeat (first | exact Below.refl _ _ | refine Below.alloc ?_ (by simp;try omega) _)
def Zm2:Nat→Nat
 | 0=>1 | 1=>2 | 2=>3 | 3=>4 | 4=>6 | _=>12
def Zkp (n:Int) (d:Nat):Rat:=mkRat (n.tmod 41) (Zm2 (d%6))
theorem Zog(k:Nat):0<Zm2 k∧Zm2 k≤12:=by
 unfold Zm2;split<;>omega
theorem Zko(w:World)(n:Int)(d:Nat)(_ : -128≤n∧n≤127)(hd:d<256)(L:Qb w):
  Kc Tryz.prog 99 #[.agg #[.int .i8 n,.int .u8 d]] w (fr (Zkp n d)):=by
 unfold Kc;have t1:=Int.tmod_lt_of_pos n (show (0:Int)<41 by decide)
 have t2:=Int.lt_tmod_of_pos n (show (0:Int)<41 by decide)
 have hdl:=Zog (d%6);have HP:Hid (∀ W,Below w.heap.size w W→Kc Tryz.prog 169 #[.int .i64 (n.tmod 41),.int .i64 (Zm2 (d%6))] W (fr (Zkp n d))):=fun W hW=>Qam W (n.tmod 41) (Zm2 (d%6)) (by omega) (by omega) hdl.1 (by omega) (L.below hW)
 have htm:Int.tmod (d:Int) 6=((d%6:Nat):Int):=by rw[Int.tmod_eq_emod_of_nonneg (by omega)];omega
 have hk:d%6<6:=Nat.mod_lt _ (by decide)
 have Hx:Hid (∀ h,([Value.int .i64 1,Value.int .i64 2,Value.int .i64 3,Value.int .i64 4,Value.int .i64 6,Value.int .i64 12]:List Value)[d%6]'h = .int .i64 (Zm2 (d%6))):=fun h=>by
  have h6:d%6=0∨d%6=1∨d%6=2∨d%6=3∨d%6=4∨d%6=5:=by omega
  generalize d%6=k at *
  rcases h6 with rfl|rfl|rfl|rfl|rfl|rfl<;>rfl
 unfold fr fv at HP ⊢;generalize Zkp n d=q at *
 have hw:wrap64 (n.tmod 41)=n.tmod 41:=IntWalk.wrap64_in _ ⟨by omega,by omega⟩
 generalize d%6=k at *
 clear hdl L;have hk':(0:Int)≤k∧(k:Int)<6:=⟨by omega,by omega⟩
 have B0:=hd_ (((Below.refl w.heap.size w).alloc nr_ (.cells #[.int .i8 n,.int .u8 d] 59)).alloc (by simp) (.cells #[.string ⟨#[]⟩,.string ⟨#[]⟩] 42))
 have K0:=hd_ (Kl (Qx w #[.int .i8 n,.int .u8 d] 59 _ rfl) (.cells #[.string ⟨#[]⟩,.string ⟨#[]⟩] 42));have M0:=hd_ (Qx (w.alloc (.cells #[.int .i8 n,.int .u8 d] 59)) #[.string ⟨#[]⟩,.string ⟨#[]⟩] 42 _ rfl);rw[World.size_alloc] at M0;go_enter Tryz.func99,Tryz.ntmps99
 go_wp2_with fail
 generalize (w.alloc (.cells #[.int .i8 n,.int .u8 d] 59)).alloc (.cells #[.string ⟨#[]⟩,.string ⟨#[]⟩] 42)=W0 at *
 obtain⟨k0,k1,-,-⟩:=Ka K0.out;have q0:=BW.cell k0;have q1:=BW.cell k1;have hnon:Nonempty (BW W0):=⟨⟨W0,Below.refl _ _⟩⟩;clear k0 k1 K0;refine RP.wp_region_readers 11 [(1,0),(1,1),(1,2),(1,3),(1,5),(1,6),(1,7),(0,4),(2,8),(0,9),(0,10),(0,11)] (fun w'=>∃ p:BW W0,w'=p.w) (by kernel_rfl) (by kernel_rfl) ?_ ?_
 ·exact⟨⟨{ W0 with drawn:=W0.drawn+1 },⟨rfl,rfl,rfl,Nat.le_refl _,fun _ _=>rfl⟩⟩,rfl⟩
 iterate 7 (refine RP.walkR_read ?_;simp only[Kh,dz_,Kg,tz_];go_big_quiet_step (fail);refine wpQuiet_nil ?_)
 clear q0 q1 hnon;refine RP.walkR_move ?_;simp only[Kh,dz_,Kg,tz_]
 go_wp2_with fail
 have W1:Hid (Below W0.heap.size W0 (W0.alloc (.cells #[.int .i64 1,.int .i64 2,.int .i64 3,.int .i64 4,.int .i64 6,.int .i64 12] 3)).drew):=((Below.refl W0.heap.size W0).alloc nr_ _).drew;refine⟨⟨⟨_,W1.out⟩,rfl⟩,?_⟩;refine RP.walkR_any ?_;simp only[Kh,dz_,Kg,tz_]
 go_big_quiet_step (fail)
 refine wpQuiet_nil ?_;refine RP.walkR_move ?_;simp only[Kh,dz_,Kg,tz_]
 go_wp2_with fail
 refine⟨⟨⟨_,W1.out⟩,rfl⟩,?_⟩;refine RP.walkR_move ?_;simp only[Kh,dz_,Kg,tz_];simp only[Hx.out]
 go_wp2_with fail
 have B1:=hd_ (B0.out.trans (W1.out.mono B0.out.size));refine cm_ (HP.out _ B1.out) ?_;rintro e w5 ⟨rfl,hb5⟩;have W5:=hd_ (W1.out.trans (hb5.mono W1.out.size));have B5:=hd_ (B0.out.trans (W5.out.mono B0.out.size));have M5:=hd_ (Kd M0.out W5.out nr_);clear hb5 HP M0 B0 W1 B1
 go_wp2_with fail
 refine⟨⟨⟨w5,W5.out⟩,rfl⟩,?_⟩;obtain⟨k0,k1,f0,f1⟩:=Ka M5.out;refine RP.walkR_move ?_;simp only[Kh,dz_,Kg,tz_]
 go_wp2_with fail
 simp only[RP.walkR];obtain⟨c0,c1,hb3⟩:=Kq (B:=w.heap.size) (.string (itx q.num)) (.string (dec q.den)) k0 k1 (by omega) B5.out
 go_wp2;exact bodyPost_ret (v := .agg #[.string (itx q.num),.string (dec q.den)]) (by simp[results,Tryz.results99,go_sem,c0,c1]) rfl ⟨rfl,hb3⟩
def RdI (w:World) (a:Option Addr) (ls:List (List Int)):Prop :=
 ls=[]∨∃ b off,a=some ⟨b,off,none⟩∧b<w.heap.size∧∀ i,i<ls.length→∃ a' c',w.cell? ⟨b,off+i,none⟩=some (.slice a' (ls.getD i []).length c')∧Rd w a' (Vc (ls.getD i []))
theorem RdI.below{w w':World}{a:Option Addr}{ls:List (List Int)}{B:Nat}(h:RdI w a ls)(hb:Below B w w')(hB:w.heap.size≤B):RdI w' a ls:=by
 rcases h with h|⟨b,off,h1,h2,h3⟩
 ·exact .inl h
 ·refine .inr ⟨b,off,h1,Nat.lt_of_lt_of_le h2 hb.size,fun i hi=>?_⟩
  obtain⟨a',c',h4,h5⟩:=h3 i hi;exact⟨a',c',by rw[hb.cell (p:=⟨b,off+i,none⟩) (by show b<B;omega)];exact h4,h5.below hb hB⟩
def mx:List Int→Int
 | []=>0
 | x::l=>if 1000<x∨x < -1000 then 4 else mx l
def Zc4 (f:FuncId) (args:Array Value) (w:World) (code:Int):Prop:=Kc Tryz.prog f args w (.tuple #[.slice none 0 0,.int .i64 code])
theorem Zc3.lower{w:World}{B B' c:Nat}{a:Option Addr}{l:List Rat}(h:Zc3 w B a c l)(hb:B'≤B):Zc3 w B' a c l:=by
 exact⟨h.1,h.2.imp id fun ⟨g,cap,cur,h1,h2,h3⟩=>⟨g,cap,cur,h1,Nat.le_trans hb h2,h3⟩⟩
theorem Zrl{ps:List Int}(h:Vp ps=0):0<ps.length∧ps.length≤6:=by
 unfold Vp at h;split at h
 ·cases h
 ·split at h
  ·cases h
  ·omega
theorem Zt6(w:World)(a:Rat):Kc Tryz.prog 214 #[fr a] w (.bool (!decide (Vy a))):=by
 unfold Kc;have Hs:Hid (∀ W,Kc Tryz.prog 151 #[fr a] W (.bool (decide (Vy a)))):=fun W=>Zwe W a
 unfold fr fv at Hs ⊢;have B1:=hd_ ((Below.refl w.heap.size w).alloc nr_ (.cells #[.string (itx a.num),.string (dec a.den)] 42));generalize decide (Vy a)=z at *
 go_enter Tryz.func214,Tryz.ntmps214
 go_wp2_with fail
 refine cm_ (Hs.out _) ?_;rintro e w1 ⟨rfl,hb⟩;have B2:=hd_ (B1.out.trans (hb.mono B1.out.size));clear hb
 go_wp2_with fail
 go_ret;exact⟨rfl,B2.out⟩
def Qy (l:List Rat):Bool:=l.all fun q=>decide (Vy q)
theorem Zpx(w:World)(a:Option Addr)(c:Nat)(l:List Rat)(hr:Rd w a (Kx l))(hl:l.length≤1000):
  Calls Tryz.prog 207 #[.slice a l.length c,.func (.func 214) #[] #[]] w fun e w'=>∃ i:Int,e = .returned (.int .i64 i) ∧ -1≤i∧decide (0≤i) = !Qy l∧Below w.heap.size w w':=by
 have Hr:=hd_ hr;clear hr;have Hall:Hid (∀ k,k≤l.length→(∀ j (h:j<l.length),j<k→decide (Vy l[j])=true)→k=l.length→Qy l=true):=fun k hk h hkl=>by
  unfold Qy;rw[List.all_eq_true];intro q hq;obtain⟨j,hj,rfl⟩:=List.mem_iff_getElem.1 hq;exact h j hj (by omega)
 have Hone:Hid (∀ k (h:k<l.length),decide (Vy l[k])=false→Qy l=false):=fun k h hf=>by
  unfold Qy;rw[List.all_eq_false];exact⟨l[k],List.getElem_mem h,by rw[hf];decide⟩
 obtain⟨m,hm⟩:∃ m,l.length=m:=⟨_,rfl⟩;rw[hm] at hl ⊢;have Hm:=hd_ hm;clear hm;generalize Qy l=z at *
 go_enter Tryz.func207,Tryz.ntmps207
 go_wp2_with fail
 go_loopw [8] (fun i wr=>∃ k:Nat,k≤m∧i = .int .i64 k∧Hid (∀ j (h:j<l.length),j<k→decide (Vy l[j])=true)∧Hid (Below w.heap.size w wr)) (fun i _=>m-(intOf i).toNat)
 case atStart=>exact⟨0,Nat.zero_le _,rfl,fun j _ hj=>absurd hj (Nat.not_lt_zero _),Below.refl _ _⟩
 case round =>
  obtain⟨k,hk,rfl,Hp,B⟩:=hrel
  by_cases hlt:k<m
  ·have hlt':(k:Int)<m:=by omega
   have hkb:k<l.length:=by rw[Hm.out];exact hlt
   obtain⟨b,off,rfl,hb,hcells⟩:=Hr.out.open (by rw[Ky,Hm.out];omega)
   obtain⟨x0,x1⟩:=Ql hcells k (by rw[List.length_map];exact hkb)
   rw[← B.out.cell (p:=⟨b,off+k*2,none⟩) hb,Qt _ k hkb] at x0;rw[← B.out.cell (p:=⟨b,off+k*2+1,none⟩) hb,Qt _ k hkb] at x1;have Hc:Hid (Kc Tryz.prog 214 #[fr l[k]] wr (.bool (!decide (Vy l[k])))):=Zt6 wr _;unfold fr fv at Hc;simp only[qs] at x0 x1;clear hcells
   by_cases hs:decide (Vy l[k])=true
   ·have Hp':Hid (∀ j (h:j<l.length),j<k+1→decide (Vy l[j])=true):=fun j h hj=>by
     rcases Nat.lt_or_ge j k with hh|hh
     ·exact Hp.out j h hh
     ·have e:j=k:=by omega
      subst e;exact hs
    rw[hs] at Hc;clear hs Hp;generalize l[k]=x at *
    go_wp2_with fail
    refine cm_ Hc.out ?_;rintro e w1 ⟨rfl,hb1⟩;have B1:=hd_ (B.out.trans (hb1.mono B.out.size));clear hb1 Hc B x0 x1
    go_wp2_with fail
    go_roundw
    case rel=>exact⟨k+1,by omega,by go_num,Hp',B1⟩
    case measure=>simp[intOf];omega
   ·have hs':decide (Vy l[k])=false:=by simpa using hs
    have Hz:=hd_ (Hone.out k hkb hs');rw[hs'] at Hc;clear hs hs' Hp;generalize l[k]=x at *
    go_wp2_with fail
    refine cm_ Hc.out ?_;rintro e w1 ⟨rfl,hb1⟩;have B1:=hd_ (B.out.trans (hb1.mono B.out.size));clear hb1 Hc B x0 x1
    go_wp2_with fail
    go_ret;exact⟨k,rfl,by omega,by rw[Hz.out];exact decide_eq_true (by omega),B1.out⟩
  ·have hlt':¬ (k:Int)<m:=by omega
   have Hz:=hd_ (Hall.out k (by rw[Hm.out];exact hk) Hp.out (by rw[Hm.out];omega))
   clear Hp
   go_wp2_with fail
   go_ret;exact⟨-1,rfl,by decide,by rw[Hz.out];rfl,B.out⟩
theorem Zdv(w:World)(a:Option Addr)(c:Nat)(l:List Rat)(hr:Rd w a (Kx l))(hl:l.length≤1000):
  Kc Tryz.prog 161 #[.slice a l.length c,.func (.func 214) #[] #[]] w (.bool (!Qy l)):=by
 unfold Kc;have Hi:=hd_ (Zpx w a c l hr hl);clear hr hl;generalize Qy l=z at *
 go_enter Tryz.func161,Tryz.ntmps161
 go_wp2_with fail
 refine cm_ Hi.out ?_;rintro e w1 ⟨i,rfl,hi1,hi2,hb⟩;have B:=hd_ hb;have Hz:=hd_ hi2;clear hb Hi hi2
 go_wp2_with fail
 go_ret;exact⟨by rw[← Hz.out];rfl,B.out⟩
theorem Zly(w:World)(a:Option Addr)(c:Nat)(l:List Rat)(hr:Rd w a (Kx l))(hl:l.length≤1000)(hs:Qy l=true):
  Kc Tryz.prog 175 #[.slice a l.length c] w (.tuple #[.slice a l.length c,.int .i64 0]):=by
 unfold Kc;have Hi:=hd_ (Zdv w a c l hr hl);rw[hs] at Hi;clear hr hl hs;go_enter Tryz.func175,Tryz.ntmps175
 go_wp2_with fail
 refine cm_ Hi.out ?_;rintro e w1 ⟨rfl,hb⟩;have B:=hd_ hb;clear hb Hi
 go_wp2_with fail
 go_ret2
 exact⟨rfl,B.out⟩
theorem Zlx(w:World)(a:Option Addr)(c:Nat)(l:List Rat)(hr:Rd w a (Kx l))(hl:l.length≤1000)(hs:Qy l=false):
  Zc4 175 #[.slice a l.length c] w 4:=by
 unfold Zc4 Kc;have Hi:=hd_ (Zdv w a c l hr hl);rw[hs] at Hi;clear hr hl hs;go_enter Tryz.func175,Tryz.ntmps175
 go_wp2_with fail
 refine cm_ Hi.out ?_;rintro e w1 ⟨rfl,hb⟩;have B:=hd_ hb;clear hb Hi
 go_wp2_with fail
 go_ret2
 exact⟨rfl,B.out⟩
open Classical in
noncomputable def Za1 (x:ByteArray×ByteArray):Bool := !decide (IsQ x.1 x.2)
open Classical in
noncomputable def Zaa (l:List (ByteArray×ByteArray)):Bool:=l.all fun x=>decide (IsQ x.1 x.2)
open Classical in
theorem Zyp(w:World)(s t:ByteArray)(hs:s.size≤10000000)(ht:t.size≤10000000)(L:Qb w):Kc Tryz.prog 174 #[.agg #[.string s,.string t]] w (.bool (Za1 (s,t))):=by
 have Hs:Hid (∃ z:Int,∀ W,Below w.heap.size w W→Kc Tryz.prog 150 #[.agg #[.string s,.string t]] W (.int .i64 z))∧True:=by
  refine⟨?_,trivial⟩
  by_cases h:IsQ s t
  ·obtain⟨q,rfl,rfl,hq⟩:=h;exact⟨0,fun W hW=>Zs7 W q hq (L.below hW)⟩
  ·exact⟨2,fun W hW=>Zgu W s t hs ht h (L.below hW)⟩
 have Hz:∃ z:Int,(z==0) = !(Za1 (s,t))∧∀ W,Below w.heap.size w W→Kc Tryz.prog 150 #[.agg #[.string s,.string t]] W (.int .i64 z):=by
  by_cases h:IsQ s t
  ·refine⟨0,by unfold Za1;rw[decide_eq_true h];rfl,?_⟩
   obtain⟨q,rfl,rfl,hq⟩:=h;exact fun W hW=>Zs7 W q hq (L.below hW)
  ·exact⟨2,by unfold Za1;rw[decide_eq_false h];rfl,fun W hW=>Zgu W s t hs ht h (L.below hW)⟩
 obtain⟨z,hz,hc⟩:=Hz;have Hc:=hd_ hc;clear Hs hc hs ht L;unfold Kc;generalize Za1 (s,t)=b at *
 have B1:=hd_ ((Below.refl w.heap.size w).alloc nr_ (.cells #[.string s,.string t] 42));go_enter Tryz.func174,Tryz.ntmps174
 go_wp2_with fail
 refine cm_ (Hc.out _ B1.out) ?_;rintro e w1 ⟨rfl,hb⟩;have B2:=hd_ (B1.out.trans (hb.mono B1.out.size));have Hz:=hd_ hz;clear hb hz
 go_wp2_with fail
 go_ret;refine⟨?_,B2.out⟩;have:=Hz.out
 cases b
 ·have h1:(z==0)=true:=this;have h2:z=0:=by simpa using h1
  subst h2;rfl
 ·have h1:(z==0)=false:=this;have h2:z≠0:=by simpa using h1
  show Ending.returned (Value.bool _)=_
  first | rfl | (simp[h2])
theorem Zmq(w:World)(a:Option Addr)(c:Nat)(l:Zeq)(hr:Rd w a (Qs l))(hl:l.length≤1000)(hs:Ssz l)(L:Qb w):
  Calls Tryz.prog 213 #[.slice a l.length c,.func (.func 174) #[] #[]] w fun e w'=>∃ i:Int,e = .returned (.int .i64 i) ∧ -1≤i∧decide (0≤i) = !Zaa l∧Below w.heap.size w w':=by
 have Hr:=hd_ hr;have Hs:=hd_ hs;have HL:=hd_ L;clear hr hs L;have Hall:Hid (∀ k,k≤l.length→(∀ j (h:j<l.length),j<k→Za1 l[j]=false)→k=l.length→Zaa l=true):=fun k hk h hkl=>by
  unfold Zaa;rw[List.all_eq_true];intro q hq;obtain⟨j,hj,rfl⟩:=List.mem_iff_getElem.1 hq;have:=h j hj (by omega)
  unfold Za1 at this
  simpa using this
 have Hone:Hid (∀ k (h:k<l.length),Za1 l[k]=true→Zaa l=false):=fun k h hf=>by
  unfold Zaa;rw[List.all_eq_false];unfold Za1 at hf;exact⟨l[k],List.getElem_mem h,by simpa using hf⟩
 obtain⟨m,hm⟩:∃ m,l.length=m:=⟨_,rfl⟩;rw[hm] at hl ⊢;have Hm:=hd_ hm;clear hm;generalize Zaa l=z at *
 go_enter Tryz.func213,Tryz.ntmps213
 go_wp2_with fail
 go_loopw [8] (fun i wr=>∃ k:Nat,k≤m∧i = .int .i64 k∧Hid (∀ j (h:j<l.length),j<k→Za1 l[j]=false)∧Hid (Below w.heap.size w wr)) (fun i _=>m-(intOf i).toNat)
 case atStart=>exact⟨0,Nat.zero_le _,rfl,fun j _ hj=>absurd hj (Nat.not_lt_zero _),Below.refl _ _⟩
 case round =>
  obtain⟨k,hk,rfl,Hp,B⟩:=hrel
  by_cases hlt:k<m
  ·have hlt':(k:Int)<m:=by omega
   have hkb:k<l.length:=by rw[Hm.out];exact hlt
   obtain⟨b,off,rfl,hb,hcells⟩:=Hr.out.open (by rw[Va,Hm.out];omega)
   obtain⟨x0,x1⟩:=Ql hcells k hkb;rw[← B.out.cell (p:=⟨b,off+k*2,none⟩) hb,show l.getD k default=l[k] by rw[List.getD_eq_getElem?_getD,List.getElem?_eq_getElem hkb];rfl] at x0
   rw[← B.out.cell (p:=⟨b,off+k*2+1,none⟩) hb,show l.getD k default=l[k] by rw[List.getD_eq_getElem?_getD,List.getElem?_eq_getElem hkb];rfl] at x1
   have hsz:=Hs.out _ (List.getElem_mem hkb);have Hc:Hid (Kc Tryz.prog 174 #[.agg #[.string l[k].1,.string l[k].2]] wr (.bool (Za1 l[k]))):=Zyp wr _ _ (by omega) (by omega) (HL.out.below B.out)
   clear hcells hsz
   by_cases hs:Za1 l[k]=false
   ·have Hp':Hid (∀ j (h:j<l.length),j<k+1→Za1 l[j]=false):=fun j h hj=>by
     rcases Nat.lt_or_ge j k with hh|hh
     ·exact Hp.out j h hh
     ·have e:j=k:=by omega
      subst e;exact hs
    rw[hs] at Hc;clear hs Hp;generalize l[k]=x at *
    go_wp2_with fail
    refine cm_ Hc.out ?_;rintro e w1 ⟨rfl,hb1⟩;have B1:=hd_ (B.out.trans (hb1.mono B.out.size));clear hb1 Hc B x0 x1
    go_wp2_with fail
    go_roundw
    case rel=>exact⟨k+1,by omega,by go_num,Hp',B1⟩
    case measure=>simp[intOf];omega
   ·have hs':Za1 l[k]=true:=by simpa using hs
    have Hz:=hd_ (Hone.out k hkb hs');rw[hs'] at Hc;clear hs hs' Hp;generalize l[k]=x at *
    go_wp2_with fail
    refine cm_ Hc.out ?_;rintro e w1 ⟨rfl,hb1⟩;have B1:=hd_ (B.out.trans (hb1.mono B.out.size));clear hb1 Hc B x0 x1
    go_wp2_with fail
    go_ret;exact⟨k,rfl,by omega,by rw[Hz.out];exact decide_eq_true (by omega),B1.out⟩
  ·have hlt':¬ (k:Int)<m:=by omega
   have Hz:=hd_ (Hall.out k (by rw[Hm.out];exact hk) Hp.out (by rw[Hm.out];omega))
   clear Hp
   go_wp2_with fail
   go_ret;exact⟨-1,rfl,by decide,by rw[Hz.out];rfl,B.out⟩
theorem Zhb(w:World)(a:Option Addr)(c:Nat)(l:Zeq)(hr:Rd w a (Qs l))(hl:l.length≤1000)(hs:Ssz l)(L:Qb w):
  Kc Tryz.prog 173 #[.slice a l.length c,.func (.func 174) #[] #[]] w (.bool (!Zaa l)):=by
 unfold Kc;have Hi:=hd_ (Zmq w a c l hr hl hs L);clear hr hl hs L;generalize Zaa l=z at *
 go_enter Tryz.func173,Tryz.ntmps173
 go_wp2_with fail
 refine cm_ Hi.out ?_;rintro e w1 ⟨i,rfl,hi1,hi2,hb⟩;have B:=hd_ hb;have Hz:=hd_ hi2;clear hb Hi hi2
 go_wp2_with fail
 go_ret;exact⟨by rw[← Hz.out];rfl,B.out⟩
theorem Zwo(n:Nat):∀ ls:List (List Rat),(∀ l∈ls,l.length=n∧∀ q∈l,Sm 30 q)→lgo n (ls.map (List.map qs))=0
 | [],_=>rfl
 | l::ls,h=>by
  have h1:=h l List.mem_cons_self;rw[List.map_cons,lgo,if_pos (Zfc h1.2 h1.1)];exact Zwo n ls fun m hm=>h m (List.mem_cons_of_mem _ hm)
theorem Zu1{ps:List Int}(hp:Vp ps=0){ls:List (List Rat)}(h:∀ l∈ls,l.length=ps.length∧∀ q∈l,Sm 30 q):Zkl ps (ls.map (List.map qs))=0:=by
 unfold Zkl;rw[if_pos hp];exact Zwo _ ls h
open Classical in
theorem Zlw(l:List Rat)(h:∀ q∈l,Sm 400 q):Zaa (l.map qs)=true:=by
 unfold Zaa;rw[List.all_eq_true];intro x hx;obtain⟨q,hq,rfl⟩:=List.mem_map.1 hx;exact decide_eq_true ⟨q,rfl,rfl,h q hq⟩
def Zd0 (f:FuncId) (args:Array Value) (w:World) (l:List Rat):Prop:=if Qy l=true then
  Calls Tryz.prog f args w fun e w'=>∃ a c,e = .returned (.tuple #[.slice a l.length c,.int .i64 0])∧Rd w' a (Kx l)∧Below w.heap.size w w'
 else Zc4 f args w 4
theorem Zk3(w:World)(a0 a1 a2:Option Addr)(c0 c1 c2:Nat)(ps:List Int)(ls:List (List Rat))(fs:List Rat)(rp:Rd w a0 (Vc ps))(hi:Zjq ps)(hp:Vp ps=0)(rl:RdL w a1 (ls.map (List.map qs)))(hl:ls.length≤100)
  (h:∀ l∈ls,l.length=ps.length∧∀ q∈l,Sm 30 q) (rf:Rd w a2 (Kx fs)) (hf:fs.length=ls.length) (hfs:∀ q∈fs,Sm 400 q) (L:Qb w) :
  Zd0 103 #[.slice a0 ps.length c0,.slice a1 ls.length c1,.slice a2 fs.length c2] w (Zg6 ps.length ls fs):=by
 have hn:=Zrl hp;have H1:=hd_ (Zcp w a0 a1 c0 c1 ps (ls.map (List.map qs)) rp hi (by omega) rl (by rw[List.length_map];omega) (by
  intro l hl';obtain⟨m,hm,rfl⟩:=List.mem_map.1 hl';exact⟨by rw[List.length_map,(h m hm).1];omega,Zq2 (h m hm).2⟩) L)
 rw[Zu1 hp h,List.length_map] at H1;have H2:Hid (∀ W,Below w.heap.size w W→Kc Tryz.prog 173 #[.slice a2 fs.length c2,.func (.func 174) #[] #[]] W (.bool false)):=fun W hW=>by
  have:=Zhb W a2 c2 (fs.map qs) (rf.below hW nr_) (by rw[List.length_map];omega) (fun x hx=>by
   obtain⟨q,hq,rfl⟩:=List.mem_map.1 hx;have h1:=Zi2 q.num 400 (by decide) (hfs q hq).1
   have h2:=(Yz q.den 400 (by decide)).2 (hfs q hq).2
   exact⟨by show (itx q.num).size≤_;omega,by show (dec q.den).size≤_;omega⟩) (L.below hW)
  rw[Zlw fs hfs,List.length_map] at this;exact this
 have H3:Hid (∀ W,Below w.heap.size w W→Zh8 97 #[.int .i64 ps.length,.slice a1 ls.length c1,.slice a2 fs.length c2] W (Zg6 ps.length ls fs)):=fun W hW =>
  Zxa W a1 a2 c1 c2 ps.length ls fs 30 400 (rl.below hW nr_) (rf.below hW nr_) (fun l hl'=>(h l hl').1) hf (fun l hl'=>(h l hl').2) hfs (by omega) (by omega) (by
   have:(ls.length+1)*(30+400+1)≤101*(30+400+1):=Nat.mul_le_mul_right _ (by omega)
   omega) (L.below hW)
 have hsl:=Zfu ps.length ls fs (fun l hl'=>(h l hl').1) hf
 have H4:Hid (∀ W a c,Rd W a (Kx (Zg6 ps.length ls fs))→Qy (Zg6 ps.length ls fs)=true→Kc Tryz.prog 175 #[.slice a (Zg6 ps.length ls fs).length c] W (.tuple #[.slice a (Zg6 ps.length ls fs).length c,.int .i64 0])):=fun W a c hr hs=>Zly W a c _ hr (by omega) hs
 have H5:Hid (∀ W a c,Rd W a (Kx (Zg6 ps.length ls fs))→Qy (Zg6 ps.length ls fs)=false→Kc Tryz.prog 175 #[.slice a (Zg6 ps.length ls fs).length c] W (.tuple #[.slice none 0 0,.int .i64 4])):=fun W a c hr hs=>Zlx W a c _ hr (by omega) hs
 unfold Zh8 at H3;clear rp hi hp rl hl h rf hfs L hn hsl;rw[hf] at *
 generalize Zg6 ps.length ls fs=S at *
 generalize ps.length=n at *
 generalize ls.length=k at *
 unfold Zd0 Zc4 Kc
 by_cases hs:Qy S=true
 ·rw[if_pos hs];have Hs:=hd_ hs;clear H5 hs;go_enter Tryz.func103,Tryz.ntmps103
  go_wp2_with fail
  refine cm_ H1.out ?_;rintro e w1 ⟨rfl,hb1⟩;have Hb1:=hd_ hb1;clear hb1 H1
  go_wp2_with fail
  refine cm_ (H2.out _ Hb1.out) ?_;rintro e w2 ⟨rfl,hb2⟩;have Hb2:=hd_ (Hb1.out.trans (hb2.mono Hb1.out.size));clear hb2 H2 Hb1
  go_wp2_with fail
  refine cm_ (H3.out _ Hb2.out) ?_;rintro e w3 ⟨a,c,rfl,ho,hb3⟩;have Hb3:=hd_ (Hb2.out.trans (hb3.mono Hb2.out.size));have Hr:=hd_ ho.rd;clear hb3 H3 Hb2 ho
  go_wp2_with fail
  refine cm_ (H4.out _ _ _ Hr.out Hs.out) ?_;rintro e w4 ⟨rfl,hb4⟩;have Hb4:=hd_ (Hb3.out.trans (hb4.mono Hb3.out.size));have Hr4:=hd_ (Hr.out.below hb4 nr_);clear hb4 H4 Hb3 Hr
  go_wp2_with fail
  go_ret2
  exact⟨a,c,rfl,Hr4.out,Hb4.out⟩
 ·rw[if_neg hs];have Hs:Hid (Qy S=false):=by show _=_;simpa using hs
  clear H4 hs;go_enter Tryz.func103,Tryz.ntmps103
  go_wp2_with fail
  refine cm_ H1.out ?_;rintro e w1 ⟨rfl,hb1⟩;have Hb1:=hd_ hb1;clear hb1 H1
  go_wp2_with fail
  refine cm_ (H2.out _ Hb1.out) ?_;rintro e w2 ⟨rfl,hb2⟩;have Hb2:=hd_ (Hb1.out.trans (hb2.mono Hb1.out.size));clear hb2 H2 Hb1
  go_wp2_with fail
  refine cm_ (H3.out _ Hb2.out) ?_;rintro e w3 ⟨a,c,rfl,ho,hb3⟩;have Hb3:=hd_ (Hb2.out.trans (hb3.mono Hb2.out.size));have Hr:=hd_ ho.rd;clear hb3 H3 Hb2 ho
  go_wp2_with fail
  refine cm_ (H5.out _ _ _ Hr.out Hs.out) ?_;rintro e w4 ⟨rfl,hb4⟩;have Hb4:=hd_ (Hb3.out.trans (hb4.mono Hb3.out.size));clear hb4 H5 Hb3 Hr
  go_wp2_with fail
  go_ret2
  exact⟨rfl,Hb4.out⟩
def Zbg (nu:Nat→Int) (de:Nat→Nat):Array Value := #[.int .i8 (nu 0),.int .u8 (de 0),.int .i8 (nu 1),.int .u8 (de 1),.int .i8 (nu 2),.int .u8 (de 2),.int .i8 (nu 3),.int .u8 (de 3)]
def Zbh (nu:Nat→Int) (de:Nat→Nat) (m:Nat):List Rat:=(List.range m).map fun i=>Zkp (nu i) (de i)
theorem Zbw(nu:Nat→Int)(de:Nat→Nat)(m:Nat):(Zbh nu de m).length=m:=by simp[Zbh]
theorem Zl6(nu:Nat→Int)(de:Nat→Nat)(m:Nat):Zbh nu de (m+1)=Zbh nu de m++[Zkp (nu m) (de m)]:=by simp[Zbh,List.range_succ]
theorem Zl5{w:World}{g:Nat}{nu:Nat→Int}{de:Nat→Nat}{t:TypeId}(h:w.heap[g]?=some (.cells (Zbg nu de) t (0,0)))(k:Nat)(hk:k<4):
  w.cell? ⟨g,k*2,none⟩=some (.int .i8 (nu k))∧w.cell? ⟨g,k*2+1,none⟩=some (.int .u8 (de k)):=by
 have h4:k=0∨k=1∨k=2∨k=3:=by omega
 rcases h4 with rfl|rfl|rfl|rfl<;>exact⟨by rw[cell_of_row w g _ _ t (0,0) h];rfl,by rw[cell_of_row w g _ _ t (0,0) h];rfl⟩
theorem Znu{w:World}{B c:Nat}{a:Option Addr}{l:List Rat}(h:Zc3 w B a c l):w.ownsRow B 42 2 (.slice a l.length c) l.length (Kx l):=by
 have:w.ownsRow B 42 2 (.slice a (l.map qs).length c) (l.map qs).length (Qs (l.map qs)):=h
 rw[List.length_map] at this;exact this
theorem Znt{w:World}{B c:Nat}{a:Option Addr}{l:List Rat}(h:w.ownsRow B 42 2 (.slice a l.length c) l.length (Kx l)):Zc3 w B a c l:=by
 show w.ownsRow B 42 2 (.slice a (l.map qs).length c) (l.map qs).length (Qs (l.map qs))
 rw[List.length_map];exact h
theorem Zut(w:World)(a0:Option Addr)(c0 m:Nat)(hm:m≤4)(nu:Nat→Int)(de:Nat→Nat)(hn:∀ k,-128≤nu k∧nu k≤127)(hd:∀ k,de k<256)(L:Qb w):
  Calls Tryz.prog 33 #[.slice a0 m c0,.agg (Zbg nu de)] w fun e w'=>∃ a c,e = .returned (.slice a m c)∧Zc3 w' w.heap.size a c (Zbh nu de m)∧Below w.heap.size w w':=by
 have HF:Hid (∀ W k,Below w.heap.size w W→Kc Tryz.prog 99 #[.agg #[.int .i8 (nu k),.int .u8 (de k)]] W (fr (Zkp (nu k) (de k)))):=fun W k hW=>Zko W (nu k) (de k) (hn k) (hd k) (L.below hW)
 unfold fr fv at HF;have B0:=hd_ (((Below.refl w.heap.size w).alloc nr_ (.cells (Zbg nu de) 61)).alloc (by simp) (.cells #[] 42))
 have K0:=hd_ (Kl (Qx w (Zbg nu de) 61 _ rfl) (.cells #[] 42));have O0:Hid (Zc3 ((w.alloc (.cells (Zbg nu de) 61)).alloc (.cells #[] 42)) (w.heap.size+1) (some ⟨w.heap.size+1,0,none⟩) 0 (Zbh nu de 0)):=by
  have:=Zkb (w.alloc (.cells (Zbg nu de) 61)) [] (by simp)
  rw[World.size_alloc] at this;exact this
 have Hp0:Hid (Zbg nu de = #[.int .i8 (nu 0),.int .u8 (de 0),.int .i8 (nu 1),.int .u8 (de 1),.int .i8 (nu 2),.int .u8 (de 2),.int .i8 (nu 3),.int .u8 (de 3)]):=hd_ rfl;clear L hn hd;unfold Zbg at *
 go_enter Tryz.func33,Tryz.ntmps33
 go_wp2_with fail
 generalize (w.alloc (.cells #[.int .i8 (nu 0),.int .u8 (de 0),.int .i8 (nu 1),.int .u8 (de 1),.int .i8 (nu 2),.int .u8 (de 2),.int .i8 (nu 3),.int .u8 (de 3)] 61)).alloc (.cells #[] 42)=W0 at *
 go_loopw [5,6] (fun o i wr=>∃ (k:Nat) (b:Option Addr) (d:Nat),k≤m∧i = .int .i64 k∧o = .slice b k d∧Hid (wr.heap[w.heap.size]?=some (.cells #[.int .i8 (nu 0),.int .u8 (de 0),.int .i8 (nu 1),.int .u8 (de 1),.int .i8 (nu 2),.int .u8 (de 2),.int .i8 (nu 3),.int .u8 (de 3)] 61 (0,0)))∧Hid (Zc3 wr (w.heap.size+1) b d (Zbh nu de k))∧Hid (Below w.heap.size w wr)) (fun _ i _=>m-(intOf i).toNat)
 case atStart=>exact⟨0,_,_,Nat.zero_le _,rfl,rfl,K0,O0,B0⟩
 case round =>
  clear B0 K0 O0;obtain⟨k,b,d,hk,rfl,rfl,K,O,B⟩:=hrel
  by_cases hlt:k<m
  ·have hlt':(k:Int)<m:=by omega
   have htm:Int.tmod (k:Int) 4=k:=by rw[Int.tmod_eq_emod_of_nonneg (by omega)];omega
   obtain⟨x0,x1⟩:=Zl5 (nu:=nu) (de:=de) K.out k (by omega)
   have hk4:(0:Int)≤k∧(k:Int)<4:=⟨by omega,by omega⟩
   have Hf:=hd_ (HF.out wr k B.out);have Hs:=hd_ (Zl6 nu de k);generalize Zkp (nu k) (de k)=q at *
   generalize nu k=z at *
   generalize de k=y at *
   go_wp2_with fail
   refine cm_ Hf.out ?_;rintro e w1 ⟨rfl,hb1⟩;have hsz:=(Array.getElem?_eq_some_iff.1 K.out).1;have B1:=hd_ (B.out.trans (hb1.mono B.out.size));have K1:=hd_ (Kd K.out hb1 nr_);have O1:=hd_ (O.out.below hb1 nr_);have S1:=hd_ (Nat.le_trans hsz hb1.size);clear hb1 Hf B K O x0 x1 hsz;have Ow:Hid (w1.ownsRow (w.heap.size+1) 42 2 (.slice b k d) k (Kx (Zbh nu de k))):=by
    have:=Znu O1.out
    rw[Zbw] at this;exact this
   go_wp2_with (at_builtin;refine Km rfl (.tmp 14) (.tmp 20) 38 rfl elQ _ 1 [.string (itx q.num),.string (dec q.den)] rfl rfl Ow.out S1.out rfl (by simp[Value.oneCell']) (by omega) (by omega) ?_)
   intro v' w3 hown3 hg3 hnil3;have hlow:∀ j,j<w.heap.size+1→w3.heap[j]?=w1.heap[j]?:=fun j hj=>by
    have hs1:=S1.out;have hjl:j<w1.heap.size:=by omega
    rw[hg3.block j (by simp;omega) (fun e=>by have:=(Ow.out.lt j e.symm).1;omega)]
    exact((Below.refl w1.heap.size w1).alloc nr_ _).block j hjl
   have K3:Hid (w3.heap[w.heap.size]?=some (.cells #[.int .i8 (nu 0),.int .u8 (de 0),.int .i8 (nu 1),.int .u8 (de 1),.int .i8 (nu 2),.int .u8 (de 2),.int .i8 (nu 3),.int .u8 (de 3)] 61 (0,0))):=by
    show _=_
    rw[hlow _ (by omega)]
    exact K1.out
   have B3:Hid (Below w.heap.size w w3):=(B1.out.alloc B1.out.size _).grown hg3 (by simp;have:=B1.out.size;omega) (fun j hj=>by have:=(Ow.out.lt j hj).1;omega)
   obtain⟨b3,d3,rfl⟩:=Qj hown3;have O3:Hid (Zc3 w3 (w.heap.size+1) b3 d3 (Zbh nu de (k+1))):=by
    refine Znt ?_;rw[Zbw,Hs.out];unfold Kx;rw[List.map_append,Zjh];exact hown3
   clear hown3 hg3 hnil3 hlow B1 K1 O1 S1 Ow
   go_wp2_with fail
   go_roundw
   case rel=>exact⟨k+1,b3,d3,by omega,by go_num,rfl,K3,O3,B3⟩
   case measure=>simp[intOf];omega
  ·have hlt':¬ (k:Int)<m:=by omega
   have hkm:k=m:=by omega
   subst hkm
   go_wp2_with fail
   go_ret;exact⟨b,d,rfl,O.out.lower (by omega),B.out⟩
def Zda (f:FuncId) (args:Array Value) (w:World) (code:Int) (l:List Rat):Prop :=
 Calls Tryz.prog f args w fun e w'=>∃ a c,e = .returned (.tuple #[.slice a (if code=0 then l.length else 0) c,.int .i64 code])∧(code=0→Rd w' a (Kx l))∧Below w.heap.size w w'
def Zdb (l:List Rat):Int:=if Qy l=true then 0 else 4
theorem Zd0.code{f:FuncId}{args:Array Value}{w:World}{l:List Rat}(h:Zd0 f args w l):Zda f args w (Zdb l) l:=by
 unfold Zd0 at h;unfold Zda Zdb
 by_cases hs:Qy l=true
 ·rw[if_pos hs] at h ⊢;refine cm_ h ?_;rintro e w' ⟨a,c,rfl,hr,hb⟩;exact⟨a,c,rfl,fun _=>hr,hb⟩
 ·rw[if_neg hs] at h ⊢;refine cm_ h ?_;rintro e w' ⟨rfl,hb⟩;exact⟨none,0,rfl,fun h4=>absurd h4 (by decide),hb⟩
theorem Zc4.code{f:FuncId}{args:Array Value}{w:World}{code:Int}(hc:code≠0)(l:List Rat)(h:Zc4 f args w code):Zda f args w code l:=by
 unfold Zda;rw[if_neg hc];refine cm_ h ?_;rintro e w' ⟨rfl,hb⟩;exact⟨none,0,rfl,fun h4=>absurd h4 hc,hb⟩
theorem Zda.lower{f:FuncId}{args:Array Value}{w:World}{code:Int}{l:List Rat}(h:Zda f args w code l):∃ z:Nat,Calls Tryz.prog f args w fun e w'=>∃ a c,e = .returned (.tuple #[.slice a z c,.int .i64 code])∧(code=0→Rd w' a (Kx l))∧Below w.heap.size w w':=⟨_,h⟩
theorem Zyh(w:World)(ps:List Int)(a0 a1 a2:Option Addr)(c0 c1 c2:Nat)(la lb:List Rat)(rp:Rd w a0 (Vc ps))(hi:Zjq ps)(hp:Vp ps=0)(r1:Rd w a1 (Kx la))(r2:Rd w a2 (Kx lb))(l1:la.length=ps.length)(l2:lb.length=ps.length)
  (s1:∀ q∈la,Sm 30 q) (s2:∀ q∈lb,Sm 30 q) (L:Qb w) :
  Zda 56 #[.slice a0 ps.length c0,.slice a1 la.length c1,.slice a2 lb.length c2] w (Zdb (Zg6 ps.length [la,lb] [1,((1:Int):Rat)])) (Zg6 ps.length [la,lb] [1,((1:Int):Rat)]):=by
 obtain⟨u,hu⟩:∃ q:Rat,q=1:=⟨_,rfl⟩;obtain⟨v,hv⟩:∃ q:Rat,q=((1:Int):Rat):=⟨_,rfl⟩;rw[← hv,← hu];have Hc:Hid (∀ W g1 g2,Below w.heap.size w W→W.heap[g1]?=some (.cells #[.slice a1 la.length c1,.slice a2 lb.length c2] 38 (0,0))→W.heap[g2]?=some (.cells #[.string (itx u.num),.string (dec u.den),.string (itx v.num),.string (dec v.den)] 42 (0,0)) →
   Zda 103 #[.slice a0 ps.length c0,.slice (some ⟨g1,0,none⟩) 2 2,.slice (some ⟨g2,0,none⟩) 2 2] W (Zdb (Zg6 ps.length [la,lb] [u,v])) (Zg6 ps.length [la,lb] [u,v])):=fun W g1 g2 hW h1 h2 =>
  (Zk3 W a0 _ _ c0 2 2 ps [la,lb] [u,v] (rp.below hW nr_) hi hp (Zl0 (l1:=la.map qs) (l2:=lb.map qs) (by rw[List.length_map,List.length_map];exact h1) (r1.below hW nr_) (r2.below hW nr_)) (by simp)
   (by intro l hl;simp only[List.mem_cons,List.not_mem_nil,or_false] at hl;rcases hl with rfl | rfl;exact⟨l1,s1⟩;exact⟨l2,s2⟩) (Zg h2) rfl
   (by intro q hq;simp only[List.mem_cons,List.not_mem_nil,or_false] at hq;rcases hq with rfl | rfl;subst hu;exact Sm.le (D:=1) ⟨by decide +kernel,by decide +kernel⟩ (by decide);subst hv;exact Sm.le (D:=2) ⟨by decide +kernel,by decide +kernel⟩ (by decide)) (L.below hW)).code
 have N1:Hid (∀ W,Below w.heap.size w W→Kc Tryz.prog 98 #[.int .i64 1] W (fr u)):=fun W hW=>by subst hu;exact Zrr W 1 (by decide) (by decide) (L.below hW)
 have N2:Hid (∀ W,Below w.heap.size w W→Kc Tryz.prog 98 #[.int .i64 1] W (fr v)):=fun W hW=>by subst hv;exact Zrr W 1 (by decide) (by decide) (L.below hW)
 unfold fr fv at N1 N2;unfold Zda at Hc ⊢;clear hu hv rp hi hp r1 r2 l1 l2 s1 s2 L;generalize Zg6 ps.length [la,lb] [u,v]=S at *
 generalize Zdb S=code at *
 generalize (if code=0 then S.length else 0)=z at *
 generalize ps.length=n at *
 generalize la.length=na at *
 generalize lb.length=nb at *
 have B0:=hd_ ((Below.refl w.heap.size w).alloc nr_ (.cells #[.slice a1 na c1,.slice a2 nb c2] 38));have K0:=hd_ (Qx w #[.slice a1 na c1,.slice a2 nb c2] 38 _ rfl);go_enter Tryz.func56,Tryz.ntmps56
 go_wp2_with fail
 generalize w.alloc (.cells #[.slice a1 na c1,.slice a2 nb c2] 38)=w0 at *
 refine cm_ (N1.out _ B0.out) ?_;rintro e w1 ⟨rfl,hb⟩;have B1:=hd_ (B0.out.trans (hb.mono B0.out.size));have K1:=hd_ (Kd K0.out hb nr_);clear hb B0 K0
 go_wp2_with fail
 refine cm_ (N2.out _ B1.out) ?_;rintro e w2 ⟨rfl,hb⟩;have B2:=hd_ (B1.out.trans (hb.mono B1.out.size));have K2:=hd_ (Kd K1.out hb nr_);clear hb B1 K1 N1 N2
 go_wp2_with fail
 have B3:=hd_ (B2.out.alloc B2.out.size (.cells #[.string (itx u.num),.string (dec u.den),.string (itx v.num),.string (dec v.den)] 42));have K3:=hd_ (Kl K2.out (.cells #[.string (itx u.num),.string (dec u.den),.string (itx v.num),.string (dec v.den)] 42));have M3:=hd_ (Qx w2 #[.string (itx u.num),.string (dec u.den),.string (itx v.num),.string (dec v.den)] 42 _ rfl);generalize w2.alloc (.cells #[.string (itx u.num),.string (dec u.den),.string (itx v.num),.string (dec v.den)] 42)=w3 at *
 refine cm_ (Hc.out _ _ _ B3.out K3.out M3.out) ?_;rintro e w4 ⟨a,c,rfl,hr,hb⟩;have Hr:=hd_ hr;have B4:=hd_ (B3.out.trans (hb.mono B3.out.size));clear hr hb Hc B2 K2 B3 K3 M3
 go_wp2_with fail
 go_ret2
 exact⟨a,c,rfl,Hr.out,B4.out⟩
end Go.Proofs.YtnjedhgcfeoemaaGreatDoor

namespace Go.Proofs.YtnjedhgcfeoemaaGreatDoor
open Go.RowKit Go.Proofs.YtnjedhgcfeoemaaGreatDoor.RP
def Yk (la lb:List Rat) (k m:Rat):List Rat:=List.zipWith (fun x y=>x*k+y*m) la lb
theorem Zgq(la lb:List Rat)(k m:Rat)(h:la.length=lb.length):(Yk la lb k m).length=la.length:=by simp[Yk,h]
end Go.Proofs.YtnjedhgcfeoemaaGreatDoor

namespace Go.Proofs.YtnjedhgcfeoemaaGreatDoor
open Go.RowKit
theorem Zt8(n:Nat)(la lb:List Rat)(f g:Rat)(h1:la.length=n)(h2:lb.length=n):Zg6 n [la,lb] [f,g]=Yk la lb f g:=by
 show Zdg (Zdg (List.replicate n 0) la f) lb g=_
 refine List.ext_getElem (by simp[Zdg,Yk,h1,h2]) fun i hi1 hi2=>?_
 simp only[Zdg,Yk,List.getElem_zipWith,List.getElem_replicate,Rat.zero_add]
theorem Zvc(n:Int)(d:Nat):Sm 2 (Zkp n d):=by
 have t1:=Int.tmod_lt_of_pos n (show (0:Int)<41 by decide)
 have t2:=Int.lt_tmod_of_pos n (show (0:Int)<41 by decide)
 have hd:=Zog (d%6);exact Sm.mk' (by omega) (by show _<100;omega) (by show _<100;omega)
theorem Zrm(nu:Nat→Int)(de:Nat→Nat)(m:Nat):∀ q∈Zbh nu de m,Sm 2 q:=by
 intro q hq;obtain⟨i,_,rfl⟩:=List.mem_map.1 hq;exact Zvc _ _
theorem Zm7{la lb:List Rat}{f g:Rat}{D E F G:Nat}(h1:∀ q∈la,Sm D q)(h2:∀ q∈lb,Sm E q)(hf:Sm F f)(hg:Sm G g):∀ q∈Yk la lb f g,Sm ((D+F)+(E+G)+1) q:=by
 intro q hq;obtain⟨i,hi,rfl⟩:=List.mem_iff_getElem.1 hq;simp only[Yk,List.getElem_zipWith];have hi':i<la.length∧i<lb.length:=by simp[Yk] at hi;omega
 exact Sm.add (Sm.mul (h1 _ (List.getElem_mem hi'.1)) hf) (Sm.mul (h2 _ (List.getElem_mem hi'.2)) hg)
theorem Zlp{l:List Rat}{D:Nat}(h:∀ q∈l,Sm D q)(hD:D≤30):Qy l=true:=by
 unfold Qy;rw[List.all_eq_true];intro q hq;exact decide_eq_true ((h q hq).le hD)
theorem Zwd:Sm 1 (1:Rat):=⟨by decide +kernel,by decide +kernel⟩
theorem Zig(la lb:List Rat)(g:Rat)(h1:∀ q∈la,Sm 2 q)(h2:∀ q∈lb,Sm 2 q)(hg:Sm 1 g):Zdb (Yk la lb 1 g)=0:=by
 unfold Zdb;rw[if_pos (Zlp (Zm7 h1 h2 Zwd hg) (by decide))]
end Go.Proofs.YtnjedhgcfeoemaaGreatDoor

namespace Go.Proofs.YtnjedhgcfeoemaaGreatDoor
open Go.RowKit Go.Proofs.YtnjedhgcfeoemaaGreatDoor.RP
structure Zox (w:World) (ps:List Int) (la lb:List Rat) (s t:ByteArray):Prop where
 hi:Zjq ps
 hp:Vp ps=0
 l1:la.length=ps.length
 l2:lb.length=ps.length
 s1:∀ q∈la,Sm 2 q
 s2:∀ q∈lb,Sm 2 q
 hs:s.size≤45
 ht:t.size≤45
 L:Qb w
theorem Zox.add{w W:World}{ps:List Int}{la lb:List Rat}{s t:ByteArray}(H:Zox w ps la lb s t)(hW:Below w.heap.size w W){a0 a1 a2:Option Addr}(c0 c1 c2:Nat)(rp:Rd W a0 (Vc ps))(r1:Rd W a1 (Kx la))(r2:Rd W a2 (Kx lb)):
  Calls Tryz.prog 56 #[.slice a0 ps.length c0,.slice a1 ps.length c1,.slice a2 ps.length c2] W fun e w'=>∃ a c,e = .returned (.tuple #[.slice a ps.length c,.int .i64 0])∧Rd w' a (Kx (Yk la lb 1 1))∧Below W.heap.size W w':=by
 have h:=Zyh W ps a0 a1 a2 c0 c1 c2 la lb rp H.hi H.hp r1 r2 H.l1 H.l2 (fun q hq=>(H.s1 q hq).le (by decide)) (fun q hq=>(H.s2 q hq).le (by decide)) (H.L.below hW)
 rw[show (((1:Int):Rat))=1 from rfl,Zt8 _ _ _ _ _ H.l1 H.l2,Zig la lb 1 H.s1 H.s2 Zwd,H.l1,H.l2] at h
 unfold Zda at h;rw[if_pos rfl,Zgq _ _ _ _ (H.l1.trans H.l2.symm),H.l1] at h;refine cm_ h ?_;rintro e w' ⟨a,c,rfl,hr,hb⟩;exact⟨a,c,rfl,hr rfl,hb⟩
end Go.Proofs.YtnjedhgcfeoemaaGreatDoor

namespace Go.Proofs.YtnjedhgcfeoemaaGreatDoor
open Go.ChangeShapes Go.WideShapes Go.ChangeAt Go.RowKit Go.Joins
theorem Zk6:Tryz.prog.cellsOf 59=2:=by kernel_rfl
theorem Zqc:Tryz.prog.cellsOf 61=8:=by kernel_rfl
theorem Zx8:Tryz.prog.cellsOf 57=1:=by kernel_rfl
theorem Zx7:Tryz.prog.cellsOf 5=1:=by kernel_rfl
section
variable {H:Type} {enc:TypeId×Value→H} {W:World}
theorem Zdo{base fuel:Nat}{sp:Nat→Bool}{held:Bool}{cs:List Value}{x:DataW H×List MemPlace}(h:DataW.trod enc Tryz.prog W base sp held fuel 59 cs=some x):
  ∃ (n:Int) (d:Nat),cs=[.int .i8 n,.int .u8 d]∧(-128≤n∧n≤127)∧d<256:=by
 obtain⟨y0,y1,n,hx,hl,h0,h1⟩:=trod_struct2 Tryz.underlying59 h;rw[Zk6] at hl
 match cs,hl with
 | [c0,c1],_ =>
  simp only[List.drop_zero,List.drop_succ_cons,Zx8,Zx7,List.take_succ_cons,List.take_zero] at h0 h1;obtain⟨a,ha,_,wa⟩:=DataW.trod_int Tryz.underlying57 h0;obtain⟨b,hb,_,wb⟩:=DataW.trod_int Tryz.underlying5 h1;have b1:=bounds_i8 wa;have b2:=bounds_u8 wb;simp only[List.cons.injEq,and_true] at ha hb;refine⟨a,b.toNat,?_,b1,by omega⟩
  rw[ha,hb,show ((b.toNat:Nat):Int)=b by omega]
def Qa6 {α:Type} (a b c d z : α):Nat → α
 | 0=>a | 1=>b | 2=>c | 3=>d | _=>z
theorem Zpj{base fuel:Nat}{sp:Nat→Bool}{held:Bool}{cs:List Value}{x:DataW H×List MemPlace}(h:DataW.trod enc Tryz.prog W base sp held fuel 61 cs=some x):
  ∃ (nu:Nat→Int) (de:Nat→Nat),cs=(Zbg nu de).toList∧(∀ k,-128≤nu k∧nu k≤127)∧(∀ k,de k<256):=by
 obtain⟨xs,m,_,_,hl,hn,hel⟩:=DataW.trod_array Tryz.underlying61 h;rw[Zqc] at hl
 match cs,hl,xs,hn with
 | [c0,c1,c2,c3,c4,c5,c6,c7],_,[x0,x1,x2,x3],_ =>
  have e0:=hel 0 (by decide)
  have e1:=hel 1 (by decide)
  have e2:=hel 2 (by decide)
  have e3:=hel 3 (by decide)
  simp only[Zk6,Nat.zero_mul,Nat.one_mul,Nat.reduceMul,List.drop_zero,List.drop_succ_cons,List.take_succ_cons,List.take_zero] at e0 e1 e2 e3;obtain⟨n0,d0,q0,b0,b0'⟩:=Zdo e0;obtain⟨n1,d1,q1,b1,b1'⟩:=Zdo e1;obtain⟨n2,d2,q2,b2,b2'⟩:=Zdo e2;obtain⟨n3,d3,q3,b3,b3'⟩:=Zdo e3;simp only[List.cons.injEq,and_true] at q0 q1 q2 q3;refine⟨Qa6 n0 n1 n2 n3 0,Qa6 d0 d1 d2 d3 0,?_,?_,?_⟩
  ·rw[q0.1,q0.2,q1.1,q1.2,q2.1,q2.2,q3.1,q3.2];rfl
  ·intro k
   match k with
   | 0=>exact b0
   | 1=>exact b1
   | 2=>exact b2
   | 3=>exact b3
   | k+4=>exact⟨by show -128≤(0:Int);decide,by show (0:Int)≤127;decide⟩
  ·intro k
   match k with
   | 0=>exact b0'
   | 1=>exact b1'
   | 2=>exact b2'
   | 3=>exact b3'
   | k+4=>show 0<256;decide
end
end Go.Proofs.YtnjedhgcfeoemaaGreatDoor

namespace Go.Proofs.YtnjedhgcfeoemaaGreatDoor
open Go.ChangeShapes Go.WideShapes Go.ChangeAt Go.RowKit Go.Joins
theorem Zgw{w:World}{base n:Nat}{a:Addr}{cs:List Value}(h:w.cells? base a n=some cs):cs.length=n∧∀ i,i<n→w.cell? (a.add i)=cs[i]?:=by
 unfold World.cells? at h;split at h
 ·have hl:cs.length=n:=by
   have:=Lib.mapM_length h
   simpa using this
  refine⟨hl,fun i hi=>?_⟩
  obtain⟨b,hb,he⟩:=Lib.mapM_at h i i (by simp[hi])
  rw[hb,he]
 ·cases h
theorem Zgs{α β:Type}{f : β → α}{B : β→Prop}:∀ l:List α,(∀ x∈l,∃ p,x=f p∧B p)→∃ ps:List β,l=ps.map f∧∀ p∈ps,B p
 | [],_=>⟨[],rfl,fun _ h=>by cases h⟩
 | x::l,h=>by
  obtain⟨p,hp,hb⟩:=h x List.mem_cons_self;obtain⟨ps,hps,hbs⟩:=Zgs l fun y hy=>h y (List.mem_cons_of_mem _ hy)
  refine⟨p::ps,by rw[hp,hps];rfl,fun q hq=>?_⟩
  rcases List.mem_cons.1 hq with rfl|hq
  ·exact hb
  ·exact hbs q hq
def RdK (w:World) (k:Nat) (a:Option Addr) (css:List (List Value)):Prop :=
 css=[]∨∃ b off,a=some ⟨b,off,none⟩∧b<w.heap.size∧∀ i (h:i<css.length) j,j<k→w.cell? ⟨b,off+i*k+j,none⟩=css[i][j]?
section
variable {H:Type} {enc:TypeId×Value→H} {W:World}
theorem Ziu{t e:TypeId}{k:Nat}(ht:Tryz.prog.underlying t=some (.slice e))(hk:Tryz.prog.cellsOf e=k)(k0:0<k){Q:List Value→Prop}
  (hQ:∀ (n:Nat) (cs:List Value) (x:DataW H×List MemPlace),DataW.trod enc Tryz.prog W 0 (fun _=>true) true n e cs=some x→Q cs)
  {v:Value} {d:DataW H} {p:List MemPlace} (h:DataW.Trod enc Tryz.prog W 0 (fun _=>true) true t v d p) (hv:∃ a len cap,v = .slice a len cap) :
  ∃ (a:Option Addr) (c:Nat) (css:List (List Value)),v = .slice a css.length c∧RdK W k a css∧(∀ cs∈css,Q cs)∧css.length≤maxLen:=by
 obtain⟨a,len,cap,rfl⟩:=hv;obtain⟨fuel,hf⟩:=h;rcases DataW.trod_slice ht hf with⟨hcs,_⟩|⟨a,len,cap,elems,rest,n,_,hcs,_,hb,hl,hm,hlen,hel,_,_⟩
 ·simp[Value.cells] at hcs;obtain⟨rfl,rfl,rfl⟩:=hcs;exact⟨none,0,[],rfl,.inl rfl,(fun x hx=>by cases hx),Nat.zero_le _⟩
 ·simp[Value.cells] at hcs;obtain⟨rfl,rfl,rfl⟩:=hcs;rw[hk] at hel;have each:∀ i,i<len→∃ cs,W.cells? 0 (a.add (i*k)) k=some cs∧Q cs:=fun i hi=>by
   have h1:=hel i hi;have h2:i<elems.length:=by omega
   rw[List.getElem?_eq_getElem h2,Option.bind_eq_some_iff] at h1;obtain⟨cs,hcs,hx⟩:=h1;exact⟨cs,hcs,hQ _ _ _ hx⟩
  have hlist:∀ m,m≤len→∃ css:List (List Value),css.length=m∧(∀ cs∈css,Q cs)∧∀ i (h:i<css.length),W.cells? 0 (a.add (i*k)) k=some css[i]:=by
   intro m
   induction m with
   | zero=>intro _;exact⟨[],rfl,(fun _ h=>by cases h),fun i h=>absurd h (Nat.not_lt_zero _)⟩
   | succ m ih =>
    intro hm';obtain⟨css,h1,h2,h3⟩:=ih (by omega)
    obtain⟨cs,h4,h5⟩:=each m (by omega)
    refine⟨css++[cs],by simp[h1],?_,?_⟩
    ·intro x hx;rcases List.mem_append.1 hx with hx|hx
     ·exact h2 x hx
     ·rw[List.mem_singleton.1 hx];exact h5
    ·intro i hi;rw[List.length_append,List.length_singleton] at hi
     by_cases him:i<css.length
     ·rw[List.getElem_append_left him];exact h3 i him
     ·have e:i=m:=by omega
      subst e;rw[List.getElem_append_right (by omega)]
      simp only[h1,Nat.sub_self,List.getElem_cons_zero];exact h4
  obtain⟨css,h1,h2,h3⟩:=hlist len nr_;refine⟨some a,cap,css,by rw[h1],?_,h2,by omega⟩
  by_cases h0:len=0
  ·exact .inl (List.eq_nil_of_length_eq_zero (by omega))
  ·obtain⟨b,off,spot⟩:=a;have hc0:=(Zgw (h3 0 (by omega))).2 0 k0
   have hl0:=(Zgw (h3 0 (by omega))).1
   have hspot:spot=none:=by
    rw[List.getElem?_eq_getElem (by omega)] at hc0
    simpa [Addr.add] using World.cell?_spot hc0
   subst hspot;refine .inr ⟨b,off,rfl,?_,fun i hi j hj=>?_⟩
   ·rw[List.getElem?_eq_getElem (by omega)] at hc0
    have:=block_lt_of_cell hc0
    rw[Go.WideShapes.add_plain,Go.WideShapes.add_plain] at this;exact this
   ·have:=(Zgw (h3 i hi)).2 j hj
    rw[Go.WideShapes.add_plain,Go.WideShapes.add_plain] at this;exact this
end
end Go.Proofs.YtnjedhgcfeoemaaGreatDoor

namespace Go.Proofs.YtnjedhgcfeoemaaGreatDoor
open Go.ChangeShapes Go.WideShapes Go.ChangeAt Go.RowKit Go.Joins
theorem Zoo:Tryz.prog.cellsOf 27=3:=by kernel_rfl
theorem Zvw:Tryz.prog.cellsOf 3=1:=by kernel_rfl
section
variable {H:Type} {enc:TypeId×Value→H} {W:World}
end
end Go.Proofs.YtnjedhgcfeoemaaGreatDoor

namespace Go.Proofs.YtnjedhgcfeoemaaGreatDoor
open Go.RowKit
def vW:List Nat→Nat
 | []=>0
 | x::l=>x+18446744073709551616*vW l
theorem Zdj:∀ (a b:List Nat),vW (a++b)=vW a+18446744073709551616^a.length*vW b
 | [],b=>by simp[vW]
 | x::a,b=>by
  simp only[List.cons_append,vW,List.length_cons,Zdj a b,Nat.pow_succ];rw[Nat.mul_add,← Nat.mul_assoc,Nat.mul_comm (18446744073709551616^a.length)];omega
theorem Zw4(a:List Nat)(x:Nat):vW (a++[x])=vW a+18446744073709551616^a.length*x:=by
 rw[Zdj];simp[vW]
theorem Zh9(k:Nat):vW (List.replicate k 0)=0:=by
 induction k with
 | zero=>rfl
 | succ k ih=>rw[List.replicate_succ];simp[vW,ih]
def Wds (l:List Nat):Prop:=∀ x∈l,x<18446744073709551616
theorem Wds.getD{l:List Nat}(h:Wds l)(i:Nat):l.getD i 0<18446744073709551616:=by
 rw[List.getD_eq_getElem?_getD];cases hk:l[i]? with
 | none=>simp
 | some x=>exact h x (List.mem_of_getElem? hk)
theorem Wds.set{l:List Nat}(h:Wds l)(i x:Nat)(hx:x<18446744073709551616):Wds (l.set i x):=fun y hy=>by
 rcases List.mem_or_eq_of_mem_set hy with hy|hy
 ·exact h y hy
 ·rw[hy];exact hx
theorem Wds.take{l:List Nat}(h:Wds l)(k:Nat):Wds (l.take k):=fun x hx=>h x (List.mem_of_mem_take hx)
theorem Wds.append{l m:List Nat}(h:Wds l)(h2:Wds m):Wds (l++m):=fun x hx=>(List.mem_append.1 hx).elim (h x) (h2 x)
theorem Wds.zeros(k:Nat):Wds (List.replicate k 0):=fun x hx=>by rw[List.eq_of_mem_replicate hx];decide
theorem Zo1:∀ {l:List Nat},Wds l→vW l<18446744073709551616^l.length
 | [],_=>by simp[vW]
 | x::l,h=>by
  have h1:=h x List.mem_cons_self;have h2:=Zo1 (l:=l) fun y hy=>h y (List.mem_cons_of_mem _ hy)
  rw[List.length_cons,Nat.pow_succ,vW];omega
theorem Zet(l:List Nat)(k:Nat)(h:k≤l.length):vW l=vW (l.take k)+18446744073709551616^k*vW (l.drop k):=by
 conv=>lhs;rw[← List.take_append_drop k l]
 rw[Zdj,List.length_take,Nat.min_eq_left h]
theorem Zch(l:List Nat)(k:Nat)(h:k<l.length):vW (l.take (k+1))=vW (l.take k)+18446744073709551616^k*l.getD k 0:=by
 have e:l.getD k 0=l[k]:=by rw[List.getD_eq_getElem?_getD,List.getElem?_eq_getElem h];rfl
 rw[List.take_succ_eq_append_getElem h,Zw4,List.length_take,Nat.min_eq_left (Nat.le_of_lt h),e]
theorem Zfk:∀ (l:List Nat) (k x:Nat),k<l.length→vW (l.set k x)+18446744073709551616^k*l.getD k 0=vW l+18446744073709551616^k*x
 | [],k,x,h=>by simp at h
 | y::l,0,x,h=>by simp[vW];omega
 | y::l,k+1,x,h=>by
  have ih:=Zfk l k x (by simpa using h)
  simp only[List.set_cons_succ,vW,List.getD_cons_succ,Nat.pow_succ];rw[Nat.mul_comm (18446744073709551616^k),Nat.mul_assoc,Nat.mul_assoc];omega
theorem Zia{l:List Nat}(h:Wds l){k:Nat}(hk:k≤l.length):vW (l.take k)=vW l%18446744073709551616^k:=by
 have h1:=Zo1 (h.take k);rw[List.length_take,Nat.min_eq_left hk] at h1;rw[Zet l k hk,Nat.add_mul_mod_self_left,Nat.mod_eq_of_lt h1]
theorem Zw5{l:List Nat}(h:Wds l){k:Nat}(hk:k≤l.length):vW (l.drop k)=vW l/18446744073709551616^k:=by
 have h1:=Zo1 (h.take k);rw[List.length_take,Nat.min_eq_left hk] at h1;rw[Zet l k hk,Nat.add_mul_div_left _ _ (Nat.pow_pos (by decide)),Nat.div_eq_of_lt h1,Nat.zero_add]
theorem Zib{l:List Nat}(h:Wds l)(k:Nat):l.getD k 0=vW l/18446744073709551616^k%18446744073709551616:=by
 by_cases hk:k<l.length
 ·rw[← Zw5 h (Nat.le_of_lt hk),List.drop_eq_getElem_cons hk,vW,Nat.add_mul_mod_self_left];have e:l.getD k 0=l[k]:=by rw[List.getD_eq_getElem?_getD,List.getElem?_eq_getElem hk];rfl
  rw[e,Nat.mod_eq_of_lt (h _ (List.getElem_mem hk))]
 ·have h1:=Zo1 h;have h2:18446744073709551616^l.length≤18446744073709551616^k:=Nat.pow_le_pow_right (by decide) (by omega)
  rw[Nat.div_eq_of_lt (by omega),List.getD_eq_getElem?_getD,List.getElem?_eq_none (by omega)];rfl
theorem Zjs{l:List Nat}{X m:Nat}(hl:l.length=m)(h:∀ i,i<m→l.getD i 0=X/18446744073709551616^i%18446744073709551616):vW l=X%18446744073709551616^m:=by
 have key:∀ k,k≤m→vW (l.take k)=X%18446744073709551616^k:=by
  intro k
  induction k with
  | zero=>intro _;simp[vW,Nat.mod_one]
  | succ k ih =>
   intro hk;rw[Zch l k (by omega),ih (by omega),h k (by omega),Nat.pow_succ,Nat.mod_mul]
 have:=key m nr_
 rwa [List.take_of_length_le (by omega)] at this
/-! Squares. -/
theorem Zxb(M q:List Nat)(i m x cc vL:Nat)(hm:m<q.length)(hi:i+m<M.length)
  (h:vW M+18446744073709551616^(i+m)*cc=vL+18446744073709551616^i*(x*vW (q.take m))) :
  vW (M.set (i+m) ((x*q.getD m 0+M.getD (i+m) 0+cc)%18446744073709551616))+18446744073709551616^(i+(m+1))*((x*q.getD m 0+M.getD (i+m) 0+cc)/18446744073709551616) =
   vL+18446744073709551616^i*(x*vW (q.take (m+1))):=by
 have hs:=Zfk M (i+m) ((x*q.getD m 0+M.getD (i+m) 0+cc)%18446744073709551616) hi;rw[Zch q m hm];generalize M.getD (i+m) 0=e at *
 generalize q.getD m 0=y at *
 have hdm:=Nat.mod_add_div (x*y+e+cc) 18446744073709551616;have e1:18446744073709551616^(i+(m+1))*((x*y+e+cc)/18446744073709551616)=18446744073709551616^(i+m)*(18446744073709551616*((x*y+e+cc)/18446744073709551616)):=by
  rw[← Nat.add_assoc,Nat.pow_succ,Nat.mul_assoc]
 have e2:18446744073709551616^(i+m)*((x*y+e+cc)%18446744073709551616)+18446744073709551616^(i+m)*(18446744073709551616*((x*y+e+cc)/18446744073709551616))=18446744073709551616^(i+m)*(x*y)+18446744073709551616^(i+m)*e+18446744073709551616^(i+m)*cc:=by
  rw[← Nat.mul_add,hdm,Nat.mul_add,Nat.mul_add]
 have e3:18446744073709551616^i*(x*(vW (q.take m)+18446744073709551616^m*y))=18446744073709551616^i*(x*vW (q.take m))+18446744073709551616^(i+m)*(x*y):=by
  rw[Nat.mul_add,Nat.mul_add,Nat.pow_add,Nat.mul_assoc,Nat.mul_left_comm x]
 rw[e1,e3];omega
theorem Zyz(L M p q:List Nat)(i cc:Nat)(hi:i<p.length)(hlen:i+q.length<M.length)(hz:M.getD (i+q.length) 0=0)
  (hL:vW L=vW (p.take i)*vW q)
  (h:vW M+18446744073709551616^(i+q.length)*cc=vW L+18446744073709551616^i*(p.getD i 0*vW (q.take q.length))) :
  vW (M.set (i+q.length) cc)=vW (p.take (i+1))*vW q:=by
 have hs:=Zfk M (i+q.length) cc hlen;rw[hz,Nat.mul_zero,Nat.add_zero] at hs;rw[List.take_length] at h;rw[hs,h,hL,Zch p i hi,Nat.add_mul,Nat.mul_assoc]
/-! Shifts. -/
theorem Zxi(X a k:Nat)(ha:a<2^k):a ||| (2^k*X)=a+2^k*X:=by
 have:=Nat.two_pow_add_eq_or_of_lt ha X
 rw[Nat.or_comm,← this,Nat.add_comm]
theorem Zoy(Y r:Nat)(hr:0<r)(h64:r<64):(Y%18446744073709551616)/2^r ||| (Y/18446744073709551616%18446744073709551616*2^(64-r)%18446744073709551616)=Y/2^r%18446744073709551616:=by
 have hB:(18446744073709551616:Nat)=2^(64-r)*2^r:=by rw[← Nat.pow_add,show 64-r+r=64 by omega]
 have h2r:0<2^r:=Nat.two_pow_pos r;have ha:(Y%18446744073709551616)/2^r<2^(64-r):=by
  rw[Nat.div_lt_iff_lt_mul h2r,← hB];exact Nat.mod_lt _ (by decide)
 generalize hb:Y/18446744073709551616%18446744073709551616=b;have e1:b*2^(64-r)%18446744073709551616=2^(64-r)*(b%2^r):=by
  conv=>lhs;rw[hB]
  rw[Nat.mul_comm b,Nat.mul_mod_mul_left]
 rw[e1,Zxi _ _ _ ha];have e2:Y/2^r=(Y%18446744073709551616)/2^r+2^(64-r)*(Y/18446744073709551616):=by
  have h1:Y=Y%18446744073709551616+2^r*(2^(64-r)*(Y/18446744073709551616)):=by
   rw[← Nat.mul_assoc,Nat.mul_comm (2^r),← hB];exact(Nat.mod_add_div _ _).symm
  conv=>lhs;rw[h1]
  rw[Nat.add_mul_div_left _ _ h2r]
 rw[e2];have e3:b%2^r=Y/18446744073709551616%2^r:=by
  rw[← hb,Nat.mod_mod_of_dvd];rw[hB];exact Nat.dvd_mul_left _ _
 rw[e3];generalize (Y%18446744073709551616)/2^r=a at *
 generalize Y/18446744073709551616=Z;have e4:(a+2^(64-r)*Z)%18446744073709551616=a+2^(64-r)*(Z%2^r):=by
  rw[hB,Nat.mod_mul,Nat.add_mul_mod_self_left,Nat.mod_eq_of_lt ha,Nat.add_mul_div_left _ _ (Nat.two_pow_pos _),Nat.div_eq_of_lt ha,Nat.zero_add]
 rw[e4]
theorem Zlq(N wo r i:Nat):N/2^(64*wo+r)/18446744073709551616^i=N/18446744073709551616^(i+wo)/2^r:=by
 have e:(18446744073709551616:Nat)=2^64:=by decide
 rw[e,← Nat.pow_mul,← Nat.pow_mul,Nat.div_div_eq_div_mul,Nat.div_div_eq_div_mul,← Nat.pow_add,← Nat.pow_add];congr 2;omega
theorem Zpa(N i:Nat):N/18446744073709551616^(i+1)=N/18446744073709551616^i/18446744073709551616:=by
 rw[Nat.pow_succ,Nat.div_div_eq_div_mul]
def shW (n:List Nat) (wo r m:Nat):List Nat:=(List.range m).map fun i=>if r=0 then n.getD (i+wo) 0 else n.getD (i+wo) 0/2^r ||| (n.getD (i+wo+1) 0*2^(64-r)%18446744073709551616)
theorem Vi(n:List Nat)(wo r m:Nat):(shW n wo r m).length=m:=by simp[shW]
theorem Zq6(n:List Nat)(wo r m i:Nat)(h:i<m):(shW n wo r m).getD i 0=if r=0 then n.getD (i+wo) 0 else n.getD (i+wo) 0/2^r ||| (n.getD (i+wo+1) 0*2^(64-r)%18446744073709551616):=by
 unfold shW;rw[List.getD_eq_getElem?_getD,List.getElem?_map,List.getElem?_range h];rfl
theorem Zj3{n:List Nat}(h:Wds n){wo r m i:Nat}(hr:r<64)(hi:i<m):(shW n wo r m).getD i 0=vW n/2^(64*wo+r)/18446744073709551616^i%18446744073709551616:=by
 rw[Zq6 n wo r m i hi,Zlq]
 by_cases h0:r=0
 ·rw[if_pos h0,h0,Zib h,Nat.pow_zero,Nat.div_one]
 ·rw[if_neg h0,Zib h,Zib h (i+wo+1),Zpa];exact Zoy _ r (by omega) hr
theorem Zlr{n:List Nat}(h:Wds n){wo r m:Nat}(hr:r<64):Wds (shW n wo r m):=by
 intro x hx;obtain⟨i,hi,rfl⟩:=List.mem_iff_getElem.1 hx;rw[Vi] at hi;have e:=Zj3 h (wo:=wo) hr hi;rw[List.getD_eq_getElem?_getD,List.getElem?_eq_getElem (by rw[Vi];exact hi)] at e
 have e':(shW n wo r m)[i]=vW n/2^(64*wo+r)/18446744073709551616^i%18446744073709551616:=e;rw[e'];exact Nat.mod_lt _ (by decide)
theorem Zls{n:List Nat}(h:Wds n){wo r m:Nat}(hr:r<64)(hm:n.length≤wo+m):vW (shW n wo r m)=vW n/2^(64*wo+r):=by
 rw[Zjs (Vi n wo r m) fun i hi=>Zj3 h hr hi]
 refine Nat.mod_eq_of_lt ?_;have h1:=Zo1 h;have h2:18446744073709551616^n.length≤18446744073709551616^(wo+m):=Nat.pow_le_pow_right (by decide) hm
 have e:(18446744073709551616:Nat)=2^64:=by decide
 have h3:vW n/2^(64*wo+r)≤vW n/2^(64*wo):=Nat.div_le_div_left (Nat.pow_le_pow_right (by decide) (by omega)) (Nat.two_pow_pos _)
 refine Nat.lt_of_le_of_lt h3 ?_;rw[Nat.div_lt_iff_lt_mul (Nat.two_pow_pos _),Nat.pow_mul,← e,← Nat.pow_add,Nat.add_comm m];omega
theorem Zfj:∀ (l:List Nat),vW l=0↔∀ x∈l,x=0
 | []=>by simp[vW]
 | x::l=>by
  have:=Zfj l
  rw[vW];constructor
  ·intro h y hy;rcases List.mem_cons.1 hy with rfl|hy
   ·omega
   ·exact this.1 (by omega) y hy
  ·intro h;have h1:=h x List.mem_cons_self;have h2:=this.2 fun y hy=>h y (List.mem_cons_of_mem _ hy)
   omega
/-! One more. -/
theorem Zrt(M:List Nat)(N k cc:Nat)(hk:k<M.length)(h:vW M+18446744073709551616^k*cc=N):
  vW (M.set k ((M.getD k 0+cc)%18446744073709551616))+18446744073709551616^(k+1)*((M.getD k 0+cc)/18446744073709551616)=N:=by
 have hs:=Zfk M k ((M.getD k 0+cc)%18446744073709551616) hk;generalize M.getD k 0=e at *
 have hdm:=Nat.mod_add_div (e+cc) 18446744073709551616;have e1:18446744073709551616^(k+1)*((e+cc)/18446744073709551616)=18446744073709551616^k*(18446744073709551616*((e+cc)/18446744073709551616)):=by
  rw[Nat.pow_succ,Nat.mul_assoc]
 have e2:18446744073709551616^k*((e+cc)%18446744073709551616)+18446744073709551616^k*(18446744073709551616*((e+cc)/18446744073709551616))=18446744073709551616^k*e+18446744073709551616^k*cc:=by
  rw[← Nat.mul_add,hdm,Nat.mul_add]
 rw[e1];omega
theorem elN:Zbp Tryz.prog 272 193 (.int .u64 0) 1 8:=⟨Tryz.underlying272,info_parts Zmp,rfl,by decide⟩
theorem Zr3(n:Nat)(w:World)(hn:n≤100000000):
  (Instr.makeSlice 272 (.int .i64 (n:Int)) (.int .i64 (n:Int))).run Tryz.prog w = .ok (.slice (some ⟨w.heap.size,0,none⟩) n n) (w.alloc (.cells (Zs (List.replicate n 0)).toArray 193)):=by
 have:=run_make_row' (P:=Tryz.prog) 272 193 (.int .u64 0) 8 Tryz.underlying272 Zmp rfl .i64 .i64 n (by omega) (by omega) w
 rw[Zhu] at this;exact this
structure NW (W:World) where
 w:World
 b:Below W.heap.size W w
theorem NW.cell{W:World}{p:Addr}{v:Value}(h:W.cell? p=some v)(q:NW W):q.w.cell? p=some v:=(q.b.cell (block_lt_of_cell h)).trans h
def Zmk:Go.Shelf.Ren:=⟨fun | 25=>248 | n=>n,fun | 22=>193 | n=>n,fun | n=>n⟩
theorem Zxs:Go.Proofs.Lays7.n25 Tryz.prog Zmk:={
 mixed:=by kernel_rfl
 f25:=Tryz.func248.trans (congrArg some (by kernel_rfl))
 t22:=Tryz.underlying193
 a22:=Tryz.isAgg193
 z22:=Tryz.sizeOf193
 v22:=Tryz.zeroValue193
 i22:=by kernel_rfl }
theorem Zlf(x y c:Nat)(hc:c≤1)(w:World):
  (callFunc 248 #[.int .u64 x,.int .u64 y,.int .u64 c]).run Tryz.prog w = .ok (.value (.tuple #[.int .u64 (((x+y+c)%18446744073709551616:Nat):Int),.int .u64 (((x+y+c)/18446744073709551616:Nat):Int)])) w:=Any7.bits_Add64 Zxs x y c hc w
theorem Zh7(x y:Nat)(w:World):
  (callFunc 248 #[.int .u64 x,.int .u64 y,.int .u64 0]).run Tryz.prog w = .ok (.value (.tuple #[.int .u64 (((x+y)%18446744073709551616:Nat):Int),.int .u64 (((x+y)/18446744073709551616:Nat):Int)])) w:=Zlf x y 0 (by omega) w
structure Qbc (p:List Nat) (B k:Nat) (L:List Nat) (w wr:World):Prop where
 len:L.length=2*p.length+1
 pcs:Wds L
 v:vW L=vW (p.take k)*vW p
 z:∀ j,k+p.length≤j→L.getD j 0=0
 own:Qv wr B (some ⟨B,0,none⟩) (2*p.length+1) L
 bel:Below B w wr
structure QIn (p L:List Nat) (B i m cc:Nat) (M:List Nat) (w wr:World):Prop where
 len:M.length=2*p.length+1
 pcs:Wds M
 v:vW M+18446744073709551616^(i+m)*cc=vW L+18446744073709551616^i*(p.getD i 0*vW (p.take m))
 z:∀ j,i+p.length≤j→M.getD j 0=0
 own:Qv wr B (some ⟨B,0,none⟩) (2*p.length+1) M
 bel:Below B w wr
theorem Zxm{x y:Nat}(hx:x<18446744073709551616)(hy:y<18446744073709551616):x*y≤340282366920938463426481119284349108225:=Nat.mul_le_mul (show x≤18446744073709551615 by omega) (show y≤18446744073709551615 by omega)
structure SqW (xy e cc h l l1 c1 h1 l2 c2 h2:Nat):Prop where
 hh:xy/18446744073709551616=h
 hl:xy%18446744073709551616=l
 k1:(l+e)%18446744073709551616=l1
 k2:(l+e)/18446744073709551616=c1
 k3:h+c1=h1
 k4:(l1+cc)%18446744073709551616=l2
 k5:(l1+cc)/18446744073709551616=c2
 k6:h1+c2=h2
 r1:(xy+e+cc)%18446744073709551616=l2
 r2:(xy+e+cc)/18446744073709551616=h2
 b1:h1<18446744073709551616
 b2:h2<18446744073709551616
theorem sqW{xy e cc:Nat}(hxy:xy≤340282366920938463426481119284349108225)(he:e<18446744073709551616)(hc:cc<18446744073709551616):
  ∃ h l l1 c1 h1 l2 c2 h2,SqW xy e cc h l l1 c1 h1 l2 c2 h2:=by
 refine⟨_,_,_,_,_,_,_,_,⟨rfl,rfl,rfl,rfl,rfl,rfl,rfl,rfl,?_,?_,?_,?_⟩⟩<;>omega
theorem Zhk(w:World)(a1:Option Addr)(c1:Nat)(p:List Nat)(h1:Qm w a1 p)(p1:Wds p)(l1:p.length≤10000):
  Calls Tryz.prog 223 #[.slice a1 p.length c1] w fun e w'=>∃ a c L,e = .returned (.slice a (2*p.length+1) c)∧L.length=2*p.length+1∧Qv w' w.heap.size a c L∧Wds L∧vW L=vW p*vW p∧Below w.heap.size w w':=by
 have H1:=hd_ h1;have P1:=hd_ p1;clear h1 p1;obtain⟨n,hn⟩:∃ n,p.length=n:=⟨_,rfl⟩;have Hn:=hd_ hn;rw[hn] at l1 ⊢;clear hn;have hmk:=Zr3 (2*n+1) w (by omega)
 have Hown:=hd_ (Zbx w (List.replicate (2*n+1) 0) (by simp;omega))
 have Hb:=hd_ ((Below.refl w.heap.size w).alloc nr_ (.cells (Zs (List.replicate (2*n+1) 0)).toArray 193))
 push_cast at hmk
 generalize w.alloc (.cells (Zs (List.replicate (2*n+1) 0)).toArray 193)=w1 at *
 go_enter Tryz.func223,Tryz.ntmps223
 go_wp2_with fail
 go_loopw [19] (fun i wr=>∃ (k:Nat) (L:List Nat),k≤n∧i = .int .i64 k∧Hid (Qbc p w.heap.size k L w wr)) (fun i _=>n-(intOf i).toNat)
 case atStart =>
  refine⟨0,List.replicate (2*n+1) 0,Nat.zero_le _,rfl,?_⟩;refine⟨by simp[Hn.out],Wds.zeros _,by simp[Zh9,vW],fun j _=>?_,?_,Hb.out⟩
  ·rw[List.getD_eq_getElem?_getD,List.getElem?_replicate];split<;>rfl
  ·have:=Hown.out
   rw[List.length_replicate] at this;rw[Hn.out];exact this
 case round =>
  obtain⟨k,L,hk,rfl,HT⟩:=hrel;clear Hown Hb hmk
  by_cases hlt:k<n
  ·obtain⟨b1,o1,rfl,hb1,hc1⟩:=H1.out.open (by rw[Hn.out];omega)
   have cx:=hc1 k (by rw[Hn.out];exact hlt)
   rw[← HT.out.bel.cell (p:=⟨b1,o1+k,none⟩) hb1] at cx;have hx:=P1.out.getD k;clear hc1;obtain⟨x,hxx⟩:∃ x,p.getD k 0=x:=⟨_,rfl⟩;rw[hxx] at cx hx;have Hxx:=hd_ hxx;clear hxx;obtain⟨wo,hwo⟩:∃ wo:World,wo=wr:=⟨_,rfl⟩;subst hwo
   go_wp2_with fail
   go_loopw [6,26] (fun c j wr=>∃ (t cc:Nat) (M:List Nat),t≤n∧cc<18446744073709551616∧j = .int .i64 t∧c = .int .u64 cc∧Hid (QIn p L w.heap.size k t cc M w wr)) (fun _ j _=>n-(intOf j).toNat)
   case atStart =>
    refine⟨0,0,L,Nat.zero_le _,by omega,rfl,rfl,?_⟩
    exact⟨HT.out.len,HT.out.pcs,by simp[vW],HT.out.z,HT.out.own,HT.out.bel⟩
   case round =>
    obtain⟨t,cc,M,ht,hcc,rfl,rfl,HI⟩:=hrel;obtain⟨g,hg,hg1,hg2,hg3,hg4,hg5⟩:=HI.out.own.open (by rw[HI.out.len,Hn.out];omega)
    obtain rfl:w.heap.size=g:=by simpa using hg
    clear hg
    by_cases hlt2:t<n
    ·have cy0:=H1.out.open (by rw[Hn.out];omega)
     obtain⟨b2,o2,e2,hb2,hc2⟩:=cy0;have cy:=hc2 t (by rw[Hn.out];exact hlt2)
     rw[← HI.out.bel.cell (p:=⟨b2,o2+t,none⟩) hb2] at cy;simp only[Option.some.injEq,Addr.mk.injEq,and_true] at e2;obtain⟨rfl,rfl⟩:=e2;have hy:=P1.out.getD t;have ce:=hg4 (k+t) (by rw[HI.out.len,Hn.out];omega)
     have he:=HI.out.pcs.getD (k+t);have fe:=hg5 (k+t);have hxy:=Zxm hx hy;have hstep:=Zxb M p k t x cc (vW L) (by rw[Hn.out];exact hlt2) (by rw[HI.out.len,Hn.out];omega) (by have:=HI.out.v;rw[Hxx.out] at this;exact this)
     have HI2:Hid (QIn p L w.heap.size k (t+1) ((x*p.getD t 0+M.getD (k+t) 0+cc)/18446744073709551616) (M.set (k+t) ((x*p.getD t 0+M.getD (k+t) 0+cc)%18446744073709551616)) w (wr.setCell ⟨w.heap.size,k+t,none⟩ (.int .u64 ((x*p.getD t 0+M.getD (k+t) 0+cc)%18446744073709551616:Nat)))) :=
      ⟨by rw[List.length_set];exact HI.out.len,HI.out.pcs.set _ _ (Nat.mod_lt _ (by decide)),by rw[Hxx.out];exact hstep,fun j hj=>by rw[Ya _ _ _ _ (by have:=Hn.out;omega)];exact HI.out.z j hj,HI.out.own.store (k+t) _,HI.out.bel.setCell (p:=⟨w.heap.size,k+t,none⟩) nr_ _⟩
     have hm1:=Tryz.bits_Mul64 x (p.getD t 0) hx hy wr;clear hstep hc2 hg4 hg5;generalize M.getD (k+t) 0=e at *
     generalize p.getD t 0=y at *
     generalize x*y=xy at *
     obtain⟨h,l,l1',c1',h1',l2,c2,h2,W⟩:=sqW hxy he hcc;have ha1:=fun W=>Zh7 l e W
     have ha2:=fun W=>Zh7 l1' cc W
     rw[W.k1,W.k2] at ha1;rw[W.k4,W.k5] at ha2;rw[W.hh,W.hl] at hm1;rw[W.r1,W.r2] at HI2;have hw1:IntKind.u64.wrap ((h:Int)+c1')=(h1':Nat):=by rw[← Int.natCast_add,W.k3];exact Zac _ W.b1
     have hw2:IntKind.u64.wrap ((h1':Int)+c2)=(h2:Nat):=by rw[← Int.natCast_add,W.k6];exact Zac _ W.b2
     have hb2:=W.b2;have hkt:IntKind.i64.wrap ((k:Int)+t)=((k+t:Nat):Int):=by rw[← Int.natCast_add];exact iw_ _ (by omega)
     clear W hxy hx hy he
     go_wp2_with fail
     refine cm_ hm1 ?_;rintro e_ w3 ⟨rfl,rfl⟩;clear hm1;go_wp2
     go_roundw
     case rel=>exact⟨t+1,h2,_,by omega,hb2,by go_num,rfl,HI2⟩
     case measure=>simp[intOf];omega
    ·obtain rfl:t=n:=by omega
     have fe:=hg5 (k+t);have ce:=hg4 (k+t) (by rw[HI.out.len,Hn.out];omega)
     have hz:M.getD (k+t) 0=0:=HI.out.z _ (by rw[Hn.out];exact Nat.le_refl _)
     have hrow:=Zyz L M p p k cc (by rw[Hn.out];exact hlt) (by rw[HI.out.len,Hn.out];omega) (HI.out.z _ nr_) HT.out.v (by rw[Hn.out];exact HI.out.v)
     rw[Hn.out] at hrow;have HT2:Hid (Qbc p w.heap.size (k+1) (M.set (k+t) cc) w (wr.setCell ⟨w.heap.size,k+t,none⟩ (.int .u64 (cc:Nat)))) :=
      ⟨by rw[List.length_set];exact HI.out.len,HI.out.pcs.set _ _ hcc,hrow,fun j hj=>by rw[Ya _ _ _ _ (by have:=Hn.out;omega)];exact HI.out.z j (by have:=Hn.out;omega),HI.out.own.store (k+t) cc,HI.out.bel.setCell (p:=⟨w.heap.size,k+t,none⟩) nr_ _⟩
     rw[hz] at ce;have hkt:IntKind.i64.wrap ((k:Int)+t)=((k+t:Nat):Int):=by rw[← Int.natCast_add];exact iw_ _ (by omega)
     have hwc:IntKind.u64.wrap (cc:Int)=cc:=Zac _ hcc;clear hrow hg4 hg5 hlt2 HT hz;go_wp2
     go_roundw
     case rel=>exact⟨k+1,_,by omega,by go_num,HT2⟩
     case measure=>simp[intOf];omega
  ·obtain rfl:k=n:=by omega
   have hv:vW L=vW p*vW p:=by
    have:=HT.out.v
    rw[← Hn.out,List.take_length] at this;exact this
   have hlen:=HT.out.len;rw[Hn.out] at hlen;have Hv:=hd_ hv;have Hl:=hd_ hlen;have Ho:=HT.out.own;rw[Hn.out] at Ho;have HO:=hd_ Ho;clear hv hlt hlen Ho
   go_wp2_with fail
   go_ret;exact⟨_,_,L,rfl,Hl.out,HO.out,HT.out.pcs,Hv.out,HT.out.bel⟩
def shM (n:List Nat) (wo r m k:Nat):List Nat:=(shW n wo r m).take k++List.replicate (m-k) 0
theorem Zua(n:List Nat)(wo r m:Nat):shM n wo r m 0=List.replicate m 0:=by simp[shM]
theorem Zxd(n:List Nat)(wo r m:Nat):shM n wo r m m=shW n wo r m:=by
 unfold shM;rw[Nat.sub_self,List.replicate_zero,List.append_nil,List.take_of_length_le (by rw[Vi];exact Nat.le_refl _)]
theorem Zhm(n:List Nat)(wo r m k:Nat)(h:k≤m):(shM n wo r m k).length=m:=by
 unfold shM;rw[List.length_append,List.length_take,Vi,List.length_replicate];omega
theorem Zxc(n:List Nat)(wo r m k:Nat)(h:k<m):(shM n wo r m k).set k ((shW n wo r m).getD k 0)=shM n wo r m (k+1):=by
 have hl:((shW n wo r m).take k).length=k:=by rw[List.length_take,Vi];omega
 unfold shM;rw[List.set_append_right _ _ (by omega),hl,Nat.sub_self,List.take_add_one,List.getElem?_eq_getElem (by rw[Vi];exact h),show m-k=(m-(k+1))+1 by omega,List.replicate_succ,List.set_cons_zero,List.append_assoc]
 congr 1;rw[List.getD_eq_getElem?_getD,List.getElem?_eq_getElem (by rw[Vi];exact h)]
 rfl
theorem Zuf(x y r:Nat)(hx:x<18446744073709551616):
  bits .or .u64 ((x:Int)/2^r) (IntKind.u64.wrap ((y:Int)*2^(64-r)))=((x/2^r ||| (y*2^(64-r)%18446744073709551616):Nat):Int):=by
 have e1:(x:Int)/2^r=((x/2^r:Nat):Int):=by
  rw[Int.natCast_ediv,Int.natCast_pow];rfl
 have e2:IntKind.u64.wrap ((y:Int)*2^(64-r))=((y*2^(64-r)%18446744073709551616:Nat):Int):=by
  rw[IntKind.wrap_u64,Int.natCast_emod,Int.natCast_mul,Int.natCast_pow];rfl
 rw[e1,e2];exact(bits_nat .u64 64 (by decide) (fun n h0 h1=>by rw[IntKind.wrap_u64];omega) (x/2^r) (y*2^(64-r)%18446744073709551616) (by have:=Nat.div_le_self x (2^r);omega) (by have:=Nat.mod_lt (y*2^(64-r)) (show 0<18446744073709551616 by decide);omega)).2
theorem Zf1(w:World)(a1:Option Addr)(c1:Nat)(p:List Nat)(b wo r:Nat)(e:b=64*wo+r)(hr:r<64)(h1:Qm w a1 p)(p1:Wds p)(l1:p.length≤30000)(hwo:wo<p.length):
  Calls Tryz.prog 224 #[.slice a1 p.length c1,.int .i64 b] w fun e w'=>∃ a c,e = .returned (.slice a (p.length-wo) c)∧Qv w' w.heap.size a c (shW p wo r (p.length-wo))∧Below w.heap.size w w':=by
 have H1:=hd_ h1;have P1:=hd_ p1;clear h1 p1;obtain⟨n,hn⟩:∃ n,p.length=n:=⟨_,rfl⟩;have Hn:=hd_ hn;rw[hn] at l1 hwo ⊢;clear hn;obtain⟨m,hm⟩:∃ m,n-wo=m:=⟨_,rfl⟩;have hq:Int.tdiv (b:Int) 64=(wo:Nat):=by rw[Int.tdiv_eq_ediv_of_nonneg (by omega)];omega
 have hq':(b:Int)/64=(wo:Nat):=by omega
 have ht:Int.tmod (b:Int) 64=(r:Nat):=by rw[Int.tmod_eq_emod_of_nonneg (by omega)];omega
 have ht':(b:Int)%64=(r:Nat):=by omega
 have hws:IntKind.i64.wrap ((n:Int)-wo)=(n:Int)-wo:=iw_ _ (by omega)
 have hnm:((m:Nat):Int)=(n:Int)-wo:=by omega
 have hmx:max ((n:Int)-wo) 0=(n:Int)-wo:=by omega
 have hmk:=Zr3 m w (by omega)
 rw[hnm] at hmk;have Hown:=hd_ (Zbx w (List.replicate m 0) (by simp;omega))
 have Hb:=hd_ ((Below.refl w.heap.size w).alloc nr_ (.cells (Zs (List.replicate m 0)).toArray 193));generalize w.alloc (.cells (Zs (List.replicate m 0)).toArray 193)=w1 at *
 rw[List.length_replicate] at Hown;rw[hm];clear e;go_enter Tryz.func224,Tryz.ntmps224
 go_wp2_with fail
 go_loopw [21] (fun i wr=>∃ k:Nat,k≤m∧i = .int .i64 k∧Hid (Qv wr w.heap.size (some ⟨w.heap.size,0,none⟩) m (shM p wo r m k))∧Hid (Below w.heap.size w wr)) (fun i _=>m-(intOf i).toNat)
 case atStart=>exact⟨0,Nat.zero_le _,rfl,by rw[Zua];exact Hown,Hb⟩
 case round =>
  obtain⟨k,hk,rfl,HO,HB⟩:=hrel;clear Hown Hb hmk
  by_cases hlt:k<m
  ·have hlt':(k:Int)<m:=by omega
   obtain⟨b1,o1,rfl,hb1,hc1⟩:=H1.out.open (by rw[Hn.out];omega)
   have cx:=hc1 (k+wo) (by rw[Hn.out];omega)
   rw[← HB.out.cell (p:=⟨b1,o1+(k+wo),none⟩) hb1] at cx;have hx:=P1.out.getD (k+wo);obtain⟨g,hg,hg1,hg2,hg3,hg4,hg5⟩:=HO.out.open (by rw[Zhm _ _ _ _ _ hk];omega)
   obtain rfl:w.heap.size=g:=by simpa using hg
   clear hg;have ce:=hg4 k (by rw[Zhm _ _ _ _ _ hk];omega)
   have fe:=hg5 k;have hkw:IntKind.i64.wrap ((k:Int)+wo)=((k+wo:Nat):Int):=by rw[← Int.natCast_add];exact iw_ _ (by omega)
   have hget:=Zq6 p wo r m k hlt;have hset:=Zxc p wo r m k hlt;have hev:((p.getD (k+wo) 0:Nat):Int)/2^r=((p.getD (k+wo) 0/2^r:Nat):Int):=by rw[Int.natCast_ediv,Int.natCast_pow];rfl
   have hvx:p.getD (k+wo) 0/2^r≤p.getD (k+wo) 0:=Nat.div_le_self _ _;have Hv:=hd_ (show (r=0→p.getD (k+wo) 0/2^r=p.getD (k+wo) 0) from fun h=>by rw[h,Nat.pow_zero,Nat.div_one])
   have Hor:=hd_ (fun y=>Zuf (p.getD (k+wo) 0) y r hx)
   have hcy:k+wo+1<n→wr.cell? ⟨b1,o1+(k+wo+1),none⟩=some (.int .u64 (p.getD (k+wo+1) 0:Nat)):=fun h=>by
    rw[HB.out.cell (p:=⟨b1,o1+(k+wo+1),none⟩) hb1];exact hc1 (k+wo+1) (by rw[Hn.out];exact h)
   have hb1':b1<wr.heap.size:=Nat.lt_of_lt_of_le hb1 HB.out.size;have hne:b1≠w.heap.size:=by omega
   have HB1:=fun (u:Value)=>HB.out.setCell (p:=⟨w.heap.size,k,none⟩) nr_ u
   have HO1:=hd_ (HO.out.store k (p.getD (k+wo) 0/2^r));clear hc1 hg4 hg5 hg3 hlt';generalize p.getD (k+wo) 0=x at *
   generalize x/2^r=v at *
   by_cases h1:r=0
   ·have hE:(shW p wo r m).getD k 0=v:=by rw[hget,if_pos h1];exact(Hv.out h1).symm
    rw[hE] at hset;rw[hset] at HO1;have h0:¬ (0:Int)<r:=by omega
    have HR:=hd_ (HB1 (.int .u64 v));clear hget hset hE HB1 Hor Hv hcy HO HB h1
    go_wp2_with fail
    refine⟨⟨k+1,by omega,by go_num,HO1,HR⟩,by simp[intOf];omega⟩
   ·by_cases h2:k+wo+1<n
    ·have cy:=hcy h2;have hE:=hget;rw[if_neg h1] at hE;have hbits:=Hor.out (p.getD (k+wo+1) 0);have hy:=P1.out.getD (k+wo+1);rw[hev] at hbits;have h0:(0:Int)<r:=by omega
     have h2':(k:Int)+wo+1<n:=by omega
     have hkw1:IntKind.i64.wrap (((k+wo:Nat):Int)+1)=((k+wo+1:Nat):Int):=by rw[← Int.natCast_succ];exact iw_ _ (by omega)
     have h64:IntKind.i64.wrap (64-(r:Int))=((64-r:Nat):Int):=by rw[show (64:Int)-r=((64-r:Nat):Int) by omega];exact iw_ _ (by omega)
     generalize p.getD (k+wo+1) 0=y at *
     have ce1:(wr.setCell ⟨w.heap.size,k,none⟩ (.int .u64 (v:Nat))).cell? ⟨w.heap.size,k,none⟩=some (.int .u64 (v:Nat)):=World.cell?_setCell_same _ _ _ ce;have fe1:(wr.setCell ⟨w.heap.size,k,none⟩ (.int .u64 (v:Nat))).frozen? ⟨w.heap.size,k,none⟩=false:=by rw[World.frozen?_setCell];exact fe
     have cy1:(wr.setCell ⟨w.heap.size,k,none⟩ (.int .u64 (v:Nat))).cell? ⟨b1,o1+(k+wo+1),none⟩=some (.int .u64 (y:Nat)):=by
      rw[World.cell?_setCell_other _ _ _ _ (by simp)];exact cy
     have HBv:=hd_ (HB1 (.int .u64 (v:Nat)));have HE:=hd_ hE;clear hget hE Hv hcy HO HB HB1 cy;generalize hW1:wr.setCell ⟨w.heap.size,k,none⟩ (.int .u64 (v:Nat))=W1 at *
     have q1:=NW.cell ce1;have q2:=NW.cell cy1;have hnon:Nonempty (NW W1):=⟨⟨W1,Below.refl _ _⟩⟩;have I:Hid (Below W1.heap.size W1 W1.drew):=(Below.refl _ _).drew
     go_wp2_with fail
     refine RP.wp_region_readers 16 [(2,0),(2,1),(2,2),(1,3),(2,4),(2,5),(2,6),(2,7),(2,8),(2,9),(1,10),(2,11),(2,12),(2,13),(2,14),(2,15),(0,16)] (fun w'=>∃ p:NW W1,w'=p.w) (by kernel_rfl) (by kernel_rfl) ?_ ?_
     ·exact⟨⟨_,I.out⟩,rfl⟩
     iterate 3 (refine RP.walkR_any ?_;simp only[Kh,dz_,Kg,tz_];go_big_quiet_step (fail);refine wpQuiet_nil ?_)
     iterate 1 (refine RP.walkR_read ?_;simp only[Kh,dz_,Kg,tz_];go_big_quiet_step (fail);refine wpQuiet_nil ?_)
     iterate 6 (refine RP.walkR_any ?_;simp only[Kh,dz_,Kg,tz_];go_big_quiet_step (fail);refine wpQuiet_nil ?_)
     iterate 1 (refine RP.walkR_read ?_;simp only[Kh,dz_,Kg,tz_];go_big_quiet_step (fail);refine wpQuiet_nil ?_)
     iterate 5 (refine RP.walkR_any ?_;simp only[Kh,dz_,Kg,tz_];go_big_quiet_step (fail);refine wpQuiet_nil ?_)
     iterate 1 (refine RP.walkR_move ?_;simp only[Kh,dz_,Kg,tz_];go_wp2_with fail)
     simp only[RP.walkR]
     go_wp2_with fail
     have HO2:=HO1.out.store k (v ||| y*2^(64-r)%18446744073709551616);have e2:((shM p wo r m k).set k v).set k (v ||| y*2^(64-r)%18446744073709551616)=shM p wo r m (k+1):=by rw[List.set_set,← HE.out];exact hset
     rw[e2] at HO2;refine⟨⟨k+1,by omega,by go_num,HO2.below (Qf _ 1) nr_,Qg (HBv.out.setCell (p:=⟨w.heap.size,k,none⟩) nr_ _) 1⟩,by simp[intOf];omega⟩
    ·have hz:p.getD (k+wo+1) 0=0:=by
      rw[List.getD_eq_getElem?_getD,List.getElem?_eq_none (by rw[Hn.out];omega)];rfl
     have hE:(shW p wo r m).getD k 0=v:=by rw[hget,if_neg h1,hz,Nat.zero_mul,Nat.zero_mod,Nat.or_zero]
     rw[hE] at hset;rw[hset] at HO1;have h0:(0:Int)<r:=by omega
     have h2':¬ (k:Int)+wo+1<n:=by omega
     have hkw1:IntKind.i64.wrap (((k+wo:Nat):Int)+1)=((k+wo+1:Nat):Int):=by rw[← Int.natCast_succ];exact iw_ _ (by omega)
     have HR:=hd_ (HB1 (.int .u64 v));clear hget hset hE HB1 Hor Hv hcy HO HB hz
     go_wp2_with fail
     refine⟨⟨k+1,by omega,by go_num,HO1,HR⟩,by simp[intOf];omega⟩
  ·obtain rfl:k=m:=by omega
   rw[Zxd] at HO
   go_wp2_with fail
   go_ret;exact⟨_,_,rfl,HO.out,HB.out⟩
theorem Zd8(w:World)(a:Option Addr)(c:Nat)(l:List Nat)(hr:Qm w a l)(hl:l.length≤30000)(h0:0<l.length):
  Calls Tryz.prog 222 #[.slice a l.length c] w fun e w'=>∃ g d,e = .returned (.slice (some ⟨g,0,none⟩) l.length d)∧Qv w' w.heap.size (some ⟨g,0,none⟩) d l∧Below w.heap.size w w':=by
 obtain⟨i0,hi,hz0,hz1,hz2⟩:=info_parts Zmp;have q22:∀ (w:World) (a:Option Addr) (n c n' c':Nat),(binOp .eql 272 (.slice a n c) (.slice none n' c')).run Tryz.prog w = .ok (.bool a.isNone) w:=fun w a n c n' c'=>Lib.run_eql_slice_nil w _ _ a n c n' c' Tryz.underlying272
 obtain⟨b,o,rfl,hb',hc0⟩:=hr.open h0;have Hc:Hid (∀ j u,(Zs l)[j]?=some u→w.cell? ⟨b,o+j,none⟩=some u):=fun j u hj=>by
  have hlt:j<l.length:=by
   have:=(List.getElem?_eq_some_iff.1 hj).1
   rw[Zv] at this;exact this
  rw[Zni l j hlt] at hj;rw[← hj];exact hc0 j hlt
 have Hone:Hid (∀ u∈Zs l,u.oneCell'=true):=Zt3 l;have Hlen:Hid ((Zs l).length=l.length):=Zv l;clear hc0 hr;unfold Qv;generalize Zs l=vs at *
 generalize l.length=n at *
 go_enter Tryz.func222,Tryz.ntmps222
 go_wp2_with (at_builtin;refine wpList_append_own _ rfl _ _ 272 rfl w.heap.size 193 i0 (.int .u64 0) 1 8 Tryz.underlying272 hi hz0 hz1 hz2 rfl (by decide) _ _ _ rfl (World.ownsRow_made w #[] 0 nr_ (Nat.zero_le _) rfl) ⟨b,o,none⟩ n c vs rfl ?qc1 ?qc2 ?qc3 ?qc4 ?qc5 ?qc6 ?_)
 case qc1=>rw[Hlen.out];omega
 case qc2 =>
  intro j u hj;rw[Addr.add_lit];exact Lib.cell?_alloc_some _ (Hc.out j u hj)
 case qc3=>exact Hone.out
 case qc4=>unfold maxLen;omega
 case qc5=>omega
 case qc6=>simp
 intro v' w1 hown hgrow hnil;obtain⟨a3,d3,rfl⟩:=Qj hown;have hown':w1.ownsRow w.heap.size 193 1 (.slice a3 n d3) n vs:=by simpa using hown
 have B:=hd_ (((Below.refl _ w).alloc nr_ (.cells #[] 193)).grown hgrow (by simp) (by intro k hk;simp[Value.ownBlock] at hk;omega))
 obtain⟨g,cap,hv,-,-,-,-,-⟩:=Vv hown' h0;simp only[Value.slice.injEq] at hv;obtain⟨rfl,-,rfl⟩:=hv;have O:=hd_ hown';clear hown hown' hgrow hnil
 go_wp2_with fail
 go_ret;exact⟨g,d3,rfl,O.out,B.out⟩
structure NxI (B n k cc N g c:Nat) (M:List Nat) (w wr:World):Prop where
 len:M.length=n+1
 pcs:Wds M
 v:vW M+18446744073709551616^k*cc=N
 own:Qv wr B (some ⟨g,0,none⟩) c M
 bel:Below B w wr
theorem Zul(w:World)(a1:Option Addr)(c1:Nat)(p:List Nat)(h1:Qm w a1 p)(p1:Wds p)(l1:p.length≤20000)(h0:0<p.length):
  Calls Tryz.prog 225 #[.slice a1 p.length c1] w fun e w'=>∃ a c L,e = .returned (.slice a (p.length+1) c)∧L.length=p.length+1∧Qv w' w.heap.size a c L∧Wds L∧vW L=vW p+1∧Below w.heap.size w w':=by
 have HC:=hd_ (Zd8 w a1 c1 p h1 (by omega) h0)
 have P1:=hd_ p1;have hlt:=Zo1 p1;have hv0:vW (p++[0])=vW p:=by rw[Zdj];simp[vW]
 have Hlt:=hd_ hlt;have Hv0:=hd_ hv0;have Hpw:Hid (Wds (p++[0])):=p1.append (Wds.zeros 1);clear p1 hlt hv0 h1;obtain⟨n,hn⟩:∃ n,p.length=n:=⟨_,rfl⟩;have Hn:=hd_ hn;rw[hn] at l1 h0 HC Hlt ⊢;clear hn;go_enter Tryz.func225,Tryz.ntmps225
 go_wp2_with fail
 refine cm_ HC.out ?_;rintro e w1 ⟨g,d,rfl,ho,hb⟩;have HO:=hd_ ho;have HB:=hd_ hb;clear ho hb HC;have Hown:Hid (w1.ownsRow w.heap.size 193 1 (.slice (some ⟨g,0,none⟩) n d) n (Zs p)):=by have:=HO.out;unfold Qv at this;rw[Hn.out] at this;exact this
 have Hsz:=hd_ HB.out.size
 go_wp2_with (at_builtin;refine Km rfl (.tmp 7) (.tmp 8) 272 rfl elN _ 1 [.int .u64 0] rfl rfl Hown.out Hsz.out rfl (by simp[Value.oneCell']) (by omega) (by omega) ?_)
 intro v' w2 hown hgrow hnil;obtain⟨a3,d3,rfl⟩:=Qj hown;have hown':w2.ownsRow w.heap.size 193 1 (.slice a3 (n+1) d3) (n+1) (Zs (p++[0])):=by rw[Vd];exact hown
 obtain⟨g2,cap,hv,-,-,-,-,-⟩:=Vv hown' (by omega)
 simp only[Value.slice.injEq] at hv;obtain⟨rfl,-,rfl⟩:=hv;have Hlen:Hid ((p++[0]).length=n+1):=by show _=_;rw[List.length_append,Hn.out];rfl
 have HI0:Hid (NxI w.heap.size n 0 1 (vW p+1) g2 d3 (p++[0]) w w2):=by
  refine⟨Hlen.out,Hpw.out,by rw[Nat.pow_zero,Hv0.out],?_,(HB.out.alloc Hsz.out _).grown hgrow (by rw[World.alloc];simp;have:=Hsz.out;omega) (by intro k hk;simp[Value.ownBlock] at hk;exact(World.ownsRow.lt Hown.out k (by simp[Value.ownBlock];exact hk)).1)⟩
  unfold Qv;rw[Hlen.out];exact hown'
 clear hown hown' hgrow hnil HO HB Hown Hsz Hpw
 go_wp2_with fail
 go_loopw [4,12] (fun cv i wr=>∃ (k cc:Nat) (M:List Nat),k≤n+1∧cc≤1∧i = .int .i64 k∧cv = .int .u64 cc∧Hid (NxI w.heap.size n k cc (vW p+1) g2 d3 M w wr)) (fun _ i _=>n+1-(intOf i).toNat)
 case atStart=>exact⟨0,1,_,Nat.zero_le _,Nat.le_refl _,rfl,rfl,HI0⟩
 case round =>
  obtain⟨k,cc,M,hk,hcc,rfl,rfl,HI⟩:=hrel;clear HI0
  by_cases hlt:k<n+1
  ·obtain⟨g,hg,hg1,hg2,hg3,hg4,hg5⟩:=HI.out.own.open (by rw[HI.out.len];omega)
   obtain rfl:g2=g:=by simpa using hg
   clear hg;have hlt':(k:Int)<(n:Int)+1:=by omega
   have ce:=hg4 k (by rw[HI.out.len];exact hlt)
   have fe:=hg5 k;have he:=HI.out.pcs.getD k;have hst:=Zrt M (vW p+1) k cc (by rw[HI.out.len];exact hlt) HI.out.v
   have hadd:∀ W,(callFunc 248 #[.int .u64 (M.getD k 0:Nat),.int .u64 0,.int .u64 cc]).run Tryz.prog W = .ok (.value (.tuple #[.int .u64 (((M.getD k 0+cc)%18446744073709551616:Nat):Int),.int .u64 (((M.getD k 0+cc)/18446744073709551616:Nat):Int)])) W:=fun W=>by
    have:=Zlf (M.getD k 0) 0 cc hcc W
    rw[Nat.add_zero] at this;exact this
   have hc2:(M.getD k 0+cc)/18446744073709551616≤1:=by omega
   have hkw:IntKind.i64.wrap ((k:Int)+1)=((k+1:Nat):Int):=by rw[← Int.natCast_succ];exact iw_ _ (by omega)
   have HI2:Hid (NxI w.heap.size n (k+1) ((M.getD k 0+cc)/18446744073709551616) (vW p+1) g2 d3 (M.set k ((M.getD k 0+cc)%18446744073709551616)) w (wr.setCell ⟨g2,k,none⟩ (.int .u64 ((M.getD k 0+cc)%18446744073709551616:Nat)))) :=
    ⟨by rw[List.length_set];exact HI.out.len,HI.out.pcs.set _ _ (Nat.mod_lt _ (by decide)),hst,HI.out.own.store k _,HI.out.bel.setCell (p:=⟨g2,k,none⟩) hg1 _⟩
   have Hc2:=hd_ hc2;clear hst hc2 hg4 hg5 hg3 he HI;generalize (M.getD k 0+cc)/18446744073709551616=q at *
   generalize (M.getD k 0+cc)%18446744073709551616=v at *
   generalize M.getD k 0=e at *
   go_wp2_with fail
   refine⟨⟨k+1,q,_,by omega,Hc2.out,by go_num,rfl,HI2⟩,by simp[intOf];omega⟩
  ·obtain rfl:k=n+1:=by omega
   have hlt':¬ ((n+1:Nat):Int)<(n:Int)+1:=by omega
   have hv:=HI.out.v;have hfin:cc=0:=by
    have h2:=Hlt.out;have h3:18446744073709551616^n<18446744073709551616^(n+1):=Nat.pow_lt_pow_right (by decide) (by omega)
    rcases Nat.eq_zero_or_pos cc with h|h
    ·exact h
    ·have h4:18446744073709551616^(n+1)*1≤18446744073709551616^(n+1)*cc:=Nat.mul_le_mul_left _ h;generalize 18446744073709551616^(n+1)*cc=Z at *
     omega
   rw[hfin,Nat.mul_zero,Nat.add_zero] at hv;have Hv:=hd_ hv;have hlen:=HI.out.len;have Hl:=hd_ hlen;have Ho:=HI.out.own;clear hv hlen hfin
   go_wp2_with fail
   go_ret;exact⟨_,_,rfl,M,Hl.out,Ho,HI.out.pcs,Hv.out,HI.out.bel⟩
theorem Zq9{l:List Nat}{b wo r:Nat}(e:b=64*wo+r)(hr:r<64)(h:Wds l)(hw:wo<l.length):(∃ i,i<l.length-wo∧(shW l wo r (l.length-wo)).getD i 0≠0)↔2^b≤vW l:=by
 have hv:=Zls h (wo:=wo) (m:=l.length-wo) hr (by omega)
 have hz:=Zfj (shW l wo r (l.length-wo));rw[hv,← e] at hz;have h1:vW l/2^b=0↔vW l<2^b:=Nat.div_eq_zero_iff_lt (Nat.two_pow_pos b);have hl:=Vi l wo r (l.length-wo);constructor
 ·rintro⟨i,hi,hne⟩;refine Nat.le_of_not_lt fun hc=>?_
  have h2:=hz.1 (h1.2 hc) ((shW l wo r (l.length-wo)).getD i 0);refine hne (h2 ?_);rw[List.getD_eq_getElem?_getD,List.getElem?_eq_getElem (by rw[hl];exact hi)]
  exact List.getElem_mem _
 ·intro hc;refine Decidable.byContradiction fun hn=>?_
  have h2:=h1.1 (hz.2 fun x hx=>?_)
  ·omega
  ·obtain⟨i,hi,rfl⟩:=List.mem_iff_getElem.1 hx;refine Decidable.byContradiction fun hx=>hn ⟨i,by rw[hl] at hi;exact hi,?_⟩
   rw[List.getD_eq_getElem?_getD,List.getElem?_eq_getElem hi];exact hx
theorem Zlz(w:World)(a1:Option Addr)(c1:Nat)(p:List Nat)(b wo r:Nat)(e:b=64*wo+r)(hr:r<64)(h1:Qm w a1 p)(p1:Wds p)(l1:p.length≤30000)(hwo:wo<p.length):
  Kc Tryz.prog 226 #[.slice a1 p.length c1,.int .i64 b] w (.bool (decide (2^b≤vW p))):=by
 unfold Kc;have HS:=hd_ (Zf1 w a1 c1 p b wo r e hr h1 p1 l1 hwo);have Hiff:=hd_ (Zq9 e hr p1 hwo);obtain⟨m,hm⟩:∃ m,p.length-wo=m:=⟨_,rfl⟩;have Hwd:=hd_ (Zlr p1 (wo:=wo) (m:=p.length-wo) hr);have Hlen:=hd_ (Vi p wo r (p.length-wo));have hmb:m≤30000:=by omega
 have hm0:0<m:=by omega
 rw[hm] at HS Hiff Hwd Hlen;clear e h1 p1 l1 hwo hm hr;obtain⟨dd,hdd⟩:∃ dd,decide (2^b≤vW p)=dd:=⟨_,rfl⟩;have Hdd:=hd_ hdd;rw[hdd];clear hdd;generalize shW p wo r m=Ls at *
 go_enter Tryz.func226,Tryz.ntmps226
 go_wp2_with fail
 refine cm_ HS.out ?_;rintro e w1 ⟨a,c,rfl,ho,hb⟩;have HO:=hd_ ho;have HB:=hd_ hb;clear ho hb HS
 go_wp2_with fail
 go_loopw [11] (fun i wr=>∃ k:Nat,k≤m∧i = .int .i64 k∧Hid (∀ j,j<k→Ls.getD j 0=0)∧Hid (Below w1.heap.size w1 wr)) (fun i _=>m-(intOf i).toNat)
 case atStart=>exact⟨0,Nat.zero_le _,rfl,fun j hj=>absurd hj (Nat.not_lt_zero j),Below.refl _ _⟩
 case round =>
  obtain⟨k,hk,rfl,HZ,HB2⟩:=hrel
  by_cases hlt:k<m
  ·obtain⟨g,rfl,hg1,hg2,hg3,hg4,hg5⟩:=HO.out.open (by rw[Hlen.out];omega)
   have ce:=hg4 k (by rw[Hlen.out];exact hlt)
   rw[← HB2.out.cell (p:=⟨g,k,none⟩) hg2] at ce;have hkw:IntKind.i64.wrap ((k:Int)+1)=((k+1:Nat):Int):=by rw[← Int.natCast_succ];exact iw_ _ (by omega)
   have hlt':(k:Int)<m:=by omega
   obtain⟨x,hx⟩:∃ x,Ls.getD k 0=x:=⟨_,rfl⟩;have Hx:=hd_ hx;rw[hx] at ce;clear hx hg4 hg5 hg3
   by_cases h0:x=0
   ·have HZ2:Hid (∀ j,j<k+1→Ls.getD j 0=0):=fun j hj=>by
     rcases Nat.lt_or_ge j k with h|h
     ·exact HZ.out j h
     ·obtain rfl:j=k:=by omega
      rw[Hx.out,h0]
    subst h0
    go_wp2_with fail
    refine⟨⟨k+1,by omega,by go_num,HZ2,HB2⟩,by simp[intOf];omega⟩
   ·have Hd:Hid (dd=true):=by
     show _=_
     rw[← Hdd.out,decide_eq_true_eq];exact Hiff.out.1 ⟨k,hlt,by rw[Hx.out];exact h0⟩
    go_wp2_with fail
    go_ret;exact⟨by rw[Hd.out];rfl,HB.out.trans (HB2.out.mono HB.out.size)⟩
  ·obtain rfl:k=m:=by omega
   have Hd:Hid (dd=false):=by
    show _=_
    rw[← Hdd.out,decide_eq_false_iff_not];intro hc;obtain⟨i,hi,hne⟩:=Hiff.out.2 hc;exact hne (HZ.out i hi)
   go_wp2_with fail
   go_ret;exact⟨by rw[Hd.out];rfl,HB.out.trans (HB2.out.mono HB.out.size)⟩
theorem Zvy(w:World)(L:Qb w):Kc Tryz.prog 127 #[.string (dec 2)] w (.int .i64 2):=by
 unfold Kc;have h:=Zbf w 2 (by rw[show (dec 2).size=1 by decide +kernel];decide) L
 rw[if_pos (by decide)] at h
 have H:=hd_ h;have Hl:Hid (∀ W:World,Calls Tryz.prog 191 #[.int .u64 2] W fun e w'=>e = .returned (.int .i64 2)∧w'=W):=fun W=>by
  have:=Tryz.bits_Len64 2 W (by decide) (by decide)
  rw[show ((Lib.bitLen ((2:Int).toNat):Nat):Int)=2 by decide +kernel] at this
  exact this
 clear L h;generalize dec 2=s at *
 go_enter Tryz.func127,Tryz.ntmps127
 go_wp2_with fail
 refine cm_ H.out ?_;rintro e w1 ⟨rfl,hb1⟩;have B1:=hd_ hb1;clear hb1 H
 go_wp2_with fail
 refine cm_ (Hl.out _) ?_;rintro e w2 ⟨rfl,rfl⟩;clear Hl
 go_wp2_with fail
 go_ret;exact⟨rfl,B1.out⟩
theorem Zpc{w:World}{g:Nat}{t:TypeId}(h:w.heap[g]?=some (.cells #[.int .u64 1] t (0,0))):Qm w (some ⟨g,0,none⟩) (Kf 1):=by
 have e:Kf 1=[1]:=by decide +kernel
 rw[e];refine .inr ⟨g,0,rfl,(Array.getElem?_eq_some_iff.1 h).1,fun i hi=>?_⟩
 have:i=0:=by simp at hi;exact hi
 subst this;rw[cell_of_row w g 0 _ t (0,0) h];rfl
theorem Znn(D y:Nat)(h:y<D):(dec (2^y)).size≤D:=by
 rw[Yz _ _ (by omega)]
 exact Nat.lt_of_le_of_lt (Nat.pow_le_pow_left (by decide) y) (Nat.pow_lt_pow_right (by decide) h)
theorem Zga(n y:Nat)(hn:n≤4000)(hy:y≤n):(Kf (2^y)).length≤10000 :=
 Vl _ 10000 (by decide) (Znn 10000 y (by omega))
theorem Zt9(n:Nat)(hn:n≤4000):(dec (2^n)).size≤4001:=Znn 4001 n (by omega)
theorem Zva(n:Int):bits .and .i64 n 1=n%2:=by
 have h1:(BitVec.ofInt 64 1).toNat=2^1-1:=by decide
 have key:(BitVec.ofInt 64 n &&& BitVec.ofInt 64 1).toNat=(n%((2^64:Nat):Int)).toNat%2^1:=by
  rw[BitVec.toNat_and,BitVec.toNat_ofInt,h1,Nat.and_two_pow_sub_one_eq_mod]
 show IntKind.i64.wrap ((BitVec.ofInt 64 n &&& BitVec.ofInt 64 1).toNat:Nat)=n%2
 rw[key,IntKind.wrap_i64];omega
theorem Zye(k:Nat)(_:k<4001):(bits BinOp.and IntKind.i64 (k:Nat) 1==1)=decide (k%2=1):=by
 rw[Zva]
 by_cases h:k%2=1
 ·rw[decide_eq_true h,beq_iff_eq];omega
 ·rw[decide_eq_false h,beq_eq_false_iff_ne];omega
theorem Zfr(W:World)(n x y:Nat)(hn:n≤4000)(hx:x≤n)(hy:y≤n)(a1 a2:Option Addr)(c1 c2:Nat)(h1:Qm W a1 (Kf (2^x)))(h2:Qm W a2 (Kf (2^y))):
  Calls Tryz.prog 141 #[.slice a1 (Kf (2^x)).length c1,.slice a2 (Kf (2^y)).length c2] W fun e w'=>∃ a c,e = .returned (.slice a (Kf (2^(x+y))).length c)∧Qm w' a (Kf (2^(x+y)))∧Below W.heap.size W w':=by
 have l1:=Zga n x hn hx;have l2:=Zga n y hn hy;refine cm_ (Zfs W a1 a2 c1 c2 _ _ h1 h2 (Ko _) (Ko _) (by omega) (by omega)) ?_
 rintro e w' ⟨a,c,rfl,ho,hb⟩;rw[Kp,Kp,← Nat.pow_add] at *
 exact⟨a,c,rfl,ho.reads,hb⟩
theorem Zpg(w:World)(n:Nat)(hn:n≤4000)(L:Qb w):Kc Tryz.prog 69 #[.string (dec 2),.int .i64 n] w (.tuple #[.string (dec (2^n)),.int .i64 0]):=by
 unfold Kc;have hz:=Zb 2;have ho:=Zhy 2;rw[decide_eq_false (by decide)] at hz ho
 have Hb:Hid (∀ W,Below w.heap.size w W→Kc Tryz.prog 127 #[.string (dec 2)] W (.int .i64 2)):=fun W hW=>Zvy W (L.below hW)
 have Hc:Hid (∀ W,Zc9 140 #[.string (dec 2)] W 2):=fun W=>Ztv W 2 (by unfold Num;rw[show (dec 2).size=1 by decide +kernel];decide)
 have Hs:=hd_ (Zt9 n hn);clear L
 by_cases h0:n=0
 ·subst h0;have Hv:Hid (dec (2^0)=⟨#[49]⟩):=by show _=_;rw[Nat.pow_zero,Vf]
  generalize dec (2^0)=vv at *
  clear Hb Hc hn;generalize dec 2=s at *
  go_enter Tryz.func69,Tryz.ntmps69
  go_wp2_with fail
  go_ret2
  exact⟨by rw[Hv.out];rfl,Below.refl _ _⟩
 ·have hn0:((n:Int)==0)=false:=by rw[beq_eq_false_iff_ne];omega
  have hnn:¬ (n:Int)<0:=by omega
  have hnl:¬ (66439:Int)<n:=by omega
  unfold Zc9 at Hc;obtain⟨vv,hvv⟩:∃ s,dec (2^n)=s:=⟨_,rfl⟩;have Hvv:=hd_ hvv;rw[hvv] at Hs ⊢;clear hvv;generalize dec 2=s at *
  go_enter Tryz.func69,Tryz.ntmps69
  go_wp2_with fail
  refine cm_ (Hb.out _ (Below.refl _ _)) ?_;rintro e w1 ⟨rfl,hb1⟩;have B1:=hd_ hb1;clear hb1 Hb
  go_wp2_with fail
  have B2:=hd_ (B1.out.alloc B1.out.size (.cells #[.int .u64 1] 193));have R1:Hid (Qm (w1.alloc (.cells #[.int .u64 1] 193)) (some ⟨w1.heap.size,0,none⟩) (Kf 1)):=Zpc (Go.heap_alloc_new w1 _);generalize w1.alloc (.cells #[.int .u64 1] 193)=w2 at *
  clear B1;refine cm_ (Hc.out _) ?_;rintro e w3 ⟨a3,c3,rfl,ho,hb⟩;have B3:=hd_ (B2.out.trans (hb.mono B2.out.size));have R2:=hd_ ho.reads;replace R1:=hd_ (R1.out.below hb nr_);clear hb ho Hc B2;have Hl1:Hid ((Kf 1).length=1):=hd_ (by decide +kernel)
  go_wp2_with fail
  go_loopw [1,7,8] (fun m o q wr=>∃ (k x y:Nat) (a1 a2:Option Addr) (c1 c2:Nat),m = .int .i64 k∧k≤n∧o = .slice a1 (Kf (2^x)).length c1∧q = .slice a2 (Kf (2^y)).length c2∧Hid (x+y*k=n)∧Hid (y≤n)∧Hid (Qm wr a1 (Kf (2^x)))∧Hid (Qm wr a2 (Kf (2^y)))∧Hid (Below w.heap.size w wr)) (fun m _ _ _=>(intOf m).toNat)
  case atStart =>
   refine⟨n,0,1,some ⟨w1.heap.size,0,none⟩,a3,1,c3,rfl,Nat.le_refl _,by rw[Nat.pow_zero,Hl1.out],rfl,?_,?_,R1,R2,B3⟩
   ·show _=_;omega
   ·show _≤_;omega
  case round =>
   clear R1 R2 B3;obtain⟨k,x,y,a1,a2,c1,c2,rfl,hk,rfl,rfl,Hxy,Hy,R1,R2,B⟩:=hrel;have Hx:Hid (x≤n):=by show _≤_;have:=Hxy.out;omega
   by_cases hk0:k=0
   ·subst hk0;have hk1:¬ (0:Int)<((0:Nat):Int):=by omega
    have Hx2:Hid (x=n):=by show _=_;have:=Hxy.out;omega
    rw[Hx2.out] at R1 ⊢;have Hte:Hid (Kc Tryz.prog 142 #[.slice a1 (Kf (2^n)).length c1] wr (.string vv)):=by
     have:=Za2 wr a1 c1 (2^n) R1.out (by have:=Zga n n hn nr_;omega)
     rw[Hvv.out] at this;exact this
    have hsz:¬ (20000:Int)<vv.size:=by have:=Hs.out;omega
    go_wp2_with fail
    refine cm_ Hte.out ?_;rintro e w9 ⟨rfl,hb⟩;have B9:=hd_ (B.out.trans (hb.mono B.out.size));clear hb Hte
    go_wp2_with fail
    go_ret2
    exact⟨rfl,B9.out⟩
   ·have hk1:(0:Int)<k:=by omega
    have hb:=Zye k (by omega)
    by_cases hodd:k%2=1
    ·rw[decide_eq_true hodd] at hb;have Ht:Hid (Calls Tryz.prog 141 #[.slice a1 (Kf (2^x)).length c1,.slice a2 (Kf (2^y)).length c2] wr fun e w'=>∃ a c,e = .returned (.slice a (Kf (2^(x+y))).length c)∧Qm w' a (Kf (2^(x+y)))∧Below wr.heap.size wr w'):=Zfr wr n x y hn Hx.out Hy.out a1 a2 c1 c2 R1.out R2.out
     go_wp2_with fail
     refine cm_ Ht.out ?_;rintro e w5 ⟨a5,c5,rfl,r5,hb5⟩;have B5:=hd_ (B.out.trans (hb5.mono B.out.size));replace R1:=hd_ r5;replace R2:=hd_ (R2.out.below hb5 nr_);clear hb5 r5 B Ht
     by_cases hk2:1<k
     ·have hk2':(1:Int)<k:=by omega
      have Hxy2:Hid (x+y+(y+y)*(k/2)=n):=by
       show _=_
       have h1:=Hxy.out;obtain⟨h,rfl⟩:∃ h,k=2*h+1:=⟨k/2,by omega⟩
       rw[show (2*h+1)/2=h by omega,Nat.add_mul]
       rw[Nat.mul_add,Nat.mul_left_comm] at h1;omega
      have Ht:Hid (Calls Tryz.prog 141 #[.slice a2 (Kf (2^y)).length c2,.slice a2 (Kf (2^y)).length c2] w5 fun e w'=>∃ a c,e = .returned (.slice a (Kf (2^(y+y))).length c)∧Qm w' a (Kf (2^(y+y)))∧Below w5.heap.size w5 w'):=Zfr w5 n y y hn Hy.out Hy.out a2 a2 c2 c2 R2.out R2.out
      go_wp2_with fail
      refine cm_ Ht.out ?_;rintro e w6 ⟨a6,c6,rfl,r6,hb6⟩;have B6:=hd_ (B5.out.trans (hb6.mono B5.out.size));replace R2:=hd_ r6;replace R1:=hd_ (R1.out.below hb6 nr_);clear hb6 r6 B5 Ht
      go_wp2_with fail
      go_roundw
      case rel =>
       refine⟨k/2,x+y,y+y,_,_,_,_,by go_num,by omega,rfl,rfl,Hxy2,?_,R1,R2,B6⟩
       show _≤_
       have:=Hxy.out
       have h2:y*2≤y*k:=Nat.mul_le_mul_left _ (by omega)
       omega
      case measure=>simp[intOf];omega
     ·have hk2':¬ (1:Int)<k:=by omega
      go_wp2_with fail
      go_roundw
      case rel =>
       refine⟨k/2,x+y,y,_,_,_,_,by go_num,by omega,rfl,rfl,?_,Hy,R1,R2,B5⟩
       show _=_
       have:=Hxy.out
       have e1:k=1:=by omega
       subst e1;have e2:(1/2:Nat)=0:=rfl;rw[e2];omega
      case measure=>simp[intOf];omega
    ·rw[decide_eq_false hodd] at hb
     by_cases hk2:1<k
     ·have hk2':(1:Int)<k:=by omega
      have Hxy2:Hid (x+(y+y)*(k/2)=n):=by
       show _=_
       have h1:=Hxy.out;obtain⟨h,rfl⟩:∃ h,k=2*h:=⟨k/2,by omega⟩
       rw[show (2*h)/2=h by omega,Nat.add_mul]
       rw[Nat.mul_left_comm] at h1;omega
      have Ht:Hid (Calls Tryz.prog 141 #[.slice a2 (Kf (2^y)).length c2,.slice a2 (Kf (2^y)).length c2] wr fun e w'=>∃ a c,e = .returned (.slice a (Kf (2^(y+y))).length c)∧Qm w' a (Kf (2^(y+y)))∧Below wr.heap.size wr w'):=Zfr wr n y y hn Hy.out Hy.out a2 a2 c2 c2 R2.out R2.out
      go_wp2_with fail
      refine cm_ Ht.out ?_;rintro e w6 ⟨a6,c6,rfl,r6,hb6⟩;have B6:=hd_ (B.out.trans (hb6.mono B.out.size));replace R2:=hd_ r6;replace R1:=hd_ (R1.out.below hb6 nr_);clear hb6 r6 B Ht
      go_wp2_with fail
      go_roundw
      case rel =>
       refine⟨k/2,x,y+y,_,_,_,_,by go_num,by omega,rfl,rfl,Hxy2,?_,R1,R2,B6⟩
       show _≤_
       have:=Hxy.out
       have h2:y*2≤y*k:=Nat.mul_le_mul_left _ (by omega)
       omega
      case measure=>simp[intOf];omega
     ·omega
theorem p2:True:=trivial
end Go.Proofs.YtnjedhgcfeoemaaGreatDoor

namespace Go.Proofs.YtnjedhgcfeoemaaGreatDoor.LN
def lgGo (unit:Nat):Nat→Nat→Nat→Nat→Option Nat
 | 0,_,_,out=>some out
 | n+1,lo,hi,out =>
  if 2*unit≤lo*lo/unit then lgGo unit n (lo*lo/unit/2) ((hi*hi/unit+1)/2+1) (2*out+1)
  else if 2*unit≤hi*hi/unit+1 then none
  else lgGo unit n (lo*lo/unit) (hi*hi/unit+1) (2*out)
def lg (p k n more:Nat):Option Nat:=lgGo (2^more) n (p*2^(more-k)) (p*2^(more-k)) k
def dotI:List Int→List Int→Int
 | a::l,b::m=>a*b+dotI l m
 | _,_=>0
def Zc7 (l:List Int):Nat:=(l.map Int.natAbs).sum
def comb (x:Int) (u:List Int) (y:Int) (v:List Int):List Int:=List.zipWith (fun a b=>x*a-y*b) u v
theorem Zdr(x y:Int):∀ (u v k:List Int),u.length=v.length→dotI (comb x u y v) k=x*dotI u k-y*dotI v k
 | [],[],_,_=>by simp[comb,dotI]
 | a::u,b::v,[],_=>by simp[comb,dotI]
 | a::u,b::v,c::k,h=>by
  have ih:=Zdr x y u v k (by simpa using h)
  have e:comb x (a::u) y (b::v)=(x*a-y*b)::comb x u y v:=rfl;rw[e];simp only[dotI];rw[ih]
  grind
 | [],_::_,_,h=>by simp at h
 | _::_,[],_,h=>by simp at h
theorem Zmx(K:Nat):∀ (u k:List Int),(∀ x∈k,x.natAbs≤K)→(dotI u k).natAbs≤Zc7 u*K
 | [],_,_=>by simp[dotI]
 | _::_,[],_=>by simp[dotI]
 | a::u,b::k,h=>by
  have ih:=Zmx K u k fun x hx=>h x (List.mem_cons_of_mem _ hx)
  have hb:=h b List.mem_cons_self;have e:Zc7 (a::u)=a.natAbs+Zc7 u:=by simp[Zc7]
  rw[e,Nat.add_mul];simp only[dotI];have h1:=Int.natAbs_add_le (a*b) (dotI u k);rw[Int.natAbs_mul] at h1;have h2:a.natAbs*b.natAbs≤a.natAbs*K:=Nat.mul_le_mul_left _ hb;omega
def Zd2 (m i:Nat) (d:Int):List Int:=(List.range m).map fun j=>if j=i then d else 0
def Zdw (m:Nat):List Int→List (List Int)→List Int
 | x::l,u::ls=>comb x u (-1) (Zdw m l ls)
 | _,_=>List.replicate m 0
theorem Ze3(m:Nat):∀ (l:List Int) (U:List (List Int)),(∀ u∈U,u.length=m)→(Zdw m l U).length=m
 | [],_,_=>by simp[Zdw]
 | _::_,[],_=>by simp[Zdw]
 | x::l,u::U,h=>by
  have ih:=Ze3 m l U fun v hv=>h v (List.mem_cons_of_mem _ hv)
  simp only[Zdw,comb,List.length_zipWith,ih,h u List.mem_cons_self,Nat.min_self]
theorem Zku(m:Nat)(k:List Int):dotI (List.replicate m 0) k=0:=by
 induction m generalizing k with
 | zero=>rfl
 | succ m ih =>
  cases k with
  | nil=>rfl
  | cons b k=>rw[List.replicate_succ,dotI,ih];simp
theorem Zeh(m:Nat)(k:List Int):∀ (l:List Int) (U:List (List Int)),(∀ u∈U,u.length=m)→(∀ u∈U,dotI u k=0)→dotI (Zdw m l U) k=0
 | [],_,_,_=>by rw[Zdw];exact Zku m k;simp
 | _::_,[],_,_=>by rw[Zdw];exact Zku m k;simp
 | x::l,u::U,h,h0=>by
  rw[Zdw,Zdr _ _ _ _ _ (by rw[Ze3 m l U fun v hv=>h v (List.mem_cons_of_mem _ hv)];exact h u List.mem_cons_self),h0 u List.mem_cons_self,
   Zeh m k l U (fun v hv=>h v (List.mem_cons_of_mem _ hv)) (fun v hv=>h0 v (List.mem_cons_of_mem _ hv))]
  simp
theorem Zgl(d:Int):∀ (m i s:Nat) (k:List Int),dotI ((List.range' s m).map fun j=>if j=i then d else 0) k=if s≤i∧i<s+m then d*k.getD (i-s) 0 else 0
 | 0,i,s,k=>by
  rw[if_neg (by omega)];rfl
 | m+1,i,s,[]=>by simp[List.range'_succ,dotI]
 | m+1,i,s,b::k=>by
  rw[List.range'_succ,List.map_cons,dotI,Zgl d m i (s+1) k]
  by_cases h:s=i
  ·subst h;rw[if_pos rfl,if_neg (by omega),if_pos (by omega)];simp
  ·rw[if_neg h]
   by_cases h2:s+1≤i∧i<s+1+m
   ·rw[if_pos h2,if_pos (by omega)]
    have e:i-s=(i-(s+1))+1:=by omega
    rw[e];simp
   ·rw[if_neg h2,if_neg (by omega)];simp
def Zol (a:Int) (L:List Int) (U V:List (List Int)) (d:Int) (K S:Nat):Bool :=
 decide (0<a)&&decide (d≠0) &&
 U.all (fun u=>decide (u.length=L.length)&&decide (Zc7 (comb a u (u.headD 0) L)*K+(u.headD 0).natAbs*S<a.natAbs)) &&
 decide (V.length=L.length)&&(List.range L.length).all (fun i=>decide (Zdw L.length (V.getD i []) U=Zd2 L.length i d))
theorem Zs8{a:Int}{L:List Int}{U V:List (List Int)}{d:Int}{K S:Nat}(h:Zol a L U V d K S=true)(k:List Int)(hk:k.length=L.length)(hK:∀ x∈k,x.natAbs≤K)(hS:(dotI L k).natAbs<S):
  ∀ x∈k,x=0:=by
 unfold Zol at h;simp only[Bool.and_eq_true,decide_eq_true_eq,List.all_eq_true,List.mem_range] at h;obtain⟨⟨⟨⟨ha,hd⟩,hU⟩,hV⟩,hI⟩:=h;have h0:∀ u∈U,dotI u k=0:=by
  intro u hu;obtain⟨h1,h2⟩:=hU u hu;have e:=Zdr a (u.headD 0) u L k h1;have b:=Zmx K (comb a u (u.headD 0) L) k hK;generalize u.headD 0=q at *
  generalize dotI u k=f at *
  generalize dotI L k=T at *
  generalize Zc7 (comb a u q L)*K=A at *
  rw[e] at b;have h3:(a*f).natAbs≤(a*f-q*T).natAbs+(q*T).natAbs:=by omega
  rw[Int.natAbs_mul,Int.natAbs_mul q T] at h3;have h5:q.natAbs*T.natAbs≤q.natAbs*S:=Nat.mul_le_mul_left _ (by omega)
  have h6:a.natAbs*f.natAbs<a.natAbs*1:=by omega
  have h7:f.natAbs<1:=Nat.lt_of_mul_lt_mul_left h6;omega
 intro x hx;obtain⟨i,hi,rfl⟩:=List.mem_iff_getElem.1 hx;have h1:=hI i (by omega)
 have h2:=Zeh L.length k (V.getD i []) U (fun u hu=>(hU u hu).1) h0
 rw[h1,Zd2,List.range_eq_range',Zgl d _ i 0 k,if_pos (by omega)] at h2
 rw[Nat.sub_zero,List.getD_eq_getElem?_getD,List.getElem?_eq_getElem hi,Option.getD_some] at h2;rcases Int.mul_eq_zero.1 h2 with h3|h3
 ·exact absurd h3 hd
 ·exact h3
def upT:List (Int×Int)→Nat
 | []=>1
 | x::l=>x.1.toNat^x.2.toNat*upT l
def negT (l:List (Int×Int)):List (Int×Int):=l.map fun x=>(x.1,-x.2)
def Qai (l:List (Int×Int)):Int:=if upT (negT l)<upT l then 1 else if upT l<upT (negT l) then -1 else 0
structure LogAt (n:Nat) (p:Int) (L:Nat):Prop where
 le:2^L≤p.toNat^(2^n)
 lt:p.toNat^(2^n)<2^(L+1)
 two:p=2→L=2^n
 odd:p≠2→2^L<p.toNat^(2^n)
def hiL (f:Int→Nat) (p:Int):Nat:=if p=2 then f p else f p+1
def loS (f:Int→Nat):List (Int×Int)→Nat
 | []=>0
 | x::l=>x.2.toNat*f x.1+loS f l
def hiS (f:Int→Nat):List (Int×Int)→Nat
 | []=>0
 | x::l=>x.2.toNat*hiL f x.1+hiS f l
def coefP (p:Int):List (Int×Int)→Int
 | []=>0
 | x::l=>(if x.1=p then x.2 else 0)+coefP p l
theorem Zoe(a b:List Int):∀ (u:List Int) (pr:List Int) (g h:Int→Int),dotI u (pr.map fun p=>g p+h p)=dotI u (pr.map g)+dotI u (pr.map h)
 | [],_,_,_=>by simp[dotI]
 | _::_,[],_,_=>by simp[dotI]
 | c::u,p::pr,g,h=>by
  have ih:=Zoe a b u pr g h;simp only[List.map_cons,dotI];rw[ih,Int.mul_add];omega
theorem Zkv(f:Int→Int)(c q:Int):∀ pr:List Int,q ∉ pr→dotI (pr.map f) (pr.map fun p=>if q=p then c else 0)=0
 | [],_=>by simp[dotI]
 | p::pr,h=>by
  simp only[List.mem_cons,not_or] at h;simp only[List.map_cons,dotI];rw[if_neg h.1,Zkv f c q pr h.2];simp
theorem Zsz(f:Int→Int)(c q:Int):∀ pr:List Int,pr.Nodup→q∈pr→dotI (pr.map f) (pr.map fun p=>if q=p then c else 0)=c*f q
 | [],_,h=>by simp at h
 | p::pr,hd,h=>by
  simp only[List.nodup_cons] at hd;simp only[List.map_cons,dotI]
  by_cases e:q=p
  ·rw[if_pos e,e,Zkv f c p pr hd.1,Int.mul_comm];omega
  ·rw[if_neg e,Zsz f c q pr hd.2 (by simpa [e] using h)];omega
def sumT (f:Int→Nat):List (Int×Int)→Int
 | []=>0
 | x::l=>x.2*f x.1+sumT f l
theorem dotI_coef(f:Int→Nat)(pr:List Int)(hd:pr.Nodup):∀ l:List (Int×Int),(∀ x∈l,x.1∈pr)→dotI (pr.map fun p=>(f p:Int)) (pr.map fun p=>coefP p l)=sumT f l
 | [],_=>by
  simp only[coefP,sumT];have e:∀ u v:List Int,dotI u (v.map fun _=>0)=0:=by
   intro u
   induction u with
   | nil=>intro v;cases v<;>rfl
   | cons a u ih =>
    intro v;cases v with
    | nil=>rfl
    | cons b v=>simp only[List.map_cons,dotI];rw[ih];simp
  exact e _ _
 | x::l,h=>by
  have ih:=dotI_coef f pr hd l fun y hy=>h y (List.mem_cons_of_mem _ hy)
  simp only[coefP,sumT];rw[Zoe [] [],ih,Zsz _ _ _ pr hd (h x List.mem_cons_self)]
theorem Zel(p:Int):∀ l:List (Int×Int),p ∉ l.map Prod.fst→coefP p l=0
 | [],_=>rfl
 | x::l,h=>by
  simp only[List.map_cons,List.mem_cons,not_or] at h;rw[coefP,if_neg (fun e=>h.1 e.symm),Zel p l h.2];rfl
theorem coefP_mem:∀ l:List (Int×Int),(l.map Prod.fst).Nodup→∀ x∈l,coefP x.1 l=x.2
 | [],_,_,h=>by cases h
 | y::l,hd,x,h=>by
  simp only[List.map_cons,List.nodup_cons] at hd;rcases List.mem_cons.1 h with rfl|h
  ·rw[coefP,if_pos rfl,Zel _ l hd.1];omega
  ·rw[coefP,if_neg (fun e=>hd.1 (by rw[e];exact List.mem_map.2 ⟨x,h,rfl⟩)),coefP_mem l hd.2 x h];omega
theorem coefP_le(K:Nat)(l:List (Int×Int))(hd:(l.map Prod.fst).Nodup)(hK:∀ x∈l,x.2.natAbs≤K)(p:Int):(coefP p l).natAbs≤K:=by
 by_cases h:p∈l.map Prod.fst
 ·obtain⟨x,hx,rfl⟩:=List.mem_map.1 h;rw[coefP_mem l hd x hx];exact hK x hx
 ·rw[Zel p l h];simp
theorem hiS_le(f:Int→Nat)(K:Nat):∀ l:List (Int×Int),(∀ x∈l,x.2.natAbs≤K)→hiS f l≤loS f l+l.length*K
 | [],_=>by simp[hiS,loS]
 | x::l,h=>by
  have ih:=hiS_le f K l fun y hy=>h y (List.mem_cons_of_mem _ hy)
  have hx:=h x List.mem_cons_self;have e:hiL f x.1≤f x.1+1:=by unfold hiL;split<;>omega
  have e2:x.2.toNat*hiL f x.1≤x.2.toNat*(f x.1+1):=Nat.mul_le_mul_left _ e;rw[Nat.mul_add] at e2;rw[hiS,loS,List.length_cons,Nat.add_mul];omega
theorem sumT_eq(f:Int→Nat):∀ l:List (Int×Int),sumT f l=(loS f l:Int)-(loS f (negT l):Int)
 | []=>rfl
 | x::l=>by
  have ih:=sumT_eq f l;have e:negT (x::l)=(x.1,-x.2)::negT l:=rfl;rw[sumT,ih,e,loS,loS];rw[Int.natCast_add,Int.natCast_add,Int.natCast_mul,Int.natCast_mul];have h:x.2=(x.2.toNat:Int)-((-x.2).toNat:Int):=by omega
  generalize (x.2.toNat:Int)=a at *
  generalize ((-x.2).toNat:Int)=b at *
  rw[h]
  grind
theorem ends_decide{a d:Int}{pr:List Int}{f:Int→Nat}{U V:List (List Int)}{K S:Nat}(hc:Zol a (pr.map fun p=>(f p:Int)) U V d K S=true)(hp:pr.Nodup)(l:List (Int×Int))(hl:l.length*K≤S)(hne:l≠[])
  (hm:∀ x∈l,x.1∈pr∧x.2≠0∧x.2.natAbs≤K) (hd:(l.map Prod.fst).Nodup):hiS f (negT l)≤loS f l∨hiS f l≤loS f (negT l):=by
 have h1:=hiS_le f K l fun x hx=>(hm x hx).2.2
 have h2:=hiS_le f K (negT l) (by
  intro x hx;obtain⟨y,hy,rfl⟩:=List.mem_map.1 hx;have:=(hm y hy).2.2
  show (-y.2).natAbs≤K
  omega)
 have e:(negT l).length=l.length:=by simp[negT]
 rw[e] at h2;have h3:=sumT_eq f l
 by_cases hT:(sumT f l).natAbs<S
 ·exfalso;rw[← dotI_coef f pr hp l fun x hx=>(hm x hx).1] at hT
  have h4:=Zs8 hc (pr.map fun p=>coefP p l) (by simp) (by
   intro x hx;obtain⟨p,_,rfl⟩:=List.mem_map.1 hx;exact coefP_le K l hd (fun y hy=>(hm y hy).2.2) p) hT
  match l,hne with
  | x::r,_ =>
   have h5:=h4 _ (List.mem_map.2 ⟨x.1,(hm x List.mem_cons_self).1,rfl⟩);rw[coefP_mem _ hd x List.mem_cons_self] at h5;exact(hm x List.mem_cons_self).2.1 h5
 ·omega
def certL:List Int:=[179769313486231590772930519078902473361797697894230657273430081157732675805500963132708477322407536021120113879871393357658789768814416622492847430639474124377767893424865485276302219601246094119453082952085005768838150682342462881473913110540827237163350510684586298239947245938479716304835356329624224137216,284927620656063089346731796384423062894173922742544388268143673752537756183546571537032060353371466816773127126641744722713352439279873718317761842880439823388246733129821933154999969794940367169528507713597703293501225656468836512330451109106556546484957172329017475735990380315252547391823925065085415830706,417411419582294732896156489886154238448013320157255640262591015340590871398055171674354685851436277043969488387805834784269416499993679630854470083136767565961762416444355884854643698642680661331046329726609798457044907851814692689997919935740891485193992980213442174017676677705033790300799565328174789721477,504676267050488686437106225422580597666894180115835423443227083307798182118129470961836692572602004275197053008847790122226159407050037386686227374490996006831065115100048654528796805287857493370208467706711144940390867662095296958256666553836865344662997681178618211252555414200909783814338893188237609625780,621899647134989863023931440843230302890983592943748869067988172264563165309608343386292530753941856327296297447054373896510077744639892806611394391743834589735893855764598242929310750820193556622274206181954361442867402987237247717098957447016989915817775870019501087911877572648074267091007255239964369023968,665225507727408465455298695894691710776360314087386563812869573730968267223165639273012984180830913649657093046906068992579944353826624953775464535759564037586356204133016200974813196209296864512605219833214582093815415417608006173877679388939375373503941628536552970450384072436140060704944322076520073283839]
def Qaz:List (List Int):=[[1361033472052420067100991309064931182091716853391540550899091113545676748165654069454734507830540625923066749738613742662526501494649565328672781710912470855,2157187015429401542138602315378835738079865318741913695197763694877679196962452355322909935492129080345135728398755778866915216677702864904886518349498144093,3160221856840607851781685108452959817026979136557082784519095198183545416828782748691856911460833185893891199012493182590421586823167653542796686423181411803,3820904016851512035743762372109566630477041885378486680143976467669200300212202542157276498189701081899028256409122481989077119745557940859571796331901780602,4708402227241844230881350710329385429292965180311929874646927949603148181156687490795565250855988629463347595457426767248645121403373850130316622376205655824,5036422317702249347264984242308634347603162440235819245412201338095351364705523284785619822633893970185542775747311911336783041820236677902723153542003541995],
 [299687973565947336953693908348658651332127021025370730890883623972659747075648952750207292919729408951165823130818603758290601433328042680561826125489066428,474994200019139640690896719015381054735292729699790408945830646826654284457084852625941217336849063751168404185314953447875618807762968794960545658399964795,695853925522634307249243517247788056805708280722354982344522670436784936810433857855919843198532036588375876439367016064304325129116049564645826288286436995,841330507671831406218103970697802099080070115711533135025373126392723083358858942563189157022256615979955037365105244659930907228808843221236499661374110289,1036750051479376748850033988793626597154995220661079736838726668451637290619206291200505783075082688000877676034076233903503798073310428799011686117489740735,1108977280432649241595140457724586490268455016437124571879230895310093956060594635296497046358777904624265570982229960398488559448522718359131628436452776618],
 [2001432095227681370883033031250657280124239008502396240436193329269779899751073734437881335263033118934661407649401662184445142860843476241971244864603027187,3172194818675649062031549948976346458446291575480633127138527180430090144149945657870703384176547217957998590193298519253946520383353142275844076215046404066,4647181411918432184657996063106137228541057445042859272797028758732513247711022952874593278003645411586711998681909461184937906440067320029532798507864848774,5618730243701494716647491390234016366368147732801005815257985401286419595231562467358169747618992550500502402060613155528580022043540105943291290066113212642,6923817472786135026020292681272359069572685393380617174853881444661977508302607758245986734774019457876979478431489431680461110991886850855640535885324347296,7406178818342856776067456999577349708314416427421774025318657928833991150289316239750934511444397348343774950016253631819156198089215566095848780701490864144],
 [528536423608438686412855271308878199418637088432614320111589911024224382198177128949494362669026076740489188478845726431331723513448155828996706397443325180,837710411684647310522312564104097923139117177113334471362723484405395424151008043983617035281865417395962957088666166267423693251318731944589703713618244329,1227223571147721963246630617648243717815284933494361643201768985968400112439714151460557394407565771139456530795453357502363423731760793034538519393449417404,1483789330303873215968878480452065504812046379488041405674753539793795422454494893163083848604039861079831537330639296756576330493295598940741832154454008688,1828435615432509255958100752235191297210724831090028852837000190432020360373150501910418670178265213952829967280722348250891518419506460528213470146761147669,1955817174404911741025196141353996465572258277146385975044836535532311654150798060211842806764077658974214099154631403207719281988005843100572202176183955081],
 [-1468711569869691212917947732134083722669835323809775214024289413578456753408037268869249086956462231433613497000907220577351639694601234134310649204034172316,-2327852762618760886438615551826346136370330168494265847894449738559028087832799593039841031943095790346604355658488125946578561954780542160298345901268352557,-3410242657366559293362990450499318662931329652440687467996352748484304130112546146565531321508257651827946757887834523977466162302035935620424198790339117028,-4123194654756628344277387666377040541457073401299737549360184284561605431593927292627723203544564083235736204424728469325429173003124213574712357752737593408,-5080907243465631775491331725106607667567794020555851403113895506647993464455619343303375350433823317991140303009422864311178241460123997725934828520026953170,-5434878627639161137069877451178110586761807883549011422834890840123801581219167459321135220817687924522379993148257513492372263375648300907571638870552930820],
 [-2527278727899951042357277652887687714676139814654455825895183801797394312577171470996587787488447973546590744938596754242248050652665729495409064860168750388,-4005642012591688830853788306767450225437525695850649207367482469960977507820045796608400918880715182390339297186644147711819811945556751576743803637464260210,-5868159481922089932185961686356109783421000151793657433855863935794100273872111461436697788866984813598223636272238364084392763747068349791942404099818116664,-7094968376181407917698486220318039050815038790087114445294460660285453776174777870811938078891803417542019334178004801170201148860672020225345222745338937759,-8742947940406537175524478993752549231321711125631551583381469936189250544112233396909737085879577827848253228263908699479854100689968661105092076296067226517,-9352042583534072783038683109624319367784842669410329692573031045141955386391775295867783423242100705425423420660519481116735025587912157359844666391581864370]]
def Qay:List (List Int):=[[-5056625427619646027375557688934,22492767048728521515228088672644,100757843318868131663255231251409,-109175424216025810518427626349458,43791622722594357708666376464250,31456010246780842523074201168758],
 [14843321736870989170892935211302,-1566413707272055504716434875294,-13231873144781301898553196621410,-4473938268507226690064737724278,-7234649816335129238870443013471,597916375160099280812978039558],
 [-10106195131634014064109565408074,-23752526617964760938273316614011,-2161618493810056733233408947394,11217398622667791280982723293654,-1919025075220832533891098335435,-6509868020063796828750396523277],
 [6851462341036060952856831869449,6038656074418965050194601037329,-11645716143813286921558515426769,2256681498008609696986867869759,5109170126994287454266492989097,-7313988198921797883712129588856],
 [-20280857652371422586076982416269,3240353442599273281533504304323,-6207198472621478050629739916295,10933570427373787624652298476831,-12444462319387663796445073593709,-5934842575408006771328159897859],
 [15112292982976400489100645344947,1886037157824657007738630660331,-5566814279214676496689364407767,12447496499081282177953624596476,226561372143848006543391518164,6425156145734365554949928231685]]
theorem cert_ok:Zol (2^1024) certL Qaz Qay 1 (2^100) (2^503)=true:=by decide +kernel
end Go.Proofs.YtnjedhgcfeoemaaGreatDoor.LN

namespace Go.Proofs.YtnjedhgcfeoemaaGreatDoor
def Zgp (unit:Nat):Nat→Nat×Nat×Nat→Option (Nat×Nat×Nat)
 | 0,s=>some s
 | n+1,s=>(Qz unit s).bind (Zgp unit n)
theorem Zh1(unit:Nat):∀ (n:Nat) (s:Nat×Nat×Nat),Zgp unit (n+1) s=(Zgp unit n s).bind (Qz unit)
 | 0,s=>by simp[Zgp]
 | n+1,s=>by
  show (Qz unit s).bind (Zgp unit (n+1))=((Qz unit s).bind (Zgp unit n)).bind (Qz unit)
  cases Qz unit s with
  | none=>rfl
  | some t=>exact Zh1 unit n t
theorem Zm0(p more:Nat):∀ n,Vm p more n=Zgp (2^more) n (p*2^(more-p.log2),p*2^(more-p.log2),p.log2)
 | 0=>rfl
 | n+1=>by rw[Zh1,← Zm0 p more n];rfl
theorem Zmj(unit:Nat):∀ (n lo hi out:Nat),LN.lgGo unit n lo hi out=(Zgp unit n (lo,hi,out)).map fun s=>s.2.2
 | 0,_,_,_=>rfl
 | n+1,lo,hi,out=>by
  unfold LN.lgGo Zgp Qz;simp only;split
  ·rw[Zmj unit n];rfl
  ·split
   ·rfl
   ·rw[Zmj unit n];rfl
theorem Zsc(p n more:Nat):LN.lg p p.log2 n more=(Vm p more n).map fun s=>s.2.2:=by
 rw[Zm0];exact Zmj _ _ _ _ _
structure Zv9 (u:Nat) (s t:Nat×Nat×Nat):Prop where
 lo:s.1*u≤t.1
 hi:t.2.1≤s.2.1*u
 out:t.2.2=s.2.2
 le:t.1≤t.2.1
theorem Zp4{unit u:Nat}(hu:0<u)(h0:0<unit){s t s':Nat×Nat×Nat}(h:Zv9 u s t)(hs:Qz unit s=some s'):∃ t',Qz (unit*u) t=some t'∧Zv9 u s' t':=by
 obtain⟨l,g,o⟩:=s;obtain⟨l2,g2,o2⟩:=t;obtain⟨hl,hg,ho,hle⟩:=h;simp only at hl hg ho hle;subst ho;have q1:l*l/unit*u≤l2*l2/(unit*u):=by
  rw[Nat.le_div_iff_mul_le (Nat.mul_pos h0 hu)];have a:=Nat.div_mul_le_self (l*l) unit
  calc l*l/unit*u*(unit*u)=(l*l/unit*unit)*(u*u):=by ac_rfl
   _≤l*l*(u*u):=Nat.mul_le_mul_right _ a
   _=(l*u)*(l*u):=by ac_rfl
   _≤_:=Nat.mul_le_mul hl hl
 have q2:g2*g2/(unit*u)+1≤(g*g/unit+1)*u:=by
  rw[Nat.add_one_le_iff,Nat.div_lt_iff_lt_mul (Nat.mul_pos h0 hu)];have a:=Nat.lt_div_mul_add (a:=g*g) h0;have b:g*g<(g*g/unit+1)*unit:=by rw[Nat.add_mul,Nat.one_mul];exact a
  calc g2*g2≤(g*u)*(g*u):=Nat.mul_le_mul hg hg
   _=g*g*(u*u):=by ac_rfl
   _<(g*g/unit+1)*unit*(u*u):=Nat.mul_lt_mul_of_pos_right b (Nat.mul_pos hu hu)
   _=_:=by ac_rfl
 have q3:l2*l2/(unit*u)≤g2*g2/(unit*u)+1:=Nat.le_succ_of_le (Nat.div_le_div_right (Nat.mul_le_mul hle hle));have e2:2*(unit*u)=2*unit*u:=by rw[Nat.mul_assoc]
 simp only[Qz] at hs ⊢;generalize l*l/unit=A at *
 generalize g*g/unit+1=B at *
 generalize l2*l2/(unit*u)=A2 at *
 generalize g2*g2/(unit*u)+1=B2 at *
 by_cases h1:2*unit≤A
 ·rw[if_pos h1] at hs;cases hs
  have h2:2*(unit*u)≤A2:=by rw[e2];exact Nat.le_trans (Nat.mul_le_mul_right _ h1) q1
  rw[if_pos h2];refine⟨_,rfl,?_,?_,rfl,by simp only;omega⟩
  ·show A/2*u≤A2/2
   rw[Nat.le_div_iff_mul_le (by decide)]
   calc A/2*u*2=A/2*2*u:=by ac_rfl
    _≤A*u:=Nat.mul_le_mul_right _ (Nat.div_mul_le_self _ _)
    _≤_:=q1
  ·show B2/2+1≤(B/2+1)*u
   have h3:B2/2<(B/2+1)*u:=by
    rw[Nat.div_lt_iff_lt_mul (by decide)]
    have h4:B+1≤(B/2+1)*2:=by omega
    have h5:(B+1)*u≤(B/2+1)*2*u:=Nat.mul_le_mul_right _ h4;have h6:(B/2+1)*2*u=(B/2+1)*u*2:=by ac_rfl
    rw[Nat.add_mul] at h5;omega
   exact h3
 ·rw[if_neg h1] at hs
  by_cases h2:2*unit≤B
  ·rw[if_pos h2] at hs;cases hs
  ·rw[if_neg h2] at hs;cases hs
   have h3:B2<2*(unit*u):=by
    rw[e2];exact Nat.lt_of_le_of_lt q2 (Nat.mul_lt_mul_of_pos_right (by omega) hu)
   rw[if_neg (by omega),if_neg (by omega)]
   exact⟨_,rfl,q1,q2,rfl,q3⟩
theorem Zn6{unit u:Nat}(hu:0<u)(h0:0<unit):∀ (n:Nat) {s t s':Nat×Nat×Nat},Zv9 u s t→Zgp unit n s=some s'→∃ t',Zgp (unit*u) n t=some t'∧Zv9 u s' t'
 | 0,s,t,s',h,hs=>by cases hs;exact⟨t,rfl,h⟩
 | n+1,s,t,s',h,hs=>by
  obtain⟨m,h1,h2⟩:=Option.bind_eq_some_iff.1 hs;obtain⟨m',h3,h4⟩:=Zp4 hu h0 h h1;obtain⟨t',h5,h6⟩:=Zn6 hu h0 n h4 h2;exact⟨t',by show (Qz (unit*u) t).bind _=_;rw[h3];exact h5,h6⟩
theorem Zs0{p more m2 n:Nat}(hp:p.log2≤more)(hm:more≤m2){s:Nat×Nat×Nat}(h:Vm p more n=some s):∃ t,Vm p m2 n=some t∧t.2.2=s.2.2:=by
 rw[Zm0] at h ⊢;have e:(2:Nat)^m2=2^more*2^(m2-more):=by rw[← Nat.pow_add];congr 1;omega
 have e2:p*2^(m2-p.log2)=p*2^(more-p.log2)*2^(m2-more):=by rw[Nat.mul_assoc,← Nat.pow_add];congr 2;omega
 obtain⟨t,h1,h2⟩:=Zn6 (Nat.two_pow_pos (m2-more)) (Nat.two_pow_pos more) n (s:=(p*2^(more-p.log2),p*2^(more-p.log2),p.log2)) (t:=(p*2^(m2-p.log2),p*2^(m2-p.log2),p.log2)) ⟨by rw[e2];exact Nat.le_refl _,by rw[e2];exact Nat.le_refl _,rfl,Nat.le_refl _⟩ h
 rw[e];exact⟨t,h1,h2.out⟩
theorem Zan{p more:Nat}:∀ {n m:Nat},m≤n→(Vm p more n).isSome=true→(Vm p more m).isSome=true
 | 0,m,h,hs=>by rw[Nat.le_zero.1 h];exact hs
 | n+1,m,h,hs=>by
  rcases Nat.lt_or_eq_of_le h with h|h
  ·refine Zan (Nat.lt_succ_iff.1 h) ?_;cases hd:Vm p more n with
   | none=>rw[Vm,hd] at hs;cases hs
   | some s=>rfl
  ·rw[h];exact hs
theorem Zgn{p n more:Nat}(h:(LN.lg p p.log2 n more).isSome=true):(Vm p more n).isSome=true:=by
 rw[Zsc] at h
 simpa using h
def Yt:List Nat:=[3,5,7,11,13,17,19,23,29,31,37,41,43,47,53,59,61,67,71,73,79,83,89,97]
theorem Zza:Yt.all (fun p=>(LN.lg p p.log2 1056 1120).isSome)=true:=by decide +kernel
theorem Zfd{p:Nat}(h:p∈Yt):p.log2≤6:=by
 have:∀ q∈Yt,q.log2≤6:=by decide
 exact this p h
theorem Yg{p:Nat}(h:p∈Yt):p%2=1∧3≤p∧p≤97:=by
 have:∀ q∈Yt,q%2=1∧3≤q∧q≤97:=by decide
 exact this p h
theorem Zje{p n more:Nat}(hp:p∈Yt)(hn:n≤1056)(hm:1120≤more):(Vm p more n).isSome=true:=by
 have h:=Zza;rw[List.all_eq_true] at h;have h1:=Zan (m:=n) hn (Zgn (h p hp));have hl:=Zfd hp;obtain⟨s,hs⟩:=Option.isSome_iff_exists.1 h1;obtain⟨t,ht,_⟩:=Zs0 (m2:=more) (by omega) (by omega) hs
 rw[ht];rfl
theorem Zn4{p N a b:Nat}(h1:Zyj p N a)(h2:Zyj p N b):a=b:=by
 have e1:2^a<2^(b+1):=Nat.lt_of_le_of_lt h1.1 h2.2;have e2:2^b<2^(a+1):=Nat.lt_of_le_of_lt h2.1 h1.2;have f1:=(Nat.pow_lt_pow_iff_right (by decide)).1 e1
 have f2:=(Nat.pow_lt_pow_iff_right (by decide)).1 e2
 omega
def lgN (p:Int) (n:Nat):Nat:=if p=2 then 2^n else match Vm p.toNat 1120 n with
 | some s=>s.2.2
 | none=>0
theorem Zds{p n more:Nat}(hp:p∈Yt)(hn:n≤1056)(hm:6≤more){s:Nat×Nat×Nat}(h:Vm p more n=some s):s.2.2=lgN p n:=by
 have hl:=Zfd hp;have ho:=Yg hp;have h1:=(Zdt p more (by omega) (by omega) n s h).lg
 obtain⟨t,ht⟩:=Option.isSome_iff_exists.1 (Zje hp hn (Nat.le_refl 1120));have h2:=(Zdt p 1120 (by omega) (by omega) n t ht).lg
 have e:lgN p n=t.2.2:=by
  unfold lgN;rw[if_neg (by omega),Int.toNat_natCast,ht]
 rw[e];exact Zn4 h1 h2
theorem Zn0{p n:Nat}(hp:p∈Yt)(hn:n≤1056):Zyj p (2^n) (lgN p n):=by
 have hl:=Zfd hp;have ho:=Yg hp;obtain⟨t,ht⟩:=Option.isSome_iff_exists.1 (Zje hp hn (Nat.le_refl 1120));have h2:=(Zdt p 1120 (by omega) (by omega) n t ht).lg
 rw[Zds hp hn (by decide) ht] at h2
 exact h2
theorem Yl(n:Nat):lgN 2 n=2^n:=by unfold lgN;rw[if_pos rfl]
theorem Zgc{p n:Nat}(hp:p=2∨p∈Yt)(hn:n≤1056):lgN p n<7*2^n:=by
 rcases hp with rfl|hp
 ·have:=Nat.two_pow_pos n
  rw[show ((2:Nat):Int)=2 from rfl,Yl];omega
 ·have ho:=Yg hp;have h:=(Zn0 hp hn).1;have h1:p^(2^n)<(2^7)^(2^n):=Nat.pow_lt_pow_left (by omega) (Nat.ne_of_gt (Nat.two_pow_pos n))
  rw[← Nat.pow_mul] at h1;have h2:=Nat.lt_of_le_of_lt h h1;exact(Nat.pow_lt_pow_iff_right (by decide)).1 h2
theorem Zxg(p:Nat)(h:p%2=1)(m:Nat):p^m%2=1:=by
 induction m with
 | zero=>rfl
 | succ m ih=>rw[Nat.pow_succ,Nat.mul_mod,ih,h]
theorem Zzb{p n:Nat}(hp:p=2∨p∈Yt)(hn:n≤1056):LN.LogAt n (p:Int) (lgN p n):=by
 rcases hp with rfl|hp
 ·rw[show ((2:Nat):Int)=2 from rfl,Yl]
  exact⟨Nat.le_refl _,Nat.pow_lt_pow_right (by decide) (by omega),fun _=>rfl,fun h=>absurd rfl h⟩
 ·have ho:=Yg hp;obtain⟨h1,h2⟩:=Zn0 hp hn;refine⟨by rw[Int.toNat_natCast];exact h1,by rw[Int.toNat_natCast];exact h2,fun h=>by omega,fun _=>?_⟩
  rw[Int.toNat_natCast];refine Nat.lt_of_le_of_ne h1 fun e=>?_
  have h3:=Zxg p ho.1 (2^n);rw[← e] at h3
  by_cases h0:lgN p n=0
  ·rw[h0] at h2;have:p^1≤p^(2^n):=Nat.pow_le_pow_right (by omega) (Nat.two_pow_pos n)
   rw[Nat.pow_one] at this;omega
  ·obtain⟨k,hk⟩:=Nat.exists_eq_succ_of_ne_zero h0;rw[hk,Nat.pow_succ] at h3;omega
end Go.Proofs.YtnjedhgcfeoemaaGreatDoor

namespace Go.Proofs.YtnjedhgcfeoemaaGreatDoor
open Go.RowKit
theorem Zde:dec 2=⟨#[50]⟩:=by
 have:(dec 2).data = #[50]:=by decide +kernel
 exact ByteArray.ext this
theorem Ve{x K:Nat}(h:x<2^K)(hK:K<100000):Num x:=by
 unfold Num;have h1:(dec x).size≤K+1:=by
  rw[Yz _ _ (by omega)]
  exact Nat.lt_of_lt_of_le h (Nat.le_trans (Nat.pow_le_pow_left (by decide) K) (Nat.pow_le_pow_right (by decide) (by omega)))
 omega
theorem Ztz(w:World)(n:Nat)(hn:n≤4000)(L:Qb w):Kc Tryz.prog 18 #[.string ⟨#[50]⟩,.int .i64 n] w (.tuple #[.string (dec (2^n)),.int .i64 0]):=by
 unfold Kc;have hs:=Vt w 2;rw[show itx 2=dec 2 by exact Kj 2,show ((2:Int).natAbs)=2 from rfl,Zde,decide_eq_false (by decide)] at hs
 have Hs:=hd_ hs;have Hp:Hid (∀ W,Below w.heap.size w W→Kc Tryz.prog 69 #[.string ⟨#[50]⟩,.int .i64 n] W (.tuple #[.string (dec (2^n)),.int .i64 0])):=fun W hW=>by
  have:=Zpg W n hn (L.below hW)
  rw[Zde] at this;exact this
 have hN:Num (2^n):=Ve (K:=n+1) (Nat.pow_lt_pow_right (by decide) (by omega)) (by omega)
 have Hj:Hid (∀ W,Kc Tryz.prog 70 #[.bool false,.string (dec (2^n))] W (.string (dec (2^n)))):=fun W=>by
  have:=Vg W false (2^n) hN
  rw[show jz false (2^n)=((2^n:Nat):Int) from rfl,Kj] at this
  exact this
 clear hs L hN;generalize dec (2^n)=s at *
 have h0:¬ (n:Int)<0:=by omega
 have h1:¬ (4000:Int)<n:=by omega
 have hsz:((⟨#[50]⟩:ByteArray).size:Int)=1:=rfl;go_enter Tryz.func18,Tryz.ntmps18
 go_wp2_with fail
 refine cm_ Hs.out ?_;rintro e w1 ⟨rfl,hb⟩;have B1:=hd_ hb;clear hb Hs
 go_wp2_with fail
 refine cm_ (Hp.out _ B1.out) ?_;rintro e w2 ⟨rfl,hb⟩;have B2:=hd_ (B1.out.trans (hb.mono B1.out.size));clear hb Hp B1
 go_wp2_with fail
 refine cm_ (Hj.out _) ?_;rintro e w3 ⟨rfl,hb⟩;have B3:=hd_ (B2.out.trans (hb.mono B2.out.size));clear hb Hj B2
 go_wp2_with fail
 go_ret2
 exact⟨rfl,B3.out⟩
theorem Zv5(w:World)(a b K:Nat)(hK:K<90000)(ha:a<2^K)(hb:b<2^K)(L:Qb w):Kc Tryz.prog 20 #[.string (dec a),.string (dec b)] w (.string (dec (a+b))):=by
 have hn:=Ve ha (by omega)
 have hm:=Ve hb (by omega)
 have hs:Num (a+b):=Ve (K:=K+1) (by rw[Nat.pow_succ];omega) (by omega)
 have:=Zfi w (a:Int) (b:Int) hn hm hs L
 rw[← Int.natCast_add,Kj,Kj,Kj] at this;exact this
theorem Qae(w:World)(a b K:Nat)(hK:K<40000)(ha:a<2^K)(hb:b<2^K)(L:Qb w):Kc Tryz.prog 115 #[.string (dec a),.string (dec b)] w (.string (dec (a*b))):=by
 have hn:=Ve ha (by omega)
 have hm:=Ve hb (by omega)
 have hs:Za7 ((a:Int)*b):=Ve (K:=K+K) (by rw[← Int.natCast_mul,Int.natAbs_natCast,Nat.pow_add];exact Nat.mul_lt_mul'' ha hb) (by omega)
 have:=Yu w (a:Int) (b:Int) hn hm hs L
 rw[← Int.natCast_mul,Kj,Kj,Kj] at this;exact this
theorem Zzy(w:World)(a b K:Nat)(hK:K<90000)(ha:a<2^K)(hb:b<2^K)(h0:0<b)(L:Qb w):Kc Tryz.prog 163 #[.string (dec a),.string (dec b)] w (.tuple #[.string (dec (a/b)),.string (dec (a%b)),.int .i64 0]):=by
 have hn:=Ve ha (by omega)
 have hm:=Ve hb (by omega)
 have hs:Num ((a:Int).natAbs+1):=Ve (K:=K+1) (by rw[Int.natAbs_natCast,Nat.pow_succ];omega) (by omega)
 have:=Yc w (a:Int) b hn hm h0 hs L
 rw[(Zjb a b).1,(Zjb a b).2,Kj,Kj,Kj] at this;exact this
theorem Zzz(_w:World)(a b K:Nat)(hK:K<90000)(ha:a<2^K)(hb:b<2^K):∃ c:Int,(c = -1∨c=0∨c=1)∧(0≤c↔b≤a)∧∀ W,Kc Tryz.prog 114 #[.string (dec a),.string (dec b)] W (.int .i64 c):=by
 have hn:=Ve ha (by omega)
 have hm:=Ve hb (by omega)
 refine⟨Zd1 a b,?_,?_,fun W=>?_⟩
 ·unfold Zd1;split
  ·exact .inl rfl
  ·split
   ·exact .inr (.inl rfl)
   ·exact .inr (.inr rfl)
 ·unfold Zd1;split
  ·constructor<;>omega
  ·split
   ·constructor<;>omega
   ·constructor<;>omega
 ·have:=Zco W (a:Int) (b:Int) hn hm
  rw[Kj,Kj] at this;exact this
structure Qbl (more n:Nat) (s:Nat×Nat×Nat):Prop where
 lo:s.1<2*2^more
 hi:s.2.1<2*2^more
 out:s.2.2<2^(n+3)
theorem Zmi(p:Nat)(hp:2≤p)(hp2:p≤97):p.log2≤6:=by
 have:=(Nat.log2_lt (n:=p) (k:=7) (by omega)).2 (by omega)
 omega
theorem Zs1(p more:Nat)(hp:2≤p)(hp2:p≤97)(hm:64≤more):∀ n s,Vm p more n=some s→Qbl more n s
 | 0,s,h=>by
  simp only[Vm,Option.some.injEq] at h;subst h;have h1:p<2^(p.log2+1):=Nat.lt_log2_self;have h2:=Zmi p hp hp2;have h3:p*2^(more-p.log2)<2^(p.log2+1)*2^(more-p.log2):=Nat.mul_lt_mul_of_pos_right h1 (Nat.two_pow_pos _);rw[← Nat.pow_add,show p.log2+1+(more-p.log2)=1+more by omega,Nat.pow_add,Nat.pow_one] at h3
  exact⟨h3,h3,by show p.log2<2^3;omega⟩
 | n+1,s,h=>by
  simp only[Vm] at h;obtain⟨t,ht,hs⟩:=Option.bind_eq_some_iff.1 h;obtain⟨f1,f2,f3⟩:=Zs1 p more hp hp2 hm n t ht;obtain⟨l,g,o⟩:=t;simp only at f1 f2 f3;simp only[Qz] at hs;have hu:=Nat.two_pow_pos more;have hu2:2^1≤2^more:=Nat.pow_le_pow_right (by decide) (by omega)
  obtain⟨u,eu⟩:∃ u,2^more=u:=⟨_,rfl⟩;rw[eu] at hu hu2 f1 f2 hs;have q1:l*l/u<4*u:=by
   rw[Nat.div_lt_iff_lt_mul hu]
   calc l*l<2*u*(2*u):=Nat.mul_lt_mul'' f1 f1
    _=4*u*u:=by grind
  have q2:g*g/u+1≤4*u-3:=by
   have h1:g*g≤(2*u-1)*(2*u-1):=Nat.mul_le_mul (by omega) (by omega)
   have h2:g*g/u<4*u-3:=by
    rw[Nat.div_lt_iff_lt_mul hu];obtain⟨v,rfl⟩:∃ v,u=v+1:=⟨u-1,by omega⟩
    have e1:2*(v+1)-1=2*v+1:=by omega
    have e2:4*(v+1)-3=4*v+1:=by omega
    rw[e1] at h1;rw[e2];have e3:(2*v+1)*(2*v+1)=4*(v*v)+4*v+1:=by grind
    have e4:(4*v+1)*(v+1)=4*(v*v)+5*v+1:=by grind
    rw[e3] at h1;rw[e4];omega
   omega
  have eo:2^(n+1+3)=2*2^(n+3):=by rw[show n+1+3=n+3+1 by omega,Nat.pow_succ];omega
  by_cases h1:2*u≤l*l/u
  ·rw[if_pos h1] at hs;cases hs
   exact⟨by simp only;rw[eu];omega,by simp only;rw[eu];omega,by simp only;omega⟩
  ·rw[if_neg h1] at hs
   by_cases h2:2*u≤g*g/u+1
   ·rw[if_pos h2] at hs;cases hs
   ·rw[if_neg h2] at hs;cases hs
    exact⟨by simp only;rw[eu];omega,by simp only;rw[eu];omega,by simp only;omega⟩
def Zb4 (p n more:Nat):Value:=match Vm p more n with
 | some s => .tuple #[.string (dec s.2.2),.bool true]
 | none => .tuple #[.string ⟨#[]⟩,.bool false]
theorem Zkw{p more j n:Nat}(h:Vm p more j=none)(hj:j≤n):Vm p more n=none:=by
 cases hd:Vm p more n with
 | none=>rfl
 | some s =>
  have:=Zan (m:=j) hj (show (Vm p more n).isSome=true by rw[hd];rfl)
  rw[h] at this;cases this
theorem Zlt(w:World)(p n more:Nat)(hp:2≤p)(hp2:p≤97)(hn:n≤4000)(hm:64≤more)(hm2:more≤4000)(L:Qb w):
  Kc Tryz.prog 242 #[.int .i64 p,.int .i64 n,.int .i64 more] w (Zb4 p n more):=by
 unfold Kc;have hl:=Zmi p hp hp2;have hln:=hd_ (Tryz.bits_Len p w (by omega) (by omega))
 rw[show ((p:Nat):Int).toNat=p from rfl,Zen p (by omega) hp2] at hln
 have hw1:IntKind.i64.wrap (((p.log2+1:Nat):Int)-1)=(p.log2:Int):=by rw[show ((p.log2+1:Nat):Int)-1=(p.log2:Int) by omega];exact iw_ _ (by omega)
 have hw2:IntKind.u64.wrap (p:Int)=p:=IntWalk.u64_in _ (by omega)
 have hw3:IntKind.i64.wrap ((more:Int)-(p.log2:Int))=((more-p.log2:Nat):Int):=by rw[show (more:Int)-(p.log2:Int)=((more-p.log2:Nat):Int) by omega];exact iw_ _ (by omega)
 have HL:=hd_ L;clear L;obtain⟨K,hK⟩:∃ K:Nat,K=4050:=⟨_,rfl⟩;have HK:=hd_ hK;have Hm2:=hd_ hm2;have Hn:=hd_ hn;have Hdb:Hid (∀ j lo hi o,Vm p more j=some (lo,hi,o)→lo<2*2^more∧hi<2*2^more∧o<2^(j+3)):=fun j lo hi o h=>by
  have:=Zs1 p more hp hp2 hm j _ h
  exact⟨this.lo,this.hi,this.out⟩
 have Hnext:Hid (∀ j s,Vm p more j=some s→Vm p more (j+1)=Qz (2^more) s):=fun j s h=>by
  simp only[Vm,h,Option.bind_some]
 have Hu0:Hid (0<2^more):=Nat.two_pow_pos more;have Hu:Hid (2^more<2^K):=Nat.pow_lt_pow_right (by decide) (by omega)
 have Huu:Hid (2^more+2^more=2*2^more):=(Nat.two_mul _).symm;have Hu2:Hid (2*2^more<2^K):=by
  show _<_
  rw[Nat.mul_comm,← Nat.pow_succ];exact Nat.pow_lt_pow_right (by decide) (by omega)
 have Hp2:Hid (∀ W,Below w.heap.size w W→Kc Tryz.prog 18 #[.string ⟨#[50]⟩,.int .i64 more] W (.tuple #[.string (dec (2^more)),.int .i64 0])):=fun W hW=>Ztz W more hm2 (HL.out.below hW)
 have Hp3:Hid (∀ W,Below w.heap.size w W→Kc Tryz.prog 18 #[.string ⟨#[50]⟩,.int .i64 (more-p.log2:Nat)] W (.tuple #[.string (dec (2^(more-p.log2))),.int .i64 0])):=fun W hW=>Ztz W (more-p.log2) (by omega) (HL.out.below hW)
 have H0:Hid (Vm p more 0=some (p*2^(more-p.log2),p*2^(more-p.log2),p.log2)):=rfl;have Hof1:Hid (∀ W,Below w.heap.size w W→Kc Tryz.prog 73 #[.int .i64 p] W (.string (dec p))):=fun W hW=>by
  have:=Zah W p (by omega) (by omega) (HL.out.below hW)
  rw[Kj] at this;exact this
 have Hof2:Hid (∀ W,Below w.heap.size w W→Kc Tryz.prog 73 #[.int .i64 p.log2] W (.string (dec p.log2))):=fun W hW=>by
  have:=Zah W p.log2 (by omega) (by omega) (HL.out.below hW)
  rw[Kj] at this;exact this
 have Had1:Hid (∀ W,Below w.heap.size w W→Kc Tryz.prog 20 #[.string (dec (2^more)),.string (dec (2^more))] W (.string (dec (2*2^more)))):=fun W hW=>by
  have:=Zv5 W (2^more) (2^more) K (by have:=HK.out;omega) Hu.out Hu.out (HL.out.below hW)
  rw[Huu.out] at this;exact this
 have Hmu1:Hid (∀ W,Below w.heap.size w W→Kc Tryz.prog 115 #[.string (dec p),.string (dec (2^(more-p.log2)))] W (.string (dec (p*2^(more-p.log2))))):=fun W hW =>
  Qae W p (2^(more-p.log2)) (K+K) (by have:=HK.out;omega) (Nat.lt_of_lt_of_le (show p<2^7 by omega) (Nat.pow_le_pow_right (by decide) (by have:=HK.out;omega))) (Nat.pow_lt_pow_right (by decide) (by omega)) (HL.out.below hW)
 have B0:=hd_ (Below.refl w.heap.size w);have hnn:(n:Int)≤4000:=by omega
 rw[show ((more-p.log2:Nat):Int)=(more:Int)-(p.log2:Int) by omega] at Hp3
 clear hp hp2 hK hw3;have Hd1:=hd_ Vf;have Hd2:=hd_ Zde;generalize hlp:p.log2=lp at *
 clear hlp;generalize 2^more=unit at *
 generalize hvv:Zb4 p n more=vv at *
 have Hvv:=hd_ hvv;clear hvv;go_enter Tryz.func242,Tryz.ntmps242
 go_wp2_with fail
 refine cm_ hln.out ?_;rintro e w1 ⟨rfl,rfl⟩;clear hln
 go_wp2_with fail
 refine cm_ (Hp2.out _ B0.out) ?_;rintro e w2 ⟨rfl,hb⟩;have B2:=hd_ (B0.out.trans (hb.mono B0.out.size));clear hb B0
 go_wp2_with fail
 refine cm_ (Had1.out _ B2.out) ?_;rintro e w3 ⟨rfl,hb⟩;have B3:=hd_ (B2.out.trans (hb.mono B2.out.size));clear hb B2
 go_wp2_with fail
 refine cm_ (Hp3.out _ B3.out) ?_;rintro e w4 ⟨rfl,hb⟩;have B4:=hd_ (B3.out.trans (hb.mono B3.out.size));clear hb B3
 go_wp2_with fail
 refine cm_ (Hof1.out _ B4.out) ?_;rintro e w5 ⟨rfl,hb⟩;have B5:=hd_ (B4.out.trans (hb.mono B4.out.size));clear hb B4
 go_wp2_with fail
 refine cm_ (Hmu1.out _ B5.out) ?_;rintro e w6 ⟨rfl,hb⟩;have B6:=hd_ (B5.out.trans (hb.mono B5.out.size));clear hb B5
 go_wp2_with fail
 refine cm_ (Hof2.out _ B6.out) ?_;rintro e w7 ⟨rfl,hb⟩;have B7:=hd_ (B6.out.trans (hb.mono B6.out.size));clear hb B6
 go_wp2_with fail
 clear Hp2 Had1 Hp3 Hof1 Hmu1 Hof2;generalize p*2^(more-lp)=st at *
 go_loopw [14,15,16,50] (fun a b c i wr=>∃ (j lo hi o:Nat),j≤n∧Hid (Vm p more j=some (lo,hi,o))∧a = .string (dec lo)∧b = .string (dec hi)∧c = .string (dec o)∧i = .int .i64 j∧Hid (Below w1.heap.size w1 wr)) (fun _ _ _ i _=>n-(intOf i).toNat)
 case atStart=>exact⟨0,_,_,_,by omega,H0,rfl,rfl,rfl,rfl,B7⟩
 case round =>
  clear B7 H0;obtain⟨j,lo,hi,o,hj,Hd,rfl,rfl,rfl,rfl,B1⟩:=hrel
  by_cases hlt:j<n
  ·have hlt':(j:Int)<n:=by omega
   obtain⟨f1,f2,f3⟩:=Hdb.out j _ _ _ Hd.out;have g1:lo<2^K:=Nat.lt_trans f1 Hu2.out;have g2:hi<2^K:=Nat.lt_trans f2 Hu2.out;have g3:o<2^K:=Nat.lt_of_lt_of_le f3 (Nat.pow_le_pow_right (by decide) (by have:=Hn.out;have:=HK.out;omega))
   clear f1 f2 f3;have k1:lo*lo<2^(K+K):=by rw[Nat.pow_add];exact Nat.mul_lt_mul'' g1 g1
   have k2:hi*hi<2^(K+K):=by rw[Nat.pow_add];exact Nat.mul_lt_mul'' g2 g2
   have k3:unit<2^(K+K):=Nat.lt_trans Hu.out (Nat.pow_lt_pow_right (by decide) (by have:=HK.out;omega))
   have k4:2*unit<2^(K+K+1):=Nat.lt_trans Hu2.out (Nat.pow_lt_pow_right (by decide) (by have:=HK.out;omega))
   have k5:lo*lo/unit<2^(K+K):=Nat.lt_of_le_of_lt (Nat.div_le_self _ _) k1;have k6:hi*hi/unit<2^(K+K):=Nat.lt_of_le_of_lt (Nat.div_le_self _ _) k2;have one:1<2^(K+K):=Nat.one_lt_two_pow (by have:=HK.out;omega)
   have k7:hi*hi/unit+1<2^(K+K+1):=by rw[Nat.pow_succ 2 (K+K)];omega
   have k8:lo*lo/unit<2^(K+K+1):=Nat.lt_trans k5 (Nat.pow_lt_pow_right (by decide) (by have:=HK.out;omega))
   have k9:(hi*hi/unit+1)/2<2^(K+K+1):=Nat.lt_of_le_of_lt (Nat.div_le_self _ _) k7;have one1:1<2^(K+K+1):=Nat.one_lt_two_pow (by have:=HK.out;omega)
   have two1:2<2^(K+K+1):=by
    have:2^2≤2^(K+K+1):=Nat.pow_le_pow_right (by decide) (by have:=HK.out;omega)
    omega
   have g3':o<2^(K+K):=Nat.lt_trans g3 (Nat.pow_lt_pow_right (by decide) (by have:=HK.out;omega))
   have k10:o+o<2^(K+K+1):=by rw[Nat.pow_succ 2 (K+K)];omega
   have BL:=fun W (hW:Below wr.heap.size wr W)=>HL.out.below (B1.out.trans (hW.mono B1.out.size))
   have M1:Hid (∀ W,Below wr.heap.size wr W→Kc Tryz.prog 115 #[.string (dec lo),.string (dec lo)] W (.string (dec (lo*lo)))):=fun W hW=>Qae W lo lo K (by have:=HK.out;omega) g1 g1 (BL W hW)
   have M2:Hid (∀ W,Below wr.heap.size wr W→Kc Tryz.prog 115 #[.string (dec hi),.string (dec hi)] W (.string (dec (hi*hi)))):=fun W hW=>Qae W hi hi K (by have:=HK.out;omega) g2 g2 (BL W hW)
   have D1:Hid (∀ W,Below wr.heap.size wr W→Kc Tryz.prog 163 #[.string (dec (lo*lo)),.string (dec unit)] W (.tuple #[.string (dec (lo*lo/unit)),.string (dec (lo*lo%unit)),.int .i64 0])):=fun W hW=>Zzy W _ unit (K+K) (by have:=HK.out;omega) k1 k3 Hu0.out (BL W hW)
   have D2:Hid (∀ W,Below wr.heap.size wr W→Kc Tryz.prog 163 #[.string (dec (hi*hi)),.string (dec unit)] W (.tuple #[.string (dec (hi*hi/unit)),.string (dec (hi*hi%unit)),.int .i64 0])):=fun W hW=>Zzy W _ unit (K+K) (by have:=HK.out;omega) k2 k3 Hu0.out (BL W hW)
   have A1:Hid (∀ W,Below wr.heap.size wr W→Kc Tryz.prog 20 #[.string (dec (hi*hi/unit)),.string ⟨#[49]⟩] W (.string (dec (hi*hi/unit+1)))):=fun W hW=>by
    have:=Zv5 W _ 1 (K+K) (by have:=HK.out;omega) k6 one (BL W hW)
    rw[Hd1.out] at this;exact this
   have A2:Hid (∀ W,Below wr.heap.size wr W→Kc Tryz.prog 20 #[.string (dec o),.string (dec o)] W (.string (dec (o+o)))):=fun W hW=>Zv5 W o o K (by have:=HK.out;omega) g3 g3 (BL W hW)
   have A3:Hid (∀ W,Below wr.heap.size wr W→Kc Tryz.prog 20 #[.string (dec (o+o)),.string ⟨#[49]⟩] W (.string (dec (o+o+1)))):=fun W hW=>by
    have:=Zv5 W _ 1 (K+K+1) (by have:=HK.out;omega) k10 one1 (BL W hW)
    rw[Hd1.out] at this;exact this
   have D3:Hid (∀ W,Below wr.heap.size wr W→Kc Tryz.prog 163 #[.string (dec (lo*lo/unit)),.string ⟨#[50]⟩] W (.tuple #[.string (dec (lo*lo/unit/2)),.string (dec (lo*lo/unit%2)),.int .i64 0])):=fun W hW=>by
    have:=Zzy W _ 2 (K+K+1) (by have:=HK.out;omega) k8 two1 (by decide) (BL W hW)
    rw[Hd2.out] at this;exact this
   have D4:Hid (∀ W,Below wr.heap.size wr W→Kc Tryz.prog 163 #[.string (dec (hi*hi/unit+1)),.string ⟨#[50]⟩] W (.tuple #[.string (dec ((hi*hi/unit+1)/2)),.string (dec ((hi*hi/unit+1)%2)),.int .i64 0])):=fun W hW=>by
    have:=Zzy W _ 2 (K+K+1) (by have:=HK.out;omega) k7 two1 (by decide) (BL W hW)
    rw[Hd2.out] at this;exact this
   have A4:Hid (∀ W,Below wr.heap.size wr W→Kc Tryz.prog 20 #[.string (dec ((hi*hi/unit+1)/2)),.string ⟨#[49]⟩] W (.string (dec ((hi*hi/unit+1)/2+1)))):=fun W hW=>by
    have:=Zv5 W _ 1 (K+K+1) (by have:=HK.out;omega) k9 one1 (BL W hW)
    rw[Hd1.out] at this;exact this
   obtain⟨c1,hc1,hc1',C1⟩:=Zzz wr (lo*lo/unit) (2*unit) (K+K+1) (by have:=HK.out;omega) k8 k4
   obtain⟨c2,hc2,hc2',C2⟩:=Zzz wr (hi*hi/unit+1) (2*unit) (K+K+1) (by have:=HK.out;omega) k7 k4
   have HC1:=hd_ C1;have HC2:=hd_ C2;have Hc1:=hd_ hc1';have Hc2:=hd_ hc2';have Hst:=hd_ (Hnext.out j _ Hd.out);simp only[Qz] at Hst;have Hoo:Hid (2*o=o+o):=Nat.two_mul o;rw[Hoo.out] at Hst;clear C1 C2 hc1' hc2' BL k1 k2 k3 k4 k5 k6 k7 k8 k9 k10 one one1 two1 g1 g2 g3 g3' Hoo;generalize lo*lo/unit=X1 at *
   generalize hi*hi/unit=X2 at *
   generalize lo*lo%unit=r1 at *
   generalize hi*hi%unit=r2 at *
   generalize lo*lo=q1 at *
   generalize hi*hi=q2 at *
   generalize X1%2=r3 at *
   generalize (X2+1)%2=r4 at *
   obtain⟨Y1,hY1⟩:∃ y,X1/2=y:=⟨_,rfl⟩;obtain⟨Y2,hY2⟩:∃ y,(X2+1)/2+1=y:=⟨_,rfl⟩;obtain⟨Y3,hY3⟩:∃ y,X2+1=y:=⟨_,rfl⟩;rw[hY1] at D3 Hst;rw[hY2] at A4 Hst;rw[hY3] at D4 A1 HC2 Hst Hc2 A4;clear hY1 hY2 hY3;generalize Y3/2=Y4 at *
   generalize dec lo=slo at *
   generalize dec hi=shi at *
   generalize dec o=so at *
   generalize o+o=oo at *
   have P0:=hd_ (Below.refl wr.heap.size wr);clear Hnext Hdb
   by_cases h1:0≤c1
   ·have Hst1:Hid (Vm p more (j+1)=some (Y1,Y2,oo+1)):=by
     show _=_
     rw[Hst.out,if_pos (Hc1.out.1 h1)]
    clear Hst Hc1 Hc2 HC2
    go_wp2_with fail
    refine cm_ (M1.out _ P0.out) ?_;rintro e w1 ⟨rfl,hb⟩;have P1:=hd_ (P0.out.trans (hb.mono P0.out.size));clear hb P0 M1
    go_wp2_with fail
    refine cm_ (D1.out _ P1.out) ?_;rintro e w2 ⟨rfl,hb⟩;have P2:=hd_ (P1.out.trans (hb.mono P1.out.size));clear hb P1 D1
    go_wp2_with fail
    refine cm_ (M2.out _ P2.out) ?_;rintro e w3 ⟨rfl,hb⟩;have P3:=hd_ (P2.out.trans (hb.mono P2.out.size));clear hb P2 M2
    go_wp2_with fail
    refine cm_ (D2.out _ P3.out) ?_;rintro e w4 ⟨rfl,hb⟩;have P4:=hd_ (P3.out.trans (hb.mono P3.out.size));clear hb P3 D2
    go_wp2_with fail
    refine cm_ (A1.out _ P4.out) ?_;rintro e w5 ⟨rfl,hb⟩;have P5:=hd_ (P4.out.trans (hb.mono P4.out.size));clear hb P4 A1
    go_wp2_with fail
    refine cm_ (A2.out _ P5.out) ?_;rintro e w6 ⟨rfl,hb⟩;have P6:=hd_ (P5.out.trans (hb.mono P5.out.size));clear hb P5 A2
    go_wp2_with fail
    refine cm_ (HC1.out _) ?_;rintro e w7 ⟨rfl,hb⟩;have P7:=hd_ (P6.out.trans (hb.mono P6.out.size));clear hb P6 HC1
    go_wp2_with fail
    refine cm_ (A3.out _ P7.out) ?_;rintro e w8 ⟨rfl,hb⟩;have P8:=hd_ (P7.out.trans (hb.mono P7.out.size));clear hb P7 A3
    go_wp2_with fail
    refine cm_ (D3.out _ P8.out) ?_;rintro e w9 ⟨rfl,hb⟩;have P9:=hd_ (P8.out.trans (hb.mono P8.out.size));clear hb P8 D3
    go_wp2_with fail
    refine cm_ (D4.out _ P9.out) ?_;rintro e w10 ⟨rfl,hb⟩;have P10:=hd_ (P9.out.trans (hb.mono P9.out.size));clear hb P9 D4
    go_wp2_with fail
    refine cm_ (A4.out _ P10.out) ?_;rintro e w11 ⟨rfl,hb⟩;have P11:=hd_ (P10.out.trans (hb.mono P10.out.size));clear hb P10 A4
    go_wp2_with fail
    have B9:=hd_ (B1.out.trans (P11.out.mono B1.out.size))
    go_roundw
    case rel=>exact⟨j+1,Y1,Y2,oo+1,by omega,Hst1,rfl,rfl,rfl,by go_num,B9⟩
    case measure=>simp[intOf];omega
   ·have h1':c1<0:=by omega
    by_cases h2:0≤c2
    ·have Hst1:Hid (Vm p more (j+1)=none):=by
      show _=_
      rw[Hst.out,if_neg (fun h=>h1 (Hc1.out.2 h)),if_pos (Hc2.out.1 h2)]
     have Hv1:Hid (vv = .tuple #[.string ⟨#[]⟩,.bool false]):=by
      show _=_
      rw[← Hvv.out];unfold Zb4;rw[Zkw Hst1.out (by omega)]
     clear Hst Hc1 Hc2 A3 D3 D4 A4
     go_wp2_with fail
     refine cm_ (M1.out _ P0.out) ?_;rintro e w1 ⟨rfl,hb⟩;have P1:=hd_ (P0.out.trans (hb.mono P0.out.size));clear hb P0 M1
     go_wp2_with fail
     refine cm_ (D1.out _ P1.out) ?_;rintro e w2 ⟨rfl,hb⟩;have P2:=hd_ (P1.out.trans (hb.mono P1.out.size));clear hb P1 D1
     go_wp2_with fail
     refine cm_ (M2.out _ P2.out) ?_;rintro e w3 ⟨rfl,hb⟩;have P3:=hd_ (P2.out.trans (hb.mono P2.out.size));clear hb P2 M2
     go_wp2_with fail
     refine cm_ (D2.out _ P3.out) ?_;rintro e w4 ⟨rfl,hb⟩;have P4:=hd_ (P3.out.trans (hb.mono P3.out.size));clear hb P3 D2
     go_wp2_with fail
     refine cm_ (A1.out _ P4.out) ?_;rintro e w5 ⟨rfl,hb⟩;have P5:=hd_ (P4.out.trans (hb.mono P4.out.size));clear hb P4 A1
     go_wp2_with fail
     refine cm_ (A2.out _ P5.out) ?_;rintro e w6 ⟨rfl,hb⟩;have P6:=hd_ (P5.out.trans (hb.mono P5.out.size));clear hb P5 A2
     go_wp2_with fail
     refine cm_ (HC1.out _) ?_;rintro e w7 ⟨rfl,hb⟩;have P7:=hd_ (P6.out.trans (hb.mono P6.out.size));clear hb P6 HC1
     go_wp2_with fail
     refine cm_ (HC2.out _) ?_;rintro e w8 ⟨rfl,hb⟩;have P8:=hd_ (P7.out.trans (hb.mono P7.out.size));clear hb P7 HC2
     go_wp2_with fail
     have B9:=hd_ (B1.out.trans (P8.out.mono B1.out.size))
     go_ret2
     exact⟨by rw[Hv1.out];rfl,B9.out⟩
    ·have h2':c2<0:=by omega
     have Hst1:Hid (Vm p more (j+1)=some (X1,Y3,oo)):=by
      show _=_
      rw[Hst.out,if_neg (fun h=>h1 (Hc1.out.2 h)),if_neg (fun h=>h2 (Hc2.out.2 h))]
     clear Hst Hc1 Hc2 A3 D3 D4 A4
     go_wp2_with fail
     refine cm_ (M1.out _ P0.out) ?_;rintro e w1 ⟨rfl,hb⟩;have P1:=hd_ (P0.out.trans (hb.mono P0.out.size));clear hb P0 M1
     go_wp2_with fail
     refine cm_ (D1.out _ P1.out) ?_;rintro e w2 ⟨rfl,hb⟩;have P2:=hd_ (P1.out.trans (hb.mono P1.out.size));clear hb P1 D1
     go_wp2_with fail
     refine cm_ (M2.out _ P2.out) ?_;rintro e w3 ⟨rfl,hb⟩;have P3:=hd_ (P2.out.trans (hb.mono P2.out.size));clear hb P2 M2
     go_wp2_with fail
     refine cm_ (D2.out _ P3.out) ?_;rintro e w4 ⟨rfl,hb⟩;have P4:=hd_ (P3.out.trans (hb.mono P3.out.size));clear hb P3 D2
     go_wp2_with fail
     refine cm_ (A1.out _ P4.out) ?_;rintro e w5 ⟨rfl,hb⟩;have P5:=hd_ (P4.out.trans (hb.mono P4.out.size));clear hb P4 A1
     go_wp2_with fail
     refine cm_ (A2.out _ P5.out) ?_;rintro e w6 ⟨rfl,hb⟩;have P6:=hd_ (P5.out.trans (hb.mono P5.out.size));clear hb P5 A2
     go_wp2_with fail
     refine cm_ (HC1.out _) ?_;rintro e w7 ⟨rfl,hb⟩;have P7:=hd_ (P6.out.trans (hb.mono P6.out.size));clear hb P6 HC1
     go_wp2_with fail
     refine cm_ (HC2.out _) ?_;rintro e w8 ⟨rfl,hb⟩;have P8:=hd_ (P7.out.trans (hb.mono P7.out.size));clear hb P7 HC2
     go_wp2_with fail
     have B9:=hd_ (B1.out.trans (P8.out.mono B1.out.size))
     go_roundw
     case rel=>exact⟨j+1,X1,Y3,oo,by omega,Hst1,rfl,rfl,rfl,by go_num,B9⟩
     case measure=>simp[intOf];omega
  ·have hlt':¬ (j:Int)<n:=by omega
   have hjn:j=n:=by omega
   subst hjn;have Hv1:Hid (vv = .tuple #[.string (dec o),.bool true]):=by
    show _=_
    rw[← Hvv.out];unfold Zb4;rw[Hd.out]
   clear Hnext Hdb
   go_wp2_with fail
   go_ret2
   exact⟨by rw[Hv1.out];rfl,B1.out⟩
theorem Zmy{p n:Nat}(ho:p∈Yt)(hn:n≤1056):∀ more,1120≤more→(Vm p more n).isSome=true:=by
 intro more hm;exact Zje (p:=p) (n:=n) (more:=more) ho hn hm
theorem Zx1{p n:Nat}(ho:p∈Yt)(hn:n≤1056):∀ more s,64≤more→Vm p more n=some s→dec (lgN p n)=dec s.2.2:=by
 intro more s hm h;have h1:6≤more:=Nat.le_trans (by decide) hm
 have:=Zds (p:=p) (n:=n) (more:=more) ho hn h1 h
 rw[this]
theorem Zxo(w:World)(p n:Nat)(hp:p=2∨p∈Yt)(hn:n≤1056)(L:Qb w):Kc Tryz.prog 212 #[.int .i64 p,.int .i64 n] w (.string (dec (lgN p n))):=by
 unfold Kc
 by_cases h2:p=2
 ·subst h2;have Hp:=hd_ (Ztz w n (by omega) L)
  rw[show ((2:Nat):Int)=2 from rfl,Yl]
  clear L hp;generalize dec (2^n)=s at *
  go_enter Tryz.func212,Tryz.ntmps212
  go_wp2_with fail
  refine cm_ Hp.out ?_;rintro e w1 ⟨rfl,hb⟩;have B1:=hd_ hb;clear hb Hp
  go_wp2_with fail
  go_ret;exact⟨rfl,B1.out⟩
 ·have ho:=hp.resolve_left h2;have hodd:=Yg ho;have h2':((p:Int)==2)=false:=by rw[beq_eq_false_iff_ne];omega
  have HL:=hd_ L;have Hdg:Hid (∀ (more:Nat) W,64≤more→more≤4000→Below w.heap.size w W→Kc Tryz.prog 242 #[.int .i64 p,.int .i64 n,.int .i64 more] W (Zb4 p n more)):=fun more W h1 h2 hW =>
   Zlt W p n more (by omega) (by omega) (by omega) h1 h2 (HL.out.below hW)
  have Hok:Hid (∀ more:Nat,1120≤more→(Vm p more n).isSome=true):=hd_ (Zmy ho hn);have Hlg:Hid (∀ (more:Nat) s,64≤more→Vm p more n=some s→dec (lgN p n)=dec s.2.2):=hd_ (Zx1 ho hn);have hw1:IntKind.i64.wrap ((n:Int)+64)=((n+64:Nat):Int):=by rw[show (n:Int)+64=((n+64:Nat):Int) by omega];exact iw_ _ (by omega)
  have B0:=hd_ (Below.refl w.heap.size w);clear L hp ho h2 hodd;generalize dec (lgN p n)=vv at *
  go_enter Tryz.func212,Tryz.ntmps212
  go_wp2_with fail
  go_loopw [7] (fun a wr=>∃ (more:Nat),Hid (64≤more)∧more≤4000∧a = .int .i64 more∧Hid (Below w.heap.size w wr)) (fun a _=>4000-(intOf a).toNat)
  case atStart=>exact⟨n+64,by show _≤_;omega,by omega,rfl,B0⟩
  case round =>
   clear B0;obtain⟨more,H64,h4000,rfl,B1⟩:=hrel;have Hd:=hd_ (Hdg.out more wr H64.out h4000 B1.out);cases hd:Vm p more n with
   | some s =>
    have Hs:Hid (Zb4 p n more = .tuple #[.string (dec s.2.2),.bool true]):=by show _=_;unfold Zb4;rw[hd]
    have Hv:Hid (vv=dec s.2.2):=Hlg.out more s H64.out hd;rw[Hs.out] at Hd;clear hd Hs Hlg Hok Hdg
    go_wp2_with fail
    refine cm_ Hd.out ?_;rintro e w1 ⟨rfl,hb⟩;have B2:=hd_ (B1.out.trans (hb.mono B1.out.size));clear hb Hd
    go_wp2_with fail
    go_ret;exact⟨by rw[Hv.out];rfl,B2.out⟩
   | none =>
    have Hs:Hid (Zb4 p n more = .tuple #[.string ⟨#[]⟩,.bool false]):=by show _=_;unfold Zb4;rw[hd]
    rw[Hs.out] at Hd;have hlt:more<1120:=by
     refine Nat.lt_of_not_le fun h=>?_
     have:=Hok.out more h
     rw[hd] at this;cases this
    have hw2:IntKind.i64.wrap ((more:Int)*2)=((more*2:Nat):Int):=by rw[show (more:Int)*2=((more*2:Nat):Int) by omega];exact iw_ _ (by omega)
    clear hd Hs Hlg Hok Hdg
    go_wp2_with fail
    refine cm_ Hd.out ?_;rintro e w1 ⟨rfl,hb⟩;have B2:=hd_ (B1.out.trans (hb.mono B1.out.size));clear hb Hd
    go_wp2_with fail
    go_roundw
    case rel=>exact⟨more*2,by have:=H64.out;show _≤_;omega,by omega,rfl,B2⟩
    case measure=>have:=H64.out;simp[intOf];omega
theorem Zz0(u E T:Nat)(h:E*E≤u*T):(2*u+E)*(2*u+E)≤u*(4*u+4*E+T):=by
 have e1:(2*u+E)*(2*u+E)=u*(4*u)+u*(4*E)+E*E:=by
  rw[Nat.mul_add,Nat.add_mul,Nat.add_mul];have a1:2*u*(2*u)=4*(u*u):=Nat.mul_mul_mul_comm 2 u 2 u;have a5:u*(4*u)=4*(u*u):=Nat.mul_left_comm ..;have a2:E*(2*u)=2*(u*E):=by rw[Nat.mul_left_comm,Nat.mul_comm E u]
  have a3:2*u*E=2*(u*E):=Nat.mul_assoc ..;have a4:u*(4*E)=4*(u*E):=Nat.mul_left_comm ..;omega
 rw[e1,Nat.mul_add,Nat.mul_add];omega
theorem Zvx{u E T hi:Nat}(h:E*E≤u*T)(hh:hi≤2*u+E):hi*hi/u≤4*u+4*E+T:=by
 have h1:hi*hi≤u*(4*u+4*E+T):=Nat.le_trans (Nat.mul_le_mul hh hh) (Zz0 u E T h);exact Nat.div_le_of_le_mul h1
theorem Zof{p P:Nat}(hp:p.log2≤P)(h0:0<p):∀ n,n≤1000→n+64≤P→∀ s,Vm p P n=some s→s.2.1≤2*2^P+2^(n+2)*(n+1)
 | 0,_,_,s,h=>by
  simp only[Vm,Option.some.injEq] at h;subst h;have h1:p<2^(p.log2+1):=Nat.lt_log2_self;have h3:p*2^(P-p.log2)<2^(p.log2+1)*2^(P-p.log2):=Nat.mul_lt_mul_of_pos_right h1 (Nat.two_pow_pos _);rw[← Nat.pow_add,show p.log2+1+(P-p.log2)=P+1 by omega,Nat.pow_succ] at h3
  show p*2^(P-p.log2)≤_
  omega
 | n+1,hn,hP,s,h=>by
  simp only[Vm] at h;obtain⟨t,ht,hs⟩:=Option.bind_eq_some_iff.1 h;have ih:=Zof hp h0 n (by omega) (by omega) t ht
  obtain⟨l,g,o⟩:=t;simp only at ih;have hE:(2^(n+2)*(n+1))*(2^(n+2)*(n+1))≤2^P*2^n:=by
   have h1:(n+1)≤2^10:=by omega
   have h2:2^(n+2)*(n+1)≤2^(n+2)*2^10:=Nat.mul_le_mul_left _ h1;have h3:(2^(n+2)*(n+1))*(2^(n+2)*(n+1))≤(2^(n+2)*2^10)*(2^(n+2)*2^10):=Nat.mul_le_mul h2 h2;refine Nat.le_trans h3 ?_;rw[← Nat.pow_add,← Nat.pow_add,← Nat.pow_add];exact Nat.pow_le_pow_right (by decide) (by omega)
  have h2:=Zvx hE ih;have e1:2^(n+1+2)*(n+1+1)=2*(2^(n+2)*(n+1))+8*2^n:=by
   rw[show n+1+2=(n+2)+1 by omega,Nat.pow_succ 2 (n+2),show 8*2^n=2^(n+2)*2 by rw[Nat.pow_add];omega,Nat.mul_add (2^(n+2)*2) (n+1) 1,Nat.mul_one,Nat.mul_comm (2^(n+2)) 2,Nat.mul_assoc]
  have hp0:=Nat.two_pow_pos n;rw[e1];simp only[Qz] at hs;generalize 2^(n+2)*(n+1)=E at *
  generalize g*g/2^P=G at *
  generalize l*l/2^P=M at *
  generalize 2^P=u at *
  generalize 2^n=T at *
  by_cases c1:2*u≤M
  ·rw[if_pos c1] at hs;cases hs
   show (G+1)/2+1≤_
   omega
  ·rw[if_neg c1] at hs
   by_cases c2:2*u≤G+1
   ·rw[if_pos c2] at hs;cases hs
   ·rw[if_neg c2] at hs;cases hs
    show G+1≤_
    omega
theorem Zmz{p P:Nat}:∀ n s,Vm p P n=some s→s.1≤s.2.1
 | 0,s,h=>by
  simp only[Vm,Option.some.injEq] at h;subst h;exact Nat.le_refl _
 | n+1,s,h=>by
  simp only[Vm] at h;obtain⟨t,ht,hs⟩:=Option.bind_eq_some_iff.1 h;have ih:=Zmz n t ht;obtain⟨l,g,o⟩:=t;simp only at ih;have h2:l*l/2^P≤g*g/2^P:=Nat.div_le_div_right (Nat.mul_le_mul ih ih);simp only[Qz] at hs;generalize g*g/2^P=G at *
  generalize l*l/2^P=M at *
  generalize 2^P=u at *
  by_cases c1:2*u≤M
  ·rw[if_pos c1] at hs;cases hs
   show M/2≤(G+1)/2+1
   omega
  ·rw[if_neg c1] at hs
   by_cases c2:2*u≤G+1
   ·rw[if_pos c2] at hs;cases hs
   ·rw[if_neg c2] at hs;cases hs
    show M≤G+1
    omega
theorem Zsp{P n hi:Nat}(hn:n≤1000)(hP:n+64≤P)(h:hi≤2*2^P+2^(n+2)*(n+1)):hi<18446744073709551616^(P/64+2):=by
 have h1:(n+1)≤2^10:=by omega
 have h2:2^(n+2)*(n+1)≤2^(n+2)*2^10:=Nat.mul_le_mul_left _ h1;have h3:2^(n+2)*2^10≤2^P:=by
  rw[← Nat.pow_add];exact Nat.pow_le_pow_right (by decide) (by omega)
 have e:(18446744073709551616:Nat)=2^64:=by decide
 rw[e,← Nat.pow_mul];have h4:2^(P+2)≤2^(64*(P/64+2)):=Nat.pow_le_pow_right (by decide) (by omega)
 rw[Nat.pow_add] at h4;have h5:=Nat.two_pow_pos P;omega
def Ze6 (u l g:Nat):Option (Bool×Nat×Nat) :=
 if 2*u≤l*l/u then some (true,l*l/u/2,(g*g/u+1)/2+1)
 else if 2*u≤g*g/u+1 then none else some (false,l*l/u,g*g/u+1)
theorem Zky(u l g o:Nat):Qz u (l,g,o)=(Ze6 u l g).map fun x=>(x.2.1,x.2.2,2*o+x.1.toNat):=by
 unfold Ze6;simp only[Qz];split
 ·rfl
 ·split<;>rfl
def Zym (p P j:Nat):Bool:=match Vm p P (j+1) with
 | some s=>s.2.2%2==1
 | none=>false
def Zdf (p P n:Nat):List Bool:=(List.range n).map (Zym p P)
theorem Yf(p P n:Nat):(Zdf p P n).length=n:=by simp[Zdf]
theorem Zqe(p P n:Nat):Zdf p P (n+1)=Zdf p P n++[Zym p P n]:=by simp[Zdf,List.range_succ]
theorem Zth(p P n j:Nat)(h:j<n):(Zdf p P n).getD j false=Zym p P j:=by
 unfold Zdf;rw[List.getD_eq_getElem?_getD,List.getElem?_map,List.getElem?_range h];rfl
theorem Zjz{p P n l g o:Nat}(h:Vm p P n=some (l,g,o)):
  Vm p P (n+1)=(Ze6 (2^P) l g).map fun x=>(x.2.1,x.2.2,2*o+x.1.toNat):=by
 simp only[Vm,h,Option.bind_some];exact Zky ..
theorem Zfy{p P n l g o:Nat}{b:Bool}{l' g':Nat}(h:Vm p P n=some (l,g,o))(hs:Ze6 (2^P) l g=some (b,l',g')):
  Vm p P (n+1)=some (l',g',2*o+b.toNat)∧Zym p P n=b:=by
 have h1:=Zjz h;rw[hs] at h1;refine⟨h1,?_⟩;unfold Zym;rw[h1]
 show ((2*o+b.toNat)%2==1)=b
 cases b
 ·have:(2*o+0)%2=0:=by omega
  show ((2*o+0)%2==1)=false
  rw[this];rfl
 ·have:(2*o+1)%2=1:=by omega
  show ((2*o+1)%2==1)=true
  rw[this];rfl
theorem Zjx{p P n l g o:Nat}(h:Vm p P n=some (l,g,o))(hs:Ze6 (2^P) l g=none):Vm p P (n+1)=none:=by
 rw[Zjz h,hs];rfl
theorem Zvm{p P n:Nat}{s t:Nat×Nat×Nat}(h:Vm p P n=some s)(h2:Vm p P (n+1)=some t):t.2.2=2*s.2.2+(Zym p P n).toNat:=by
 obtain⟨l,g,o⟩:=s;cases hs:Ze6 (2^P) l g with
 | none=>rw[Zjx h hs] at h2;cases h2
 | some x =>
  obtain⟨b,l',g'⟩:=x;obtain⟨h3,h4⟩:=Zfy h hs;rw[h3] at h2;cases h2
  rw[h4]
/-! The words of a prime. -/
theorem Zys(m i x y:Nat)(h:i+1<m):vW (((List.replicate m 0).set i x).set (i+1) y)=18446744073709551616^i*(x+18446744073709551616*y):=by
 have h1:=Zfk (List.replicate m 0) i x (by simp;omega)
 have h2:=Zfk ((List.replicate m 0).set i x) (i+1) y (by simp;omega)
 have e1:(List.replicate m 0).getD i 0=0:=by rw[List.getD_eq_getElem?_getD,List.getElem?_replicate];split<;>rfl
 have e2:((List.replicate m 0).set i x).getD (i+1) 0=0:=by
  rw[List.getD_eq_getElem?_getD,List.getElem?_set_ne (by omega),List.getElem?_replicate];split<;>rfl
 rw[e1,Zh9,Nat.mul_zero,Nat.zero_add] at h1;rw[e2,Nat.mul_zero] at h2;simp only[Nat.add_zero] at h1 h2;rw[h2,h1,Nat.mul_add,Nat.pow_succ,Nat.mul_assoc]
theorem Zyt(m i x:Nat)(h:i<m):vW ((List.replicate m 0).set i x)=18446744073709551616^i*x:=by
 have h1:=Zfk (List.replicate m 0) i x (by simp;omega)
 have e1:(List.replicate m 0).getD i 0=0:=by rw[List.getD_eq_getElem?_getD,List.getElem?_replicate];split<;>rfl
 rw[e1,Zh9,Nat.mul_zero,Nat.zero_add] at h1
 simpa using h1
def Zya (p at_ m:Nat):List Nat :=
 let l:=(List.replicate m 0).set (at_/64) (p*2^(at_%64)%18446744073709551616)
 if 0<at_%64 then l.set (at_/64+1) (p/2^(64-at_%64)) else l
theorem Znb(p at_ m:Nat):(Zya p at_ m).length=m:=by unfold Zya;dsimp only;split<;>simp
theorem Zv3(p at_ m:Nat)(hp:p<128)(h:at_/64+1<m):vW (Zya p at_ m)=p*2^at_:=by
 have e64:(18446744073709551616:Nat)=2^64:=by decide
 have ea:2^at_=2^(64*(at_/64))*2^(at_%64):=by rw[← Nat.pow_add];congr 1;omega
 have eb:(18446744073709551616:Nat)^(at_/64)=2^(64*(at_/64)):=by rw[e64,← Nat.pow_mul]
 unfold Zya
 dsimp only
 split
 ·rename_i h0
  rw[Zys m _ _ _ h,eb,ea];have e2:p/2^(64-at_%64)=p*2^(at_%64)/18446744073709551616:=by
   have e3:(18446744073709551616:Nat)=2^(64-at_%64)*2^(at_%64):=by rw[← Nat.pow_add,show 64-at_%64+at_%64=64 by omega]
   rw[e3,Nat.mul_div_mul_right _ _ (Nat.two_pow_pos _)]
  rw[e2,Nat.mod_add_div,Nat.mul_left_comm]
 ·rename_i h0
  rw[Zyt m _ _ (by omega),eb,ea]
  have h1:at_%64=0:=by omega
  rw[h1,Nat.pow_zero,Nat.mul_one,Nat.mul_one,Nat.mod_eq_of_lt (by omega),Nat.mul_comm]
theorem Zv2(p at_ m:Nat)(hp:p<128):Wds (Zya p at_ m):=by
 have h1:Wds ((List.replicate m 0).set (at_/64) (p*2^(at_%64)%18446744073709551616)):=(Wds.zeros m).set _ _ (Nat.mod_lt _ (by decide))
 unfold Zya
 dsimp only
 split
 ·refine h1.set _ _ ?_;have:=Nat.div_le_self p (2^(64-at_%64))
  omega
 ·exact h1
/-! Digits in groups. -/
structure MaS (w:World) (B R P:Nat) (a1:Option Addr) (c1:Nat) (L:List Nat) (a2:Option Addr) (c2:Nat) (H:List Nat):Prop where
 ob:w.heap[R]?=some (.cells #[.slice a1 L.length c1,.slice a2 H.length c2,.int .i64 P] 275 (0,0))
 o1:Qv w B a1 c1 L
 o2:Qv w B a2 c2 H
 p1:Wds L
 p2:Wds H
def Ztq (w:World) (B R P lo hi:Nat):Prop:=∃ a1 c1 L a2 c2 H,MaS w B R P a1 c1 L a2 c2 H∧B≤R∧L.length=P/64+2∧H.length=P/64+2∧vW L=lo∧vW H=hi
theorem MaS.below{w w':World}{B R P:Nat}{a1 a2:Option Addr}{c1 c2:Nat}{L H:List Nat}(h:MaS w B R P a1 c1 L a2 c2 H)(hb:Below w.heap.size w w'):MaS w' B R P a1 c1 L a2 c2 H :=
 ⟨by rw[hb.block R (Array.getElem?_eq_some_iff.1 h.ob).1];exact h.ob,h.o1.below hb nr_,h.o2.below hb nr_,h.p1,h.p2⟩
theorem Ki{w:World}{g:Nat}{a b c:Value}{t:TypeId}(h:w.heap[g]?=some (.cells #[a,b,c] t (0,0))):
  w.cell? ⟨g,0,none⟩=some a∧w.cell? ⟨g,1,none⟩=some b∧w.cell? ⟨g,2,none⟩=some c∧(∀ j,w.frozen? ⟨g,j,none⟩=false):=by
 refine⟨by rw[cell_of_row w g 0 _ t (0,0) h];rfl,by rw[cell_of_row w g 1 _ t (0,0) h];rfl,by rw[cell_of_row w g 2 _ t (0,0) h];rfl,fun j=>?_⟩
 simp[World.frozen?,h]
theorem Ze4(x:Nat)(h:x<18446744073709551616):bits .or .u64 (0:Int) (x:Int)=(x:Int):=by
 have:=(bits_nat .u64 64 (by decide) (fun n h0 h1=>by rw[IntKind.wrap_u64];omega) 0 x (by omega) (by omega)).2
 rw[Nat.zero_or] at this;exact this
theorem Ztj(w:World)(p k P:Nat)(hp:p<128)(hk:k≤P)(hP:P≤2000):
  Calls Tryz.prog 195 #[.int .i64 p,.int .i64 k,.int .i64 P] w fun e w'=>∃ R,e = .returned (.pointer (some ⟨R,0,none⟩))∧Ztq w' w.heap.size R P (p*2^(P-k)) (p*2^(P-k))∧Below w.heap.size w w':=by
 obtain⟨n,hn⟩:∃ n,P/64+2=n:=⟨_,rfl⟩;obtain⟨t,ht⟩:∃ t,P-k=t:=⟨_,rfl⟩;have hmk:=Zr3 n w (by omega)
 have Hown:=hd_ (Zbx w (List.replicate n 0) (by simp;omega))
 have Hb:=hd_ ((Below.refl w.heap.size w).alloc nr_ (.cells (Zs (List.replicate n 0)).toArray 193));rw[List.length_replicate] at Hown;obtain⟨m,hm⟩:∃ m,P/64=m:=⟨_,rfl⟩;obtain⟨i,hi0⟩:∃ i,t/64=i:=⟨_,rfl⟩;obtain⟨r,hr0⟩:∃ r,t%64=r:=⟨_,rfl⟩;have hq:Int.tdiv (P:Int) 64=(m:Nat):=by rw[Int.tdiv_eq_ediv_of_nonneg (by omega)];omega
 have hq':(P:Int)/64=(m:Nat):=by omega
 have hq3:IntKind.i64.wrap ((m:Int)+2)=(n:Nat):=by rw[show (m:Int)+2=(n:Nat) by omega];exact iw_ _ (by omega)
 have ht2:IntKind.i64.wrap ((P:Int)-k)=(t:Nat):=by rw[show (P:Int)-k=(t:Nat) by omega];exact iw_ _ (by omega)
 have hd:Int.tdiv (t:Int) 64=(i:Nat):=by rw[Int.tdiv_eq_ediv_of_nonneg (by omega)];omega
 have hd':(t:Int)/64=(i:Nat):=by omega
 have hr:Int.tmod (t:Int) 64=(r:Nat):=by rw[Int.tmod_eq_emod_of_nonneg (by omega)];omega
 have hr':(t:Int)%64=(r:Nat):=by omega
 have hr64:r<64:=by omega
 have hi:i+1<n:=by omega
 have hval:=Zv3 p t n hp (by omega)
 have hwds:=Zv2 p t n hp;have hlen:=Znb p t n;unfold Zya at hval hwds hlen
 dsimp only at hval hwds hlen
 rw[hi0,hr0] at hval hwds hlen;have ce1:(w.alloc (.cells (Zs (List.replicate n 0)).toArray 193)).cell? ⟨w.heap.size,i,none⟩=some (.int .u64 (0:Int)):=by
  obtain⟨g,hg,hg1,hg2,hg3,hg4,hg5⟩:=Hown.out.open (by simp;omega)
  obtain rfl:w.heap.size=g:=by simpa using hg
  have:=hg4 i (by simp;omega)
  rw[List.getD_eq_getElem?_getD,List.getElem?_replicate,if_pos (by omega)] at this
  exact this
 have fe1:∀ j,(w.alloc (.cells (Zs (List.replicate n 0)).toArray 193)).frozen? ⟨w.heap.size,j,none⟩=false:=by
  obtain⟨g,hg,hg1,hg2,hg3,hg4,hg5⟩:=Hown.out.open (by simp;omega)
  obtain rfl:w.heap.size=g:=by simpa using hg
  exact hg5
 generalize w.alloc (.cells (Zs (List.replicate n 0)).toArray 193)=w1 at *
 have hival0:bits .or .u64 (0:Int) (IntKind.u64.wrap ((p:Int)*2^r))=((p*2^r%18446744073709551616:Nat):Int):=by
  have e2:IntKind.u64.wrap ((p:Int)*2^r)=((p*2^r%18446744073709551616:Nat):Int):=by
   rw[IntKind.wrap_u64,Int.natCast_emod,Int.natCast_mul,Int.natCast_pow];rfl
  rw[e2];exact Ze4 _ (Nat.mod_lt _ (by decide))
 obtain⟨x,hx⟩:∃ x,p*2^r%18446744073709551616=x:=⟨_,rfl⟩;rw[hx] at hival0 hval hwds hlen;have hfe:=fe1 i;have hwp:IntKind.u64.wrap (p:Int)=(p:Int):=IntWalk.u64_in _ (by omega)
 rw[ht];go_enter Tryz.func195,Tryz.ntmps195
 go_wp2_with fail
 have HO1:=hd_ (Hown.out.store i x);have HB1:=hd_ (Hb.out.setCell (p:=⟨w.heap.size,i,none⟩) nr_ (.int .u64 (x:Nat)));have q1:=NW.cell ce1;have hnon:Nonempty (NW w1):=⟨⟨w1,Below.refl _ _⟩⟩;have I:Hid (Below w1.heap.size w1 w1.drew):=(Below.refl _ _).drew;refine RP.wp_region_readers 12 [(2,0),(2,1),(2,2),(2,3),(1,4),(2,5),(2,6),(2,7),(2,8),(2,9),(2,10),(2,11),(0,12)] (fun w'=>∃ p:NW w1,w'=p.w) (by kernel_rfl) (by kernel_rfl) ?_ ?_
 ·exact⟨⟨_,I.out⟩,rfl⟩
 iterate 4 (refine RP.walkR_any ?_;simp only[Kh,dz_,Kg,tz_];go_big_quiet_step (fail);refine wpQuiet_nil ?_)
 iterate 1 (refine RP.walkR_read ?_;simp only[Kh,dz_,Kg,tz_];go_big_quiet_step (fail);refine wpQuiet_nil ?_)
 iterate 7 (refine RP.walkR_any ?_;simp only[Kh,dz_,Kg,tz_];go_big_quiet_step (fail);refine wpQuiet_nil ?_)
 iterate 1 (refine RP.walkR_move ?_;simp only[Kh,dz_,Kg,tz_];go_wp2_with fail)
 simp only[RP.walkR];have HO2:Hid (Qv (w1.setCell ⟨w.heap.size,i,none⟩ (.int .u64 (x:Nat))).drew w.heap.size (some ⟨w.heap.size,0,none⟩) n ((List.replicate n 0).set i x)):=HO1.out.below (Qf _ 1) nr_;have HB2:Hid (Below w.heap.size w (w1.setCell ⟨w.heap.size,i,none⟩ (.int .u64 (x:Nat))).drew):=Qg HB1.out 1;clear HO1 HB1 I hnon q1 ce1 hfe hival0 Hown Hb;generalize (w1.setCell ⟨w.heap.size,i,none⟩ (.int .u64 (x:Nat))).drew=w2 at *
 by_cases h0:0<r
 ·have h0':(0:Int)<r:=by omega
  have h64:IntKind.i64.wrap (64-(r:Int))=((64-r:Nat):Int):=by rw[show (64:Int)-r=((64-r:Nat):Int) by omega];exact iw_ _ (by omega)
  have hi1:IntKind.i64.wrap ((i:Int)+1)=((i+1:Nat):Int):=by rw[← Int.natCast_succ];exact iw_ _ (by omega)
  have hil:((List.replicate n 0).set i x).length=n:=by simp
  have ce2:w2.cell? ⟨w.heap.size,i+1,none⟩=some (.int .u64 (0:Int)):=by
   obtain⟨g,hg,hg1,hg2,hg3,hg4,hg5⟩:=HO2.out.open (by simp;omega)
   obtain rfl:w.heap.size=g:=by simpa using hg
   have:=hg4 (i+1) (by simp;omega)
   rw[List.getD_eq_getElem?_getD,List.getElem?_set_ne (by omega),List.getElem?_replicate,if_pos (by omega)] at this
   exact this
  have fe2:w2.frozen? ⟨w.heap.size,i+1,none⟩=false:=by
   obtain⟨g,hg,hg1,hg2,hg3,hg4,hg5⟩:=HO2.out.open (by simp;omega)
   obtain rfl:w.heap.size=g:=by simpa using hg
   exact hg5 _
  obtain⟨y,hy⟩:∃ y,p/2^(64-r)=y:=⟨_,rfl⟩;have hyp:(p:Int)/2^(64-r)=(y:Nat):=by rw[← hy,Int.natCast_ediv,Int.natCast_pow];rfl
  have hy64:y<18446744073709551616:=by rw[← hy];have:=Nat.div_le_self p (2^(64-r));omega
  have hor:=Ze4 y hy64;rw[if_pos h0,hy] at hval hwds hlen;have HV:=hd_ hval;have HW:=hd_ hwds;have HL:=hd_ hlen;have HO3:=hd_ (HO2.out.store (i+1) y);have HB3:=hd_ (HB2.out.setCell (p:=⟨w.heap.size,i+1,none⟩) nr_ (.int .u64 (y:Nat)));have q1:=NW.cell ce2;have hnon:Nonempty (NW w2):=⟨⟨w2,Below.refl _ _⟩⟩;have I:Hid (Below w2.heap.size w2 w2.drew):=(Below.refl _ _).drew;clear hval hwds hlen hy HO2 HB2
  go_wp2_with fail
  refine RP.wp_region_readers 14 [(2,0),(2,1),(2,2),(2,3),(2,4),(1,5),(2,6),(2,7),(2,8),(2,9),(2,10),(2,11),(2,12),(2,13),(0,14)] (fun w'=>∃ p:NW w2,w'=p.w) (by kernel_rfl) (by kernel_rfl) ?_ ?_
  ·exact⟨⟨_,I.out⟩,rfl⟩
  iterate 5 (refine RP.walkR_any ?_;simp only[Kh,dz_,Kg,tz_];go_big_quiet_step (fail);refine wpQuiet_nil ?_)
  iterate 1 (refine RP.walkR_read ?_;simp only[Kh,dz_,Kg,tz_];go_big_quiet_step (fail);refine wpQuiet_nil ?_)
  iterate 8 (refine RP.walkR_any ?_;simp only[Kh,dz_,Kg,tz_];go_big_quiet_step (fail);refine wpQuiet_nil ?_)
  iterate 1 (refine RP.walkR_move ?_;simp only[Kh,dz_,Kg,tz_];go_wp2_with fail)
  simp only[RP.walkR];have HO4:Hid (Qv (w2.setCell ⟨w.heap.size,i+1,none⟩ (.int .u64 (y:Nat))).drew w.heap.size (some ⟨w.heap.size,0,none⟩) n (((List.replicate n 0).set i x).set (i+1) y)):=HO3.out.below (Qf _ 1) nr_;have HB4:Hid (Below w.heap.size w (w2.setCell ⟨w.heap.size,i+1,none⟩ (.int .u64 (y:Nat))).drew):=Qg HB3.out 1;clear HO3 HB3 I hnon q1 ce2 fe2 hor;generalize (w2.setCell ⟨w.heap.size,i+1,none⟩ (.int .u64 (y:Nat))).drew=w3 at *
  generalize ((List.replicate n 0).set i x).set (i+1) y=Ls at *
  have HC:=Zd8 w3 (some ⟨w.heap.size,0,none⟩) n Ls HO4.out.reads (by rw[HL.out];omega) (by rw[HL.out];omega)
  rw[HL.out] at HC;have HC':=hd_ HC;clear HC
  go_wp2_with fail
  refine cm_ HC'.out ?_;rintro e w4 ⟨g,d,rfl,ho,hb⟩;have O1:=hd_ (HO4.out.below hb nr_);have O2:=hd_ (ho.mono HB4.out.size);have B5:=hd_ (HB4.out.trans (hb.mono HB4.out.size));have Hsz:=hd_ B5.out.size;clear ho hb HC' HO4 HB4
  go_wp2_with fail
  go_ret;refine⟨w4.heap.size,rfl,⟨_,_,Ls,_,_,Ls,⟨?_,O1.out.below ((Below.refl _ _).alloc nr_ _) nr_,O2.out.below ((Below.refl _ _).alloc nr_ _) nr_,HW.out,HW.out⟩,Hsz.out,by rw[HL.out];omega,by rw[HL.out];omega,HV.out,HV.out⟩,B5.out.alloc Hsz.out _⟩
  have:=heap_alloc_new w4 (.cells #[.slice (some ⟨w.heap.size,0,none⟩) n n,.slice (some ⟨g,0,none⟩) n d,.int .i64 P] 275)
  rw[HL.out];exact this
 ·have h0':¬ (0:Int)<r:=by omega
  rw[if_neg h0] at hval hwds hlen;have HV:=hd_ hval;have HW:=hd_ hwds;have HL:=hd_ hlen;have HO4:=HO2;have HB4:=HB2;clear hval hwds hlen HO2 HB2;generalize w2=w3 at *
  generalize (List.replicate n 0).set i x=Ls at *
  have HC:=Zd8 w3 (some ⟨w.heap.size,0,none⟩) n Ls HO4.out.reads (by rw[HL.out];omega) (by rw[HL.out];omega)
  rw[HL.out] at HC;have HC':=hd_ HC;clear HC
  go_wp2_with fail
  refine cm_ HC'.out ?_;rintro e w4 ⟨g,d,rfl,ho,hb⟩;have O1:=hd_ (HO4.out.below hb nr_);have O2:=hd_ (ho.mono HB4.out.size);have B5:=hd_ (HB4.out.trans (hb.mono HB4.out.size));have Hsz:=hd_ B5.out.size;clear ho hb HC' HO4 HB4
  go_wp2_with fail
  go_ret;refine⟨w4.heap.size,rfl,⟨_,_,Ls,_,_,Ls,⟨?_,O1.out.below ((Below.refl _ _).alloc nr_ _) nr_,O2.out.below ((Below.refl _ _).alloc nr_ _) nr_,HW.out,HW.out⟩,Hsz.out,by rw[HL.out];omega,by rw[HL.out];omega,HV.out,HV.out⟩,B5.out.alloc Hsz.out _⟩
  have:=heap_alloc_new w4 (.cells #[.slice (some ⟨w.heap.size,0,none⟩) n n,.slice (some ⟨g,0,none⟩) n d,.int .i64 P] 275)
  rw[HL.out];exact this
def Zw2 (w w':World) (B R P:Nat) (st:Option (Bool×Nat×Nat)) (e:Ending):Prop :=
 w.grownBy w' (some R)∧match st with
  | none=>e = .returned (.tuple #[.bool false,.bool false])
  | some x=>e = .returned (.tuple #[.bool x.1,.bool true])∧Ztq w' B R P x.2.1 x.2.2
theorem Zau{w w':World}{R:Nat}(h:Below w.heap.size w w'):w.grownBy w' (some R):=⟨h.os,h.tape,h.output,h.size,fun k hk _=>h.block k hk⟩
theorem Zkn(W:World)(R j:Nat)(v:Value):W.grownBy (W.setCell ⟨R,j,none⟩ v) (some R) :=
 ⟨rfl,rfl,rfl,(KeepsWalks.setCell W _ v).size,fun k _ hk=>Below.heap_setCell _ _ _ k (fun e=>hk (by rw[e]))⟩
theorem Qv.grown{w w':World}{B R:Nat}{a:Option Addr}{c:Nat}{l:List Nat}(h:Qv w B a c l)(hg:w.grownBy w' (some R))(hR:R<B):Qv w' B a c l:=by
 refine World.ownsRow.kept h hg ?_;cases hv:(Value.slice a l.length c).ownBlock with
 | none=>simp
 | some k =>
  have:=(World.ownsRow.lt h k hv).1
  exact .inr (fun e=>by cases e;omega)
theorem Zqt{w:World}{R:Nat}{x y z x' y':Value}{t:TypeId}(h:w.heap[R]?=some (.cells #[x,y,z] t (0,0))):
  ((w.setCell ⟨R,0,none⟩ x').setCell ⟨R,1,none⟩ y').heap[R]?=some (.cells #[x',y',z] t (0,0)):=by
 have hlt:=lt_of_block h;have h':w.heap[R] = .cells #[x,y,z] t (0,0):=by simpa [Array.getElem?_eq_getElem hlt] using h
 have e1:(w.setCell ⟨R,0,none⟩ x').heap[R]?=some (.cells #[x',y,z] t (0,0)):=by
  show (w.heap.modify R _)[R]?=_
  rw[Array.getElem?_eq_getElem (by simpa using hlt),Array.getElem_modify_self,h']
  rfl
 have hlt2:=lt_of_block e1;have h2':(w.setCell ⟨R,0,none⟩ x').heap[R] = .cells #[x',y,z] t (0,0):=by simpa [Array.getElem?_eq_getElem hlt2] using e1
 show ((w.setCell ⟨R,0,none⟩ x').heap.modify R _)[R]?=_
 rw[Array.getElem?_eq_getElem (by simpa using hlt2),Array.getElem_modify_self,h2']
 rfl
theorem MaS.put{w w0:World}{B R P C:Nat}{a1 a2 b1 b2:Option Addr}{c1 c2 d1 d2:Nat}{L H L' H':List Nat}(h:MaS w B R P a1 c1 L a2 c2 H)(hC:R<C)(o1:Qv w C b1 d1 L')(o2:Qv w C b2 d2 H')(p1:Wds L')(p2:Wds H')(hg:w0.grownBy w (some R)):
  MaS ((w.setCell ⟨R,0,none⟩ (.slice b1 L'.length d1)).setCell ⟨R,1,none⟩ (.slice b2 H'.length d2)) C R P b1 d1 L' b2 d2 H'∧w0.grownBy ((w.setCell ⟨R,0,none⟩ (.slice b1 L'.length d1)).setCell ⟨R,1,none⟩ (.slice b2 H'.length d2)) (some R):=by
 have g2:=Qk (Zkn w R 0 (.slice b1 L'.length d1)) (Zkn _ R 1 (.slice b2 H'.length d2));exact⟨⟨Zqt h.ob,o1.grown g2 hC,o2.grown g2 hC,p1,p2⟩,Qk hg g2⟩
theorem MaS.mono{w:World}{B C R P:Nat}{a1 a2:Option Addr}{c1 c2:Nat}{L H:List Nat}(h:MaS w C R P a1 c1 L a2 c2 H)(hB:B≤C):MaS w B R P a1 c1 L a2 c2 H :=
 ⟨h.ob,h.o1.mono hB,h.o2.mono hB,h.p1,h.p2⟩
theorem Zx9(w:World)(B R P lo hi:Nat)(M:Ztq w B R P lo hi)(hP:P≤2000)(hB:B≤w.heap.size)(hle:lo≤hi)
  (hfit:∀ x,Ze6 (2^P) lo hi=some x→x.2.1<18446744073709551616^(P/64+2)∧x.2.2<18446744073709551616^(P/64+2)) :
  Calls Tryz.prog 196 #[.pointer (some ⟨R,0,none⟩)] w fun e w'=>Zw2 w w' B R P (Ze6 (2^P) lo hi) e:=by
 obtain⟨a1,c1,L,a2,c2,H,S,hBR,l1,l2,v1,v2⟩:=M;obtain⟨wo,hwo⟩:∃ wo,P/64=wo:=⟨_,rfl⟩;obtain⟨r,hr⟩:∃ r,P%64=r:=⟨_,rfl⟩;have hPe:P=64*wo+r:=by omega
 have hr64:r<64:=by omega
 have hRs:R<w.heap.size:=(Array.getElem?_eq_some_iff.1 S.ob).1;obtain⟨k0,k1,k2,kf⟩:=Ki S.ob;rw[l1] at k0;rw[l2] at k1;rw[hwo] at k0 k1 l1 l2 hfit;have HP:=hd_ hPe;have hwob:wo≤40:=by omega
 have Hwo:=hd_ hwo;have HQ1:Hid (∀ W,Below w.heap.size w W→Calls Tryz.prog 223 #[.slice a1 (wo+2) c1] W fun e w'=>∃ a c LL,e = .returned (.slice a (2*(wo+2)+1) c)∧LL.length=2*(wo+2)+1∧Qv w' W.heap.size a c LL∧Wds LL∧vW LL=lo*lo∧Below W.heap.size W w'):=fun W hW=>by
  have:=Zhk W a1 c1 L (S.o1.reads.below hW nr_) S.p1 (by omega)
  rw[l1,v1] at this;exact this
 have HQ2:Hid (∀ W,Below w.heap.size w W→Calls Tryz.prog 223 #[.slice a2 (wo+2) c2] W fun e w'=>∃ a c LL,e = .returned (.slice a (2*(wo+2)+1) c)∧LL.length=2*(wo+2)+1∧Qv w' W.heap.size a c LL∧Wds LL∧vW LL=hi*hi∧Below W.heap.size W w'):=fun W hW=>by
  have:=Zhk W a2 c2 H (S.o2.reads.below hW nr_) S.p2 (by omega)
  rw[l2,v2] at this;exact this
 have HS:=hd_ S;have HFit:=hd_ hfit
 -- the shifts
 have HSh:Hid (∀ W a c (LL:List Nat) v,Qm W a LL→Wds LL→LL.length=2*(wo+2)+1→vW LL=v→Calls Tryz.prog 224 #[.slice a (2*(wo+2)+1) c,.int .i64 P] W fun e w'=>∃ a c S,e = .returned (.slice a (wo+5) c)∧S.length=wo+5∧Qv w' W.heap.size a c S∧Wds S∧vW S=v/2^P∧Below W.heap.size W w'):=fun W a c LL v h1 h2 h3 h4=>by
  have:=Zf1 W a c LL P wo r hPe hr64 h1 h2 (by omega) (by omega)
  rw[h3,show 2*(wo+2)+1-wo=wo+5 by omega] at this
  refine this.mono ?_;rintro e w' ⟨a',c',rfl,ho,hb⟩;refine⟨a',c',_,rfl,Vi ..,ho,Zlr h2 hr64,?_,hb⟩;rw[Zls h2 hr64 (by omega),h4,← hPe]
 have HNx:Hid (∀ W a c (LL:List Nat) k v,Qm W a LL→Wds LL→LL.length=k→0<k→k≤1000→vW LL=v→Calls Tryz.prog 225 #[.slice a k c] W fun e w'=>∃ a c S,e = .returned (.slice a (k+1) c)∧S.length=k+1∧Qv w' W.heap.size a c S∧Wds S∧vW S=v+1∧Below W.heap.size W w'):=fun W a c LL k v h1 h2 h3 h0 hk h4=>by
  have:=Zul W a c LL h1 h2 (by omega) (by omega)
  rw[h3,h4] at this;exact this
 have HRe:Hid (∀ W a c (LL:List Nat) k v,Qm W a LL→Wds LL→LL.length=k→wo+2<k→k≤1000→vW LL=v→Kc Tryz.prog 226 #[.slice a k c,.int .i64 ((P:Int)+1)] W (.bool (decide (2*2^P≤v)))):=fun W a c LL k v h1 h2 h3 h0 hk h4=>by
  have:=Zlz W a c LL (P+1) ((P+1)/64) ((P+1)%64) (by omega) (Nat.mod_lt _ (by decide)) h1 h2 (by omega) (by omega)
  rw[h3,h4,Nat.pow_succ,Nat.mul_comm] at this;exact this
 have hP1:IntKind.i64.wrap ((P:Int)+1)=(P:Int)+1:=iw_ _ (by omega)
 have HS1:Hid (∀ W a c (LL:List Nat) k v,Qm W a LL→Wds LL→LL.length=k→0<k→k≤1000→vW LL=v→Calls Tryz.prog 224 #[.slice a k c,.int .i64 1] W fun e w'=>∃ a c S,e = .returned (.slice a k c)∧S.length=k∧Qv w' W.heap.size a c S∧Wds S∧vW S=v/2∧Below W.heap.size W w'):=fun W a c LL k v h1 h2 h3 h0 hk h4=>by
  have:=Zf1 W a c LL 1 0 1 rfl (by decide) h1 h2 (by omega) (by omega)
  rw[h3,Nat.sub_zero] at this;refine this.mono ?_;rintro e w' ⟨a',c',rfl,ho,hb⟩;refine⟨a',c',_,rfl,Vi ..,ho,Zlr h2 (by decide),?_,hb⟩
  rw[Zls h2 (by decide) (by omega),h4]
 have hq:Int.tdiv (P:Int) 64=(wo:Nat):=by rw[Int.tdiv_eq_ediv_of_nonneg (by omega)];omega
 have hq':(P:Int)/64=(wo:Nat):=by omega
 have hq3:IntKind.i64.wrap ((wo:Int)+2)=(wo:Int)+2:=iw_ _ (by omega)
 have Hmg:Hid (lo*lo/2^P≤hi*hi/2^P+1):=Nat.le_succ_of_le (Nat.div_le_div_right (Nat.mul_le_mul hle hle));have Hst:Hid (Ze6 (2^P) lo hi=if 2*2^P≤lo*lo/2^P then some (true,lo*lo/2^P/2,(hi*hi/2^P+1)/2+1) else if 2*2^P≤hi*hi/2^P+1 then none else some (false,lo*lo/2^P,hi*hi/2^P+1)):=rfl
 generalize Ze6 (2^P) lo hi=st at *
 clear S hfit l1 l2 v1 v2 hPe hwo hr;have q0:=NW.cell k0;have q1:=NW.cell k1;have q2:=NW.cell k2;have hnon:Nonempty (NW w):=⟨⟨w,Below.refl _ _⟩⟩;have I:Hid (Below w.heap.size w w.drew):=(Below.refl _ _).drew;go_enter Tryz.func196,Tryz.ntmps196
 go_wp2_with fail
 refine RP.wp_region_readers 25 [(2,0),(2,1),(2,2),(2,3),(2,4),(1,5),(2,7),(2,8),(2,9),(1,10),(2,12),(2,13),(2,14),(1,15),(2,17),(2,18),(2,19),(1,20),(0,6),(0,11),(0,16),(0,21),(0,22),(2,23),(2,24),(0,25),(2,26),(2,27),(0,28)] (fun w'=>∃ p:NW w,w'=p.w) (by kernel_rfl) (by kernel_rfl) ?_ ?_
 ·exact⟨⟨_,I.out⟩,rfl⟩
 iterate 5 (refine RP.walkR_any ?_;simp only[Kh,dz_,Kg,tz_];go_big_quiet_step (fail);refine wpQuiet_nil ?_)
 iterate 1 (refine RP.walkR_read ?_;simp only[Kh,dz_,Kg,tz_];go_big_quiet_step (fail);refine wpQuiet_nil ?_)
 iterate 3 (refine RP.walkR_any ?_;simp only[Kh,dz_,Kg,tz_];go_big_quiet_step (fail);refine wpQuiet_nil ?_)
 iterate 1 (refine RP.walkR_read ?_;simp only[Kh,dz_,Kg,tz_];go_big_quiet_step (fail);refine wpQuiet_nil ?_)
 iterate 3 (refine RP.walkR_any ?_;simp only[Kh,dz_,Kg,tz_];go_big_quiet_step (fail);refine wpQuiet_nil ?_)
 iterate 1 (refine RP.walkR_read ?_;simp only[Kh,dz_,Kg,tz_];go_big_quiet_step (fail);refine wpQuiet_nil ?_)
 iterate 3 (refine RP.walkR_any ?_;simp only[Kh,dz_,Kg,tz_];go_big_quiet_step (fail);refine wpQuiet_nil ?_)
 iterate 1 (refine RP.walkR_read ?_;simp only[Kh,dz_,Kg,tz_];go_big_quiet_step (fail);refine wpQuiet_nil ?_)
 clear hnon q0 q1 q2 k0 k1 k2;refine RP.walkR_move ?_;simp only[Kh,dz_,Kg,tz_]
 go_wp2_with fail
 refine cm_ (HQ1.out _ I.out) ?_;rintro e w1 ⟨b1,d1,L1,rfl,hl,ho,hp,hv,hb⟩;have I1:Hid (Below w.heap.size w w1):=I.out.trans (hb.mono I.out.size);have HL1:=hd_ (And.intro hl hv);have O1:=hd_ ho;have P1:=hd_ hp;clear hl ho hp hv hb HQ1 I
 go_wp2_with fail
 refine⟨⟨⟨_,I1.out⟩,rfl⟩,?_⟩;refine RP.walkR_move ?_;simp only[Kh,dz_,Kg,tz_]
 go_wp2_with fail
 refine cm_ (HSh.out _ _ _ L1 (lo*lo) O1.out.reads P1.out HL1.out.1 HL1.out.2) ?_;rintro e w2 ⟨b2,d2,L2,rfl,hl,ho,hp,hv,hb⟩;have I2:Hid (Below w.heap.size w w2):=I1.out.trans (hb.mono I1.out.size);have HL2:=hd_ (And.intro hl hv);have O2:=hd_ (ho.mono I1.out.size);have P2:=hd_ hp;clear hl ho hp hv hb HL1 O1 P1 I1
 go_wp2_with fail
 refine⟨⟨⟨_,I2.out⟩,rfl⟩,?_⟩;refine RP.walkR_move ?_;simp only[Kh,dz_,Kg,tz_]
 go_wp2_with fail
 refine cm_ (HQ2.out _ I2.out) ?_;rintro e w3 ⟨b3,d3,L3,rfl,hl,ho,hp,hv,hb⟩;have I3:Hid (Below w.heap.size w w3):=I2.out.trans (hb.mono I2.out.size);have O2':=hd_ (O2.out.below hb nr_);have HL3:=hd_ (And.intro hl hv);have O3:=hd_ ho;have P3:=hd_ hp;clear hl ho hp hv hb HQ2 I2 O2
 go_wp2_with fail
 refine⟨⟨⟨_,I3.out⟩,rfl⟩,?_⟩;refine RP.walkR_move ?_;simp only[Kh,dz_,Kg,tz_]
 go_wp2_with fail
 refine cm_ (HSh.out _ _ _ L3 (hi*hi) O3.out.reads P3.out HL3.out.1 HL3.out.2) ?_;rintro e w4 ⟨b4,d4,L4,rfl,hl,ho,hp,hv,hb⟩;have I4:Hid (Below w.heap.size w w4):=I3.out.trans (hb.mono I3.out.size);have O2:=hd_ (O2'.out.below hb nr_);have HL4:=hd_ (And.intro hl hv);have O4:=hd_ ho;have P4:=hd_ hp;clear hl ho hp hv hb HL3 O3 P3 I3 O2'
 go_wp2_with fail
 refine⟨⟨⟨_,I4.out⟩,rfl⟩,?_⟩;refine RP.walkR_move ?_;simp only[Kh,dz_,Kg,tz_]
 go_wp2_with fail
 refine cm_ (HNx.out _ _ _ L4 (wo+5) (hi*hi/2^P) O4.out.reads P4.out HL4.out.1 (by omega) (by omega) HL4.out.2) ?_
 rintro e w5 ⟨b5,d5,L5,rfl,hl,ho,hp,hv,hb⟩;have I5:Hid (Below w.heap.size w w5):=I4.out.trans (hb.mono I4.out.size);have O2':=hd_ (O2.out.below hb nr_);have HL5:=hd_ (And.intro hl hv);have O5:=hd_ (ho.mono I4.out.size);have P5:=hd_ hp;have HS5:=hd_ (HS.out.below I5.out);obtain⟨k0,k1,k2,kf⟩:=Ki HS5.out.ob;clear hl ho hp hv hb HL4 O4 P4 I4 O2
 go_wp2_with fail
 refine⟨⟨⟨_,I5.out⟩,rfl⟩,?_⟩
 iterate 2 (refine RP.walkR_any ?_;simp only[Kh,dz_,Kg,tz_];go_big_quiet_step (fail);refine wpQuiet_nil ?_)
 have hf0:=kf 0;have hf1:=kf 1;refine RP.walkR_move ?_;simp only[Kh,dz_,Kg,tz_]
 go_wp2_with fail
 iterate 2 (refine RP.walkR_any ?_;simp only[Kh,dz_,Kg,tz_];go_big_quiet_step (fail);refine wpQuiet_nil ?_)
 refine RP.walkR_move ?_;simp only[Kh,dz_,Kg,tz_]
 go_wp2_with fail
 simp only[RP.walkR];have hput:=HS5.out.put hRs O2'.out O5.out P2.out P5.out (Zau I5.out);rw[HL2.out.1,HL5.out.1] at hput;have hS6:=hput.1;have G6:=hd_ hput.2;obtain⟨k0,k1,k2,kf⟩:=Ki hS6.ob;rw[HL2.out.1] at k0;rw[HL5.out.1] at k1;have HS6:=hd_ hS6;clear hput hS6 HS5 O2' O5 hf0 hf1 I5 HS;generalize (w5.setCell ⟨R,0,none⟩ (.slice b2 (wo+5) d2)).setCell ⟨R,1,none⟩ (.slice b5 (wo+5+1) d5)=w6 at *
 have q0:=NW.cell k0;have q1:=NW.cell k1;have q2:=NW.cell k2;have hnon:Nonempty (NW w6):=⟨⟨w6,Below.refl _ _⟩⟩;have I:Hid (Below w6.heap.size w6 w6.drew):=(Below.refl _ _).drew
 go_wp2_with fail
 refine RP.wp_region_readers 19 [(2,0),(2,1),(2,2),(1,3),(2,4),(2,5),(2,6),(1,7),(2,8),(2,10),(2,11),(2,12),(1,13),(2,14),(2,15),(2,16),(1,17),(2,18),(0,9),(0,19),(2,20),(2,21)] (fun w'=>∃ p:NW w6,w'=p.w) (by kernel_rfl) (by kernel_rfl) ?_ ?_
 ·exact⟨⟨_,I.out⟩,rfl⟩
 iterate 3 (refine RP.walkR_any ?_;simp only[Kh,dz_,Kg,tz_];go_big_quiet_step (fail);refine wpQuiet_nil ?_)
 iterate 1 (refine RP.walkR_read ?_;simp only[Kh,dz_,Kg,tz_];go_big_quiet_step (fail);refine wpQuiet_nil ?_)
 iterate 3 (refine RP.walkR_any ?_;simp only[Kh,dz_,Kg,tz_];go_big_quiet_step (fail);refine wpQuiet_nil ?_)
 iterate 1 (refine RP.walkR_read ?_;simp only[Kh,dz_,Kg,tz_];go_big_quiet_step (fail);refine wpQuiet_nil ?_)
 iterate 4 (refine RP.walkR_any ?_;simp only[Kh,dz_,Kg,tz_];go_big_quiet_step (fail);refine wpQuiet_nil ?_)
 iterate 1 (refine RP.walkR_read ?_;simp only[Kh,dz_,Kg,tz_];go_big_quiet_step (fail);refine wpQuiet_nil ?_)
 iterate 3 (refine RP.walkR_any ?_;simp only[Kh,dz_,Kg,tz_];go_big_quiet_step (fail);refine wpQuiet_nil ?_)
 iterate 1 (refine RP.walkR_read ?_;simp only[Kh,dz_,Kg,tz_];go_big_quiet_step (fail);refine wpQuiet_nil ?_)
 iterate 1 (refine RP.walkR_any ?_;simp only[Kh,dz_,Kg,tz_];go_big_quiet_step (fail);refine wpQuiet_nil ?_)
 clear hnon q0 q1 q2 k0 k1 k2;refine RP.walkR_move ?_;simp only[Kh,dz_,Kg,tz_]
 go_wp2_with fail
 refine cm_ (HRe.out _ _ _ L2 (wo+5) (lo*lo/2^P) ((HS6.out.o1.reads.below I.out nr_)) P2.out HL2.out.1 (by omega) (by omega) HL2.out.2) ?_
 rintro e w7 ⟨rfl,hb⟩;have I7:Hid (Below w6.heap.size w6 w7):=I.out.trans (hb.mono I.out.size);clear hb I
 go_wp2_with fail
 refine⟨⟨⟨_,I7.out⟩,rfl⟩,?_⟩;refine RP.walkR_move ?_;simp only[Kh,dz_,Kg,tz_]
 go_wp2_with fail
 refine cm_ (HRe.out _ _ _ L5 (wo+5+1) (hi*hi/2^P+1) ((HS6.out.o2.reads.below I7.out nr_)) P5.out HL5.out.1 (by omega) (by omega) HL5.out.2) ?_
 rintro e w8 ⟨rfl,hb⟩;have I8:Hid (Below w6.heap.size w6 w8):=I7.out.trans (hb.mono I7.out.size);clear hb I7 HRe
 go_wp2_with fail
 iterate 2 (refine RP.walkR_any ?_;simp only[Kh,dz_,Kg,tz_];go_big_quiet_step (fail);refine wpQuiet_nil ?_)
 simp only[RP.walkR];have HS8:=hd_ (HS6.out.below I8.out);have G8:=hd_ (Qk G6.out (Zau (R:=R) I8.out));clear HS6 G6 I8;generalize lo*lo/2^P=M at *
 generalize hi*hi/2^P+1=G at *
 generalize 2*2^P=u2 at *
 by_cases cA:u2≤M
 ·have cB:u2≤G:=Nat.le_trans cA Hmg.out;have hst:st=some (true,M/2,G/2+1):=by rw[Hst.out,if_pos cA]
  subst hst;rw[decide_eq_true cA,decide_eq_true cB];obtain⟨k0,k1,k2,kf⟩:=Ki HS8.out.ob;rw[HL2.out.1] at k0;rw[HL5.out.1] at k1;have q0:=NW.cell k0;have q1:=NW.cell k1;have hnon:Nonempty (NW w8):=⟨⟨w8,Below.refl _ _⟩⟩;have I:Hid (Below w8.heap.size w8 w8.drew):=(Below.refl _ _).drew;clear k2 kf
  go_wp2_with fail
  refine RP.wp_region_readers 15 [(2,0),(2,1),(2,2),(2,3),(2,4),(1,5),(2,7),(2,8),(2,9),(1,10),(0,6),(0,11),(0,12),(2,13),(2,14),(0,15),(2,16),(2,17),(0,18)] (fun w'=>∃ p:NW w8,w'=p.w) (by kernel_rfl) (by kernel_rfl) ?_ ?_
  ·exact⟨⟨_,I.out⟩,rfl⟩
  iterate 5 (refine RP.walkR_any ?_;simp only[Kh,dz_,Kg,tz_];go_big_quiet_step (fail);refine wpQuiet_nil ?_)
  iterate 1 (refine RP.walkR_read ?_;simp only[Kh,dz_,Kg,tz_];go_big_quiet_step (fail);refine wpQuiet_nil ?_)
  iterate 3 (refine RP.walkR_any ?_;simp only[Kh,dz_,Kg,tz_];go_big_quiet_step (fail);refine wpQuiet_nil ?_)
  iterate 1 (refine RP.walkR_read ?_;simp only[Kh,dz_,Kg,tz_];go_big_quiet_step (fail);refine wpQuiet_nil ?_)
  clear hnon q0 q1 k0 k1;refine RP.walkR_move ?_;simp only[Kh,dz_,Kg,tz_]
  go_wp2_with fail
  refine cm_ (HS1.out _ _ _ L2 (wo+5) M (HS8.out.o1.reads.below I.out nr_) P2.out HL2.out.1 (by omega) (by omega) HL2.out.2) ?_
  rintro e w9 ⟨b6,d6,L6,rfl,hl,ho,hp,hv,hb⟩;have I9:Hid (Below w8.heap.size w8 w9):=I.out.trans (hb.mono I.out.size);have HL6:=hd_ (And.intro hl hv);have O6:=hd_ (ho.mono I.out.size);have P6:=hd_ hp;clear hl ho hp hv hb I
  go_wp2_with fail
  refine⟨⟨⟨_,I9.out⟩,rfl⟩,?_⟩;refine RP.walkR_move ?_;simp only[Kh,dz_,Kg,tz_]
  go_wp2_with fail
  refine cm_ (HS1.out _ _ _ L5 (wo+5+1) G (HS8.out.o2.reads.below I9.out nr_) P5.out HL5.out.1 (by omega) (by omega) HL5.out.2) ?_
  rintro e w10 ⟨b7,d7,L7,rfl,hl,ho,hp,hv,hb⟩;have I10:Hid (Below w8.heap.size w8 w10):=I9.out.trans (hb.mono I9.out.size);have O6':=hd_ (O6.out.below hb nr_);have HL7:=hd_ (And.intro hl hv);have O7:=hd_ ho;have P7:=hd_ hp;clear hl ho hp hv hb I9 O6
  go_wp2_with fail
  refine⟨⟨⟨_,I10.out⟩,rfl⟩,?_⟩;refine RP.walkR_move ?_;simp only[Kh,dz_,Kg,tz_]
  go_wp2_with fail
  refine cm_ (HNx.out _ _ _ L7 (wo+5+1) (G/2) O7.out.reads P7.out HL7.out.1 (by omega) (by omega) HL7.out.2) ?_
  rintro e w11 ⟨b8,d8,L8,rfl,hl,ho,hp,hv,hb⟩;have I11:Hid (Below w8.heap.size w8 w11):=I10.out.trans (hb.mono I10.out.size);have O6:=hd_ (O6'.out.below hb nr_);have HL8:=hd_ (And.intro hl hv);have O8:=hd_ (ho.mono I10.out.size);have P8:=hd_ hp;have HS11:=hd_ (HS8.out.below I11.out);obtain⟨k0,k1,k2,kf⟩:=Ki HS11.out.ob;have hf0:=kf 0;have hf1:=kf 1;have hR8:=hd_ (Nat.lt_of_lt_of_le hRs G8.out.size);clear hl ho hp hv hb HL7 O7 P7 I10 O6' HS8
  go_wp2_with fail
  refine⟨⟨⟨_,I11.out⟩,rfl⟩,?_⟩
  iterate 2 (refine RP.walkR_any ?_;simp only[Kh,dz_,Kg,tz_];go_big_quiet_step (fail);refine wpQuiet_nil ?_)
  refine RP.walkR_move ?_;simp only[Kh,dz_,Kg,tz_]
  go_wp2_with fail
  iterate 2 (refine RP.walkR_any ?_;simp only[Kh,dz_,Kg,tz_];go_big_quiet_step (fail);refine wpQuiet_nil ?_)
  refine RP.walkR_move ?_;simp only[Kh,dz_,Kg,tz_]
  go_wp2_with fail
  simp only[RP.walkR];have hput:=HS11.out.put hR8.out O6.out O8.out P6.out P8.out (Qk G8.out (Zau (R:=R) I11.out));rw[HL6.out.1,HL8.out.1] at hput;have HS12:=hd_ hput.1;have G12:=hd_ hput.2;have G8b:=hd_ G8.out.size;clear hput HS11 O6 O8 hf0 hf1 I11 k0 k1 k2 kf G8;generalize (w11.setCell ⟨R,0,none⟩ (.slice b6 (wo+5) d6)).setCell ⟨R,1,none⟩ (.slice b8 (wo+5+1+1) d8)=w12 at *
  obtain⟨k0,k1,k2,kf⟩:=Ki HS12.out.ob;rw[HL6.out.1] at k0;rw[HL8.out.1] at k1;have hcap1:wo+2≤d6:=by have:=HS12.out.o1.cap;rw[HL6.out.1] at this;omega
  have hcap2:wo+2≤d8:=by have:=HS12.out.o2.cap;rw[HL8.out.1] at this;omega
  have O1:=HS12.out.o1.cut (wo+2) (by rw[HL6.out.1];omega)
  have O2:=HS12.out.o2.cut (wo+2) (by rw[HL8.out.1];omega)
  have W1:=HS12.out.p1.take (wo+2);have W2:=HS12.out.p2.take (wo+2);have N1:(L6.take (wo+2)).length=wo+2:=by rw[List.length_take,HL6.out.1];omega
  have N2:(L8.take (wo+2)).length=wo+2:=by rw[List.length_take,HL8.out.1];omega
  have V1:vW (L6.take (wo+2))=M/2:=by rw[Zia HS12.out.p1 (by rw[HL6.out.1];omega),HL6.out.2];exact Nat.mod_eq_of_lt (HFit.out _ rfl).1
  have V2:vW (L8.take (wo+2))=G/2+1:=by rw[Zia HS12.out.p2 (by rw[HL8.out.1];omega),HL8.out.2];exact Nat.mod_eq_of_lt (HFit.out _ rfl).2
  have hput:=(HS12.out.below (Qf w12 1)).put hR8.out (O1.below (Qf w12 1) nr_) (O2.below (Qf w12 1) nr_) W1 W2 (Qk G12.out (Zau (R:=R) (Qf w12 1)));rw[N1,N2] at hput;have HF:=hd_ hput;have HV:=hd_ (And.intro V1 V2);have HN:=hd_ (And.intro N1 N2);clear O1 O2 W1 W2 N1 N2 V1 V2 hput;have hf0:(w12.drewN 1).frozen? ⟨R,0,none⟩=false:=kf 0;have hf1:(w12.drewN 1).frozen? ⟨R,1,none⟩=false:=kf 1;have q0:=NW.cell k0;have q1:=NW.cell k1;have hnon:Nonempty (NW w12):=⟨⟨w12,Below.refl _ _⟩⟩;have I:Hid (Below w12.heap.size w12 w12.drew):=(Below.refl _ _).drew;have hlt1:(wo:Int)+2≤(wo:Int)+5:=by omega
  have hlt2:(wo:Int)+2≤(wo:Int)+5+1+1:=by omega
  have hm1:min (5:Int) 2=2:=by decide
  have hm2:min ((wo:Int)+5+1+1) ((wo:Int)+2)=(wo:Int)+2:=by omega
  have htn:((wo:Int)+2).toNat=wo+2:=by omega
  go_wp2_with fail
  refine RP.wp_region_readers 28 [(2,0),(2,1),(2,2),(2,3),(2,4),(1,5),(2,6),(2,7),(2,8),(1,9),(2,10),(2,11),(2,12),(2,13),(2,14),(2,15),(2,16),(1,17),(2,18),(2,19),(2,20),(1,21),(2,22),(2,23),(2,24),(2,25),(2,26),(2,27),(0,28),(2,29),(2,30),(0,31)] (fun w'=>∃ p:NW w12,w'=p.w) (by kernel_rfl) (by kernel_rfl) ?_ ?_
  ·exact⟨⟨_,I.out⟩,rfl⟩
  iterate 5 (refine RP.walkR_any ?_;simp only[Kh,dz_,Kg,tz_];go_big_quiet_step (fail);refine wpQuiet_nil ?_)
  iterate 1 (refine RP.walkR_read ?_;simp only[Kh,dz_,Kg,tz_];go_big_quiet_step (fail);refine wpQuiet_nil ?_)
  iterate 3 (refine RP.walkR_any ?_;simp only[Kh,dz_,Kg,tz_];go_big_quiet_step (fail);refine wpQuiet_nil ?_)
  iterate 1 (refine RP.walkR_read ?_;simp only[Kh,dz_,Kg,tz_];go_big_quiet_step (fail);refine wpQuiet_nil ?_)
  iterate 7 (refine RP.walkR_any ?_;simp only[Kh,dz_,Kg,tz_];go_big_quiet_step (fail);refine wpQuiet_nil ?_)
  iterate 1 (refine RP.walkR_read ?_;simp only[Kh,dz_,Kg,tz_];go_big_quiet_step (fail);refine wpQuiet_nil ?_)
  iterate 3 (refine RP.walkR_any ?_;simp only[Kh,dz_,Kg,tz_];go_big_quiet_step (fail);refine wpQuiet_nil ?_)
  iterate 1 (refine RP.walkR_read ?_;simp only[Kh,dz_,Kg,tz_];go_big_quiet_step (fail);refine wpQuiet_nil ?_)
  iterate 6 (refine RP.walkR_any ?_;simp only[Kh,dz_,Kg,tz_];go_big_quiet_step (fail);refine wpQuiet_nil ?_)
  iterate 1 (refine RP.walkR_move ?_;simp only[Kh,dz_,Kg,tz_];go_wp2_with fail)
  iterate 2 (refine RP.walkR_any ?_;simp only[Kh,dz_,Kg,tz_];go_big_quiet_step (fail);refine wpQuiet_nil ?_)
  iterate 1 (refine RP.walkR_move ?_;simp only[Kh,dz_,Kg,tz_];go_wp2_with fail)
  simp only[RP.walkR]
  go_wp2_with fail
  go_ret2
  refine⟨HF.out.2,rfl,⟨_,_,_,_,_,_,HF.out.1.mono (Nat.le_trans hB G8b.out),hBR,?_,?_,HV.out.1,HV.out.2⟩⟩
  ·rw[Hwo.out];exact HN.out.1
  ·rw[Hwo.out];exact HN.out.2
 ·by_cases cB:u2≤G
  ·have hst:st=none:=by rw[Hst.out,if_neg cA,if_pos cB]
   subst hst;rw[decide_eq_false cA,decide_eq_true cB]
   go_wp2_with fail
   go_ret2
   exact⟨G8.out,rfl⟩
  ·have hst:st=some (false,M,G):=by rw[Hst.out,if_neg cA,if_neg cB]
   subst hst;rw[decide_eq_false cA,decide_eq_false cB];obtain⟨k0,k1,k2,kf⟩:=Ki HS8.out.ob;rw[HL2.out.1] at k0;rw[HL5.out.1] at k1;have hcap1:wo+2≤d2:=by have:=HS8.out.o1.cap;rw[HL2.out.1] at this;omega
   have hcap2:wo+2≤d5:=by have:=HS8.out.o2.cap;rw[HL5.out.1] at this;omega
   have O1:=HS8.out.o1.cut (wo+2) (by rw[HL2.out.1];omega)
   have O2:=HS8.out.o2.cut (wo+2) (by rw[HL5.out.1];omega)
   have W1:=HS8.out.p1.take (wo+2);have W2:=HS8.out.p2.take (wo+2);have N1:(L2.take (wo+2)).length=wo+2:=by rw[List.length_take,HL2.out.1];omega
   have N2:(L5.take (wo+2)).length=wo+2:=by rw[List.length_take,HL5.out.1];omega
   have V1:vW (L2.take (wo+2))=M:=by rw[Zia HS8.out.p1 (by rw[HL2.out.1];omega),HL2.out.2];exact Nat.mod_eq_of_lt (HFit.out _ rfl).1
   have V2:vW (L5.take (wo+2))=G:=by rw[Zia HS8.out.p2 (by rw[HL5.out.1];omega),HL5.out.2];exact Nat.mod_eq_of_lt (HFit.out _ rfl).2
   have hput:=(HS8.out.below (Qf w8 1)).put hRs (O1.below (Qf w8 1) nr_) (O2.below (Qf w8 1) nr_) W1 W2 (Qk G8.out (Zau (R:=R) (Qf w8 1)));rw[N1,N2] at hput;have HF:=hd_ hput;have HV:=hd_ (And.intro V1 V2);have HN:=hd_ (And.intro N1 N2);clear O1 O2 W1 W2 N1 N2 V1 V2 hput;have hf0:(w8.drewN 1).frozen? ⟨R,0,none⟩=false:=kf 0;have hf1:(w8.drewN 1).frozen? ⟨R,1,none⟩=false:=kf 1;have q0:=NW.cell k0;have q1:=NW.cell k1;have hnon:Nonempty (NW w8):=⟨⟨w8,Below.refl _ _⟩⟩;have I:Hid (Below w8.heap.size w8 w8.drew):=(Below.refl _ _).drew;have hlt1:(wo:Int)+2≤(wo:Int)+5:=by omega
   have hlt2:(wo:Int)+2≤(wo:Int)+5+1:=by omega
   have hm1:min (5:Int) 2=2:=by decide
   have hm2:min ((wo:Int)+5+1) ((wo:Int)+2)=(wo:Int)+2:=by omega
   have htn:((wo:Int)+2).toNat=wo+2:=by omega
   go_wp2_with fail
   refine RP.wp_region_readers 28 [(2,0),(2,1),(2,2),(2,3),(2,4),(1,5),(2,6),(2,7),(2,8),(1,9),(2,10),(2,11),(2,12),(2,13),(2,14),(2,15),(2,16),(1,17),(2,18),(2,19),(2,20),(1,21),(2,22),(2,23),(2,24),(2,25),(2,26),(2,27),(0,28),(2,29),(2,30),(0,31)] (fun w'=>∃ p:NW w8,w'=p.w) (by kernel_rfl) (by kernel_rfl) ?_ ?_
   ·exact⟨⟨_,I.out⟩,rfl⟩
   iterate 5 (refine RP.walkR_any ?_;simp only[Kh,dz_,Kg,tz_];go_big_quiet_step (fail);refine wpQuiet_nil ?_)
   iterate 1 (refine RP.walkR_read ?_;simp only[Kh,dz_,Kg,tz_];go_big_quiet_step (fail);refine wpQuiet_nil ?_)
   iterate 3 (refine RP.walkR_any ?_;simp only[Kh,dz_,Kg,tz_];go_big_quiet_step (fail);refine wpQuiet_nil ?_)
   iterate 1 (refine RP.walkR_read ?_;simp only[Kh,dz_,Kg,tz_];go_big_quiet_step (fail);refine wpQuiet_nil ?_)
   iterate 7 (refine RP.walkR_any ?_;simp only[Kh,dz_,Kg,tz_];go_big_quiet_step (fail);refine wpQuiet_nil ?_)
   iterate 1 (refine RP.walkR_read ?_;simp only[Kh,dz_,Kg,tz_];go_big_quiet_step (fail);refine wpQuiet_nil ?_)
   iterate 3 (refine RP.walkR_any ?_;simp only[Kh,dz_,Kg,tz_];go_big_quiet_step (fail);refine wpQuiet_nil ?_)
   iterate 1 (refine RP.walkR_read ?_;simp only[Kh,dz_,Kg,tz_];go_big_quiet_step (fail);refine wpQuiet_nil ?_)
   iterate 6 (refine RP.walkR_any ?_;simp only[Kh,dz_,Kg,tz_];go_big_quiet_step (fail);refine wpQuiet_nil ?_)
   iterate 1 (refine RP.walkR_move ?_;simp only[Kh,dz_,Kg,tz_];go_wp2_with fail)
   iterate 2 (refine RP.walkR_any ?_;simp only[Kh,dz_,Kg,tz_];go_big_quiet_step (fail);refine wpQuiet_nil ?_)
   iterate 1 (refine RP.walkR_move ?_;simp only[Kh,dz_,Kg,tz_];go_wp2_with fail)
   simp only[RP.walkR]
   go_wp2_with fail
   go_ret2
   refine⟨HF.out.2,rfl,⟨_,_,_,_,_,_,HF.out.1.mono hB,hBR,?_,?_,HV.out.1,HV.out.2⟩⟩
   ·rw[Hwo.out];exact HN.out.1
   ·rw[Hwo.out];exact HN.out.2
def Zbe (l:List Bool):List Value:=l.map Value.bool
theorem Zaf(l:List Bool):(Zbe l).length=l.length:=by simp[Zbe]
theorem Zlb(l m:List Bool):Zbe (l++m)=Zbe l++Zbe m:=by simp[Zbe]
theorem Zgy(l:List Bool)(j:Nat)(h:j<l.length):(Zbe l)[j]?=some (.bool (l.getD j false)):=by
 simp[Zbe,List.getD_eq_getElem?_getD,h]
theorem Zwv:(Tryz.prog.info? 4).map (fun i=>(i.zero,i.size,i.bytes))=some (some (.bool false),1,1):=by kernel_rfl
theorem Qbh:Zbp Tryz.prog 74 4 (.bool false) 1 1:=⟨Tryz.underlying74,info_parts Zwv,rfl,by decide⟩
def Zhe (w:World) (B:Nat) (a:Option Addr) (c:Nat) (l:List Bool):Prop:=w.ownsRow B 4 1 (.slice a l.length c) l.length (Zbe l)
structure BoI (w:World) (B:Nat) (a:Option Addr) (c:Nat) (l:List Bool):Prop where
 own:Zhe w B a c l
 fst:∀ k,(Value.slice a l.length c).ownBlock=some k→∃ b,w.cell? ⟨k,0,none⟩=some (.bool b)
theorem BoI.nil(w:World)(B:Nat):BoI w B none 0 []:=⟨World.ownsRow_nil ..,fun k h=>by simp[Value.ownBlock] at h⟩
theorem BoI.of{w:World}{B:Nat}{a:Option Addr}{c:Nat}{l:List Bool}(h:Zhe w B a c l)(h0:0<l.length):BoI w B a c l:=by
 refine⟨h,fun k hk=>?_⟩
 obtain⟨g,cap,hv,h1,h2,h3,h4,h5⟩:=Vv h h0;simp only[Value.slice.injEq] at hv;obtain⟨rfl,-,rfl⟩:=hv;have e:g=k:=by simpa [Value.ownBlock] using hk
 subst e;have:=h4 0 (by omega)
 rw[Zgy l 0 h0] at this;exact⟨_,this⟩
theorem BoI.grown{w w':World}{B R:Nat}{a:Option Addr}{c:Nat}{l:List Bool}(h:BoI w B a c l)(hg:w.grownBy w' (some R))(hR:∀ b,w.cell? ⟨R,0,none⟩≠some (.bool b)):BoI w' B a c l:=by
 have hne:∀ k,(Value.slice a l.length c).ownBlock=some k→k≠R:=fun k hk e=>by
  obtain⟨b,hb⟩:=h.fst k hk;rw[e] at hb;exact hR b hb
 refine⟨World.ownsRow.kept h.own hg ?_,fun k hk=>?_⟩
 ·cases hv:(Value.slice a l.length c).ownBlock with
  | none=>simp
  | some k=>exact .inr fun e=>by cases e;exact hne _ hv rfl
 ·obtain⟨b,hb⟩:=h.fst k hk;refine⟨b,?_⟩;have hs:=block_lt_of_cell hb;have hbl:=hg.block k hs (fun e=>hne k hk (by cases e;rfl))
  unfold World.cell? at hb ⊢;simp only at hb hbl ⊢;rw[hbl];exact hb
theorem Ztq.notBool{w:World}{B R P lo hi:Nat}(h:Ztq w B R P lo hi):∀ b,w.cell? ⟨R,0,none⟩≠some (.bool b):=fun b hb=>by
 obtain⟨a1,c1,L,a2,c2,H,S,-⟩:=h;rw[(Ki S.ob).1] at hb;cases hb
theorem Ztq.kept{w w':World}{B R P lo hi:Nat}(h:Ztq w B R P lo hi){row:Option Nat}(hg:w.grownBy w' row)(hrow:∀ k,row=some k→∃ b,w.cell? ⟨k,0,none⟩=some (.bool b)):Ztq w' B R P lo hi:=by
 obtain⟨a1,c1,L,a2,c2,H,S,hB,l1,l2,v1,v2⟩:=h;have key:∀ (a:Option Addr) (c:Nat) (l:List Nat),l.length=P/64+2→Qv w B a c l→Qv w' B a c l:=fun a c l hl ho=>by
  refine World.ownsRow.kept ho hg ?_;obtain⟨g,rfl,h1,h2,h3,h4,h5⟩:=ho.open (by omega)
  right;intro e;obtain⟨b,hb⟩:=hrow g (show row=some g from e.symm)
  rw[h4 0 (by omega)] at hb
  cases hb
 refine⟨a1,c1,L,a2,c2,H,⟨?_,key _ _ _ l1 S.o1,key _ _ _ l2 S.o2,S.p1,S.p2⟩,hB,l1,l2,v1,v2⟩;rw[hg.block R (Array.getElem?_eq_some_iff.1 S.ob).1 (fun e=>?_)]
 ·exact S.ob
 ·obtain⟨b,hb⟩:=hrow R e.symm;rw[(Ki S.ob).1] at hb;cases hb
def Qaa (w w':World) (p P n:Nat) (e:Ending):Prop :=
 Below w.heap.size w w'∧match Vm p P n with
  | some _=>∃ a c,e = .returned (.tuple #[.slice a n c,.bool true])∧Zhe w' w.heap.size a c (Zdf p P n)
  | none=>e = .returned (.tuple #[.slice none 0 0,.bool false])
structure DgI (w wr:World) (R p P n j lo hi o:Nat) (a:Option Addr) (c:Nat):Prop where
 dg:Vm p P j=some (lo,hi,o)
 ma:Ztq wr w.heap.size R P lo hi
 bo:BoI wr w.heap.size a c (Zdf p P j)
 bel:Below w.heap.size w wr
theorem Zmv(w:World)(p n P:Nat)(hp:2≤p)(hp2:p≤97)(hl:p.log2≤6)(hn:n≤1000)(hP:n+64≤P)(hP2:P≤1300):
  Calls Tryz.prog 139 #[.int .i64 p,.int .i64 p.log2,.int .i64 n,.int .i64 P] w fun e w'=>Qaa w w' p P n e:=by
 have HB:=hd_ (Ztj w p p.log2 P (by omega) (by omega) (by omega))
 have H0:Hid (Vm p P 0=some (p*2^(P-p.log2),p*2^(P-p.log2),p.log2)):=rfl;have Hbit:Hid (∀ W R j lo hi o,w.heap.size≤W.heap.size→j<n→Vm p P j=some (lo,hi,o)→Ztq W w.heap.size R P lo hi→Calls Tryz.prog 196 #[.pointer (some ⟨R,0,none⟩)] W fun e w'=>Zw2 W w' w.heap.size R P (Ze6 (2^P) lo hi) e):=fun W R j lo hi o hW hj hd hM=>by
  refine Zx9 W w.heap.size R P lo hi hM (by omega) hW (Zmz j _ hd) fun x hx=>?_
  have h1:=(Zfy (b:=x.1) (l':=x.2.1) (g':=x.2.2) hd hx).1;have h2:=Zof (P:=P) (by omega) (by omega) (j+1) (by omega) (by omega) _ h1
  have h3:=Zmz (j+1) _ h1;have h4:=Zsp (P:=P) (n:=j+1) (by omega) (by omega) h2
  exact⟨Nat.lt_of_le_of_lt h3 h4,h4⟩
 generalize hk:p.log2=k at *
 have Hk:=hd_ hk;clear hk;go_enter Tryz.func139,Tryz.ntmps139
 go_wp2_with fail
 refine cm_ HB.out ?_;rintro e w1 ⟨R,rfl,hM,hb⟩;have HD0:Hid (DgI w w1 R p P n 0 _ _ _ none 0):=⟨H0.out,hM,BoI.nil _ _,hb⟩;clear hM hb HB H0
 go_wp2_with fail
 go_loopw [11,19] (fun v i wr=>∃ (j lo hi o:Nat) (a:Option Addr) (c:Nat),j≤n∧i = .int .i64 j∧v = .slice a j c∧Hid (DgI w wr R p P n j lo hi o a c)) (fun _ i _=>n-(intOf i).toNat)
 case atStart=>exact⟨0,_,_,_,none,0,Nat.zero_le _,rfl,rfl,HD0⟩
 case round =>
  obtain⟨j,lo,hi,o,a,c,hj,rfl,rfl,HD⟩:=hrel;clear HD0
  by_cases hlt:j<n
  ·have hlt':(j:Int)<n:=by omega
   have hjw:IntKind.i64.wrap ((j:Int)+1)=((j+1:Nat):Int):=by rw[← Int.natCast_succ];exact iw_ _ (by omega)
   go_wp2_with fail
   refine cm_ (Hbit.out _ R j lo hi o HD.out.bel.size hlt HD.out.dg HD.out.ma) ?_;rintro e w2 ⟨hg,hm⟩;have hBR:w.heap.size≤R:=by obtain⟨_,_,_,_,_,_,-,h,-⟩:=HD.out.ma;exact h
   have B2:=hd_ (HD.out.bel.grown hg HD.out.bel.size (fun k hk=>by cases hk;exact hBR))
   have BO2:=hd_ (HD.out.bo.grown hg HD.out.ma.notBool);have Hsz:=hd_ B2.out.size;cases hst:Ze6 (2^P) lo hi with
   | none =>
    rw[hst] at hm;obtain rfl:=hm;have Hnone:Hid (Vm p P n=none):=Zkw (Zjx HD.out.dg hst) hlt;clear hg hst HD Hbit BO2
    go_wp2_with fail
    go_ret2
    refine⟨B2.out,?_⟩;rw[Hnone.out];rfl
   | some x =>
    rw[hst] at hm;obtain⟨rfl,hM⟩:=hm;obtain⟨x1,x2,x3⟩:=x;obtain⟨hd2,hb2⟩:=Zfy HD.out.dg hst;have Hd2:=hd_ hd2;have Hb2:=hd_ hb2;have HM:=hd_ hM;clear hg hst HD hM hd2 hb2;have Hown:Hid (w2.ownsRow w.heap.size 4 1 (.slice a j c) j (Zbe (Zdf p P j))):=by
     have:=BO2.out.own
     unfold Zhe at this;rw[Yf] at this;exact this
    have Hfst:Hid (∀ k,(Value.slice a j c).ownBlock=some k→∃ b,w2.cell? ⟨k,0,none⟩=some (.bool b)):=by
     have:=BO2.out.fst
     rw[Yf] at this;exact this
    clear BO2
    go_wp2_with (at_builtin;refine Km rfl (.tmp 28) (.tmp 30) 74 rfl Qbh _ 1 [.bool x1] rfl rfl Hown.out Hsz.out rfl (by simp[Value.oneCell']) (by omega) (by omega) ?_)
    intro v' w3 hown hgrow hnil;obtain⟨a3,d3,rfl⟩:=Qj hown;have BO3:Hid (Zhe w3 w.heap.size a3 d3 (Zdf p P (j+1))):=by
     show Zhe _ _ _ _ _
     unfold Zhe;rw[Yf,Zqe,Zlb,Hb2.out];exact hown
    have M3:=hd_ ((show Ztq (w2.alloc (.cells #[.bool x1] 4)) w.heap.size R P x2 x3 from by
     obtain⟨a1,c1,L,a2,c2,H,S,h1,h2,h3,h4,h5⟩:=HM.out;exact⟨a1,c1,L,a2,c2,H,S.below ((Below.refl _ _).alloc nr_ _),h1,h2,h3,h4,h5⟩).kept hgrow (fun k hk=>by
      obtain⟨b,hb⟩:=Hfst.out k hk;exact⟨b,Lib.cell?_alloc_some _ hb⟩))
    have B3:=hd_ ((B2.out.alloc Hsz.out (.cells #[.bool x1] 4)).grown hgrow (by simp;have:=Hsz.out;omega) (fun k hk=>(World.ownsRow.lt Hown.out k hk).1))
    clear hown hgrow hnil HM Hown Hfst B2
    go_wp2_with fail
    go_roundw
    case rel=>exact⟨j+1,x2,x3,_,a3,d3,by omega,by go_num,rfl,⟨Hd2.out,M3.out,BoI.of BO3.out (by rw[Yf];omega),B3.out⟩⟩
    case measure=>simp[intOf];omega
  ·have hjn:j=n:=by omega
   subst hjn;have hlt':¬ (j:Int)<j:=by omega
   have Hown:Hid (Zhe wr w.heap.size a c (Zdf p P j)):=HD.out.bo.own
   go_wp2_with fail
   go_ret2
   refine⟨HD.out.bel,?_⟩;rw[HD.out.dg];exact⟨a,c,rfl,Hown.out⟩
theorem Zl1{w:World}{a:Option Addr}{V:List Value}(h:Rd w a V)(m:Nat):Rd w a (V.take m):=by
 rcases h with rfl|⟨b,off,h1,h2,h3⟩
 ·left;simp
 ·refine .inr ⟨b,off,h1,h2,fun i v hi=>h3 i v ?_⟩
  rw[List.getElem?_take] at hi;split at hi
  ·exact hi
  ·cases hi
theorem Zrb{w:World}{b o d:Nat}{V:List Value}(h:Rd w (some ⟨b,o,none⟩) V)(m:Nat)(hd:V.length≤d):Rd w (if d=m then some ⟨b,o,none⟩ else some ⟨b,o+m,none⟩) (V.drop m):=by
 split
 ·left;rw[List.drop_of_length_le (by omega)]
 ·rcases h with rfl | ⟨b',off,h1,h2,h3⟩
  ·left;simp
  ·simp only[Option.some.injEq,Addr.mk.injEq,and_true] at h1;obtain⟨rfl,rfl⟩:=h1;refine .inr ⟨b,o+m,rfl,h2,fun i v hi=>?_⟩
   rw[List.getElem?_drop] at hi;rw[Nat.add_assoc];exact h3 (m+i) v hi
end Go.Proofs.YtnjedhgcfeoemaaGreatDoor
