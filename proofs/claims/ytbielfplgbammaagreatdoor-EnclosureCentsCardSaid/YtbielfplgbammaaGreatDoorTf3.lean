/- Lemmas for the laws of this seat, part 3. -/
import Derived.RegionIn
import Derived.BigRegionIn
import Derived.WalkMore
import Derived.Scope
import Derived.Great.BuildSlice
import Derived.Laws.StructEq
import Derived.Lib.Join
import Derived.Shelf.Strings.OnBuilder
import Derived.Lib.SmallJoins
import Derived.Test.YtbielfplgbammaaGreatDoorRows
import Derived.LoopN
import Derived.Deep.MidRow
import Derived.ProofKit
import Derived.OpenShut
import Derived.ShutString
import Derived.ChangeOld
import Derived.Laws.BitsLemmas
import Derived.Test.YtbielfplgbammaaGreatDoorTf2
set_option maxRecDepth 100000
set_option maxHeartbeats 16000000
namespace Go.Proofs.YtbielfplgbammaaGreatDoor
open Go.RowKit Go.Shelf
attribute [local go_sem] Oper.semAt_some
def lgA (p:Int):Int:=match Vr p.toNat 62 26 with
 | some s=>s.2.2
 | none=>0
def lgB (p:Int):Int:=if p=2 then lgA p else lgA p+1
def okT (most:Int) (x:Int×Int):Prop:=(-most<=x.2/\x.2<=most)/\(Vr x.1.toNat 62 26).isSome=true
instance (most:Int) (x:Int×Int):Decidable (okT most x):=by unfold okT;infer_instance
def Zcm (tl:List (Int×Int)):Int:=(tl.map fun x=>min (x.2*lgA x.1) (x.2*lgB x.1)).sum
def Vx (tl:List (Int×Int)):Int:=(tl.map fun x=>max (x.2*lgA x.1) (x.2*lgB x.1)).sum
structure Zk (p:Addr) (v:Value) where
 w:World
 h:w.cell? p=some v
def Zoz (most:Int) (tl:List (Int×Int)):Value :=
 if ∀ x∈tl,okT most x then .tuple #[.int .i64 (Zcm tl),.int .i64 (Vx tl),.bool true] else .tuple #[.int .i64 0,.int .i64 0,.bool false]
theorem Qk{W W':World}(h:Bw_ W W'):KeepsOthers W W' :=
 ⟨h.size,fun k _ hk _=>(h.block k (Array.getElem?_eq_some_iff.1 hk).1).trans hk⟩
theorem Yu{w:World}{g:Nat}{a:Value}{t:TypeId}(h:w.heap[g]?=some (.cells #[a] t (0,0))):w.cell? ⟨g,0,none⟩=some a/\w.frozen? ⟨g,0,none⟩=false :=
 ⟨by rw[cell_of_row w g 0 _ t (0,0) h];rfl,by simp[World.frozen?,h]⟩
theorem Kj{w:World}{g:Nat}{o:Obj}(h:w.heap[g]?=some o)(o':Obj):(w.alloc o').heap[g]?=some o:=by
 exact(Below.heap_alloc w o' g (Array.getElem?_eq_some_iff.1 h).1).trans h
theorem Qe(w:World)(c:Array Value)(t:TypeId)(k:Nat)(hk:w.heap.size=k):(w.alloc (.cells c t)).heap[k]?=some (.cells c t (0,0)):=by
 subst hk;exact Go.heap_alloc_new w _
theorem Qe7(w:World)(o1:Obj)(v2 v3 v4 v5:Value)(t2 t3 t4 t5:TypeId)(W:World)(hW:((((w.alloc o1).alloc (.cells #[v2] t2)).alloc (.cells #[v3] t3)).alloc (.cells #[v4] t4)).alloc (.cells #[v5] t5)=W):
  W.heap[w.heap.size+1]?=some (.cells #[v2] t2 (0,0))/\W.heap[w.heap.size+1+1]?=some (.cells #[v3] t3 (0,0))/\W.heap[w.heap.size+1+1+1]?=some (.cells #[v4] t4 (0,0))/\W.heap[w.heap.size+1+1+1+1]?=some (.cells #[v5] t5 (0,0)):=by
 subst hW;refine⟨Kj (Kj (Kj (Qe _ _ _ _ (by simp)) _) _) _,Kj (Kj (Qe _ _ _ _ (by simp)) _) _,Kj (Qe _ _ _ _ (by simp)) _,Qe _ _ _ _ (by simp)⟩
structure Zd3 (B:Nat) (most:Int) (l:List (Int×Int)) (W:World):Prop where
 c3:W.cell? ⟨B+1,0,none⟩=some (.int .i64 most)
 c4:W.cell? ⟨B+1+1,0,none⟩=some (.int .i64 (Zcm l))
 c5:W.cell? ⟨B+1+1+1,0,none⟩=some (.int .i64 (Vx l))
 c6:W.cell? ⟨B+1+1+1+1,0,none⟩=some (.bool false)
 f4:W.frozen? ⟨B+1+1,0,none⟩=false
 f5:W.frozen? ⟨B+1+1+1,0,none⟩=false
 f6:W.frozen? ⟨B+1+1+1+1,0,none⟩=false
 sz:B+5<W.heap.size
 ok:∀ x∈l,okT most x
structure Zxs (B:Nat) (W:World):Prop where
 c4:W.cell? ⟨B+1+1,0,none⟩=some (.int .i64 0)
 c5:W.cell? ⟨B+1+1+1,0,none⟩=some (.int .i64 0)
 c6:W.cell? ⟨B+1+1+1+1,0,none⟩=some (.bool false)
theorem Zd3.below{B:Nat}{most:Int}{l:List (Int×Int)}{W W':World}(h:Zd3 B most l W)(hb:Bw_ W W'):Zd3 B most l W' :=
 ⟨(hb.cell (block_lt_of_cell h.c3)).trans h.c3,(hb.cell (block_lt_of_cell h.c4)).trans h.c4,(hb.cell (block_lt_of_cell h.c5)).trans h.c5,(hb.cell (block_lt_of_cell h.c6)).trans h.c6,
  (hb.frozen (block_lt_of_cell h.c4)).trans h.f4,(hb.frozen (block_lt_of_cell h.c5)).trans h.f5,(hb.frozen (block_lt_of_cell h.c6)).trans h.f6,Nat.lt_of_lt_of_le h.sz hb.size,h.ok⟩
theorem Zd3.kept{B:Nat}{most:Int}{l:List (Int×Int)}{W W':World}{row:Option Nat}(h:Zd3 B most l W)(hg:W.grownBy W' row)(hr:∀ r,row=some r->∃ o:Obj,W.heap[r]?=some o/\o.isCells=false):Zd3 B most l W' :=
 ⟨cell_kept h.c3 hg hr,cell_kept h.c4 hg hr,cell_kept h.c5 hg hr,cell_kept h.c6 hg hr,(frozen_kept h.c4 hg hr).trans h.f4,(frozen_kept h.c5 hg hr).trans h.f5,(frozen_kept h.c6 hg hr).trans h.f6,Nat.lt_of_lt_of_le h.sz hg.size,h.ok⟩
theorem Zxs.kept{B:Nat}{W W':World}{row:Option Nat}(h:Zxs B W)(hg:W.grownBy W' row)(hr:∀ r,row=some r->∃ o:Obj,W.heap[r]?=some o/\o.isCells=false):Zxs B W' :=
 ⟨cell_kept h.c4 hg hr,cell_kept h.c5 hg hr,cell_kept h.c6 hg hr⟩
theorem Zd3.quits{B:Nat}{most:Int}{l:List (Int×Int)}{W:World}(h:Zd3 B most l W):Zxs B (((W.setCell ⟨B+1+1,0,none⟩ (.int .i64 0)).setCell ⟨B+1+1+1,0,none⟩ (.int .i64 0)).setCell ⟨B+1+1+1+1,0,none⟩ (.bool false)):=by
 refine⟨?_,?_,?_⟩
 ·rw[World.cell?_setCell_other _ _ _ _ (by simp),World.cell?_setCell_other _ _ _ _ (by simp),World.cell?_setCell_same _ _ _ h.c4]
 ·rw[World.cell?_setCell_other _ _ _ _ (by simp),World.cell?_setCell_same _ _ _ (by rw[World.cell?_setCell_other _ _ _ _ (by simp)];exact h.c5)]
 ·rw[World.cell?_setCell_same _ _ _ (by rw[World.cell?_setCell_other _ _ _ _ (by simp),World.cell?_setCell_other _ _ _ _ (by simp)];exact h.c6)]
theorem Zd3.stored{B:Nat}{most:Int}{l l':List (Int×Int)}{W:World}(h:Zd3 B most l W){v5 v6:Int}(h5:Zcm l'=v5)(h6:Vx l'=v6)(ok:∀ x∈l',okT most x):
  Zd3 B most l' ((W.setCell ⟨B+1+1,0,none⟩ (.int .i64 v5)).setCell ⟨B+1+1+1,0,none⟩ (.int .i64 v6)):=by
 refine⟨?_,?_,?_,?_,?_,?_,?_,?_,ok⟩
 ·rw[World.cell?_setCell_other _ _ _ _ (by simp),World.cell?_setCell_other _ _ _ _ (by simp)];exact h.c3
 ·rw[World.cell?_setCell_other _ _ _ _ (by simp),World.cell?_setCell_same _ _ _ h.c4,h5]
 ·rw[World.cell?_setCell_same _ _ _ (by rw[World.cell?_setCell_other _ _ _ _ (by simp)];exact h.c5),h6]
 ·rw[World.cell?_setCell_other _ _ _ _ (by simp),World.cell?_setCell_other _ _ _ _ (by simp)];exact h.c6
 ·rw[World.frozen?_setCell,World.frozen?_setCell];exact h.f4
 ·rw[World.frozen?_setCell,World.frozen?_setCell];exact h.f5
 ·rw[World.frozen?_setCell,World.frozen?_setCell];exact h.f6
 ·have:=h.sz;simpa using this
theorem Zvs{B:Nat}{W0 W W4:World}(hB:W0.heap.size=B)(hb:Bw_ W0 W)(GM:B+5<W.heap.size)(h:Bw_ W W4)(v5 v6:Value):
  KT B (B+5) W ((W4.setCell ⟨B+1+1,0,none⟩ v5).setCell ⟨B+1+1+1,0,none⟩ v6):=by
 subst hB;refine⟨((h.mono hb.size).setCell (p:=⟨W0.heap.size+1+1,0,none⟩) (by show _<=W0.heap.size+1+1;omega) _).setCell (p:=⟨W0.heap.size+1+1+1,0,none⟩) (by show _<=W0.heap.size+1+1+1;omega) _,?_⟩;rw[Zp (g:=W0.heap.size+1+1+1) (k:=W0.heap.size+5) (by omega),Zp (g:=W0.heap.size+1+1) (k:=W0.heap.size+5) (by omega),h.block _ GM]
theorem Zaw{W0 W:World}(hb:Bw_ W0 W)(v5 v6:Value):Bw_ W0 ((W.setCell ⟨W0.heap.size+1+1,0,none⟩ v5).setCell ⟨W0.heap.size+1+1+1,0,none⟩ v6) :=
 (hb.setCell (p:=⟨W0.heap.size+1+1,0,none⟩) (by show _<=W0.heap.size+1+1;omega) _).setCell (p:=⟨W0.heap.size+1+1+1,0,none⟩) (by show _<=W0.heap.size+1+1+1;omega) _
def Zo0 (w:World) (b1 b2:OA_) (d1 d2 D m:Nat) (most:Int) (p:Int) (k:ByteArray):Act:={ tmps := #[.agg (Kk b1 d1 b2 d2 m D),.int .i64 most,.pointer (some ⟨w.heap.size,0,none⟩),.pointer (some ⟨w.heap.size+1,0,none⟩),.pointer (some ⟨w.heap.size+1+1,0,none⟩),.pointer (some ⟨w.heap.size+1+1+1,0,none⟩),.pointer (some ⟨w.heap.size+1+1+1+1,0,none⟩),.int .i64 p,.string k,undef,undef,undef,undef,undef,.agg #[.slice b1 m d1,.slice b2 m d2,.string (dec D)],.func (.func 282) #[] #[.pointer (some ⟨w.heap.size+1+1+1+1+1,0,none⟩)],.int .i64 p,.string k,undef,undef,undef,undef,undef,undef,undef,undef,undef,undef,undef,undef,undef,undef,undef,undef,undef,undef,undef,undef,undef,undef,undef,undef,undef,undef,undef,undef,undef,undef,undef,undef,undef,undef,undef,undef,undef,undef,undef,undef,undef,undef,undef,undef,undef,undef,undef,undef,undef,undef],defers:=[] }
theorem Zv1(l:List (Int×Int))(x:Int×Int):Zcm (l++[x])=Zcm l+min (x.2*lgA x.1) (x.2*lgB x.1):=by simp[Zcm]
theorem Ztr(l:List (Int×Int))(x:Int×Int):Vx (l++[x])=Vx l+max (x.2*lgA x.1) (x.2*lgB x.1):=by simp[Vx]
theorem Qax(p:Int)(h1:2<=p)(h2:p<=97):0<=lgA p/\lgA p<=469762048:=by
 unfold lgA;cases hq:Vr p.toNat 62 26 with
 | none=>exact⟨Int.le_refl _,by decide⟩
 | some s =>
  have dJ:=(Zer p.toNat (by omega) (by omega) 26 s hq).o;have:(2:Nat)^26=67108864:=rfl
  simp only;omega
theorem Zvk{k a:Int}(hk : -10000000<=k/\k<=10000000)(ha:0<=a/\a<=469762049): -4697620490000000<=k*a/\k*a<=4697620490000000:=by
 have h:(k*a).natAbs<=10000000*469762049:=by rw[Int.natAbs_mul];exact Nat.mul_le_mul (by omega) (by omega)
 omega
theorem Zuq{most:Int}(hm:most<=10000000){x:Int×Int}(hx:okT most x)(hp:2<=x.1/\x.1<=97):
  (-4697620490000000<=x.2*lgA x.1/\x.2*lgA x.1<=4697620490000000)/\(-4697620490000000<=x.2*lgB x.1/\x.2*lgB x.1<=4697620490000000):=by
 have ha:=Qax x.1 hp.1 hp.2;have hk:=hx.1;refine⟨Zvk (by omega) (by omega),Zvk (by omega) ?_⟩;unfold lgB;split<;>omega
theorem Zuu{most:Int}(hm:most<=10000000):∀ (l:List (Int×Int)),(∀ x∈l,okT most x/\2<=x.1/\x.1<=97) ->
  (-((l.length:Int)*4697620490000000)<=Zcm l/\Zcm l<=(l.length:Int)*4697620490000000)/\(-((l.length:Int)*4697620490000000)<=Vx l/\Vx l<=(l.length:Int)*4697620490000000)
 | [],_=>⟨⟨Int.le_refl _,Int.le_refl _⟩,⟨Int.le_refl _,Int.le_refl _⟩⟩
 | x::l,h=>by
  have ih:=Zuu hm l (fun y hy=>h y (List.mem_cons_of_mem _ hy));have hx:=h x (List.mem_cons_self ..);have ht:=Zuq hm hx.1 hx.2;have e1:Zcm (x::l)=min (x.2*lgA x.1) (x.2*lgB x.1)+Zcm l:=by simp[Zcm]
  have e2:Vx (x::l)=max (x.2*lgA x.1) (x.2*lgB x.1)+Vx l:=by simp[Vx]
  rw[e1,e2,List.length_cons];omega
theorem Zq9(w:World)(b1 b2:OA_)(d1 d2 D:Nat)(tl:List (Int×Int))(most:Int)(di:0<=most)(hm:most<=10000000)(hl:tl.length<=1000)
  (dE:Rd w b1 (Qw (tl.map Prod.fst))) (eN:Rd w b2 (Zd9 (tl.map fun x=>itx x.2))) (hp:∀ x∈tl,2<=x.1/\x.1<=97) (hz:∀ x∈tl,Zbo x.2) (L:Qg w) :
  Kc Tryz.prog 230 #[.agg (Kk b1 d1 b2 d2 tl.length D),.int .i64 most] w (Zoz most tl):=by
 unfold Kc;refine(callsIn_wide (n:=3)).1 ?_;refine callsIn_of_wp_marks Tryz.func230 rfl trivial ?_ rfl;simp only[Tryz.ntmps230,List.size_toArray,List.length_cons,List.length_nil,Nat.reduceAdd,Nat.reduceSub,Array.replicate_succ,Array.replicate_zero,List.push_toArray,List.append_toArray,List.nil_append,List.cons_append];have Ff:Hid (∀ x∈tl,∀ W,Bw_ w W->Kc Tryz.prog 179 #[.string (itx x.2)] W (if -9223372036854775808<=x.2/\x.2<=9223372036854775807 then .tuple #[.int .i64 x.2,.bool true] else .tuple #[.int .i64 0,.bool false])):=fun x hx W hW=>Ze2 W x.2 (hz x hx) (L.below hW)
 have mr:Hid (∀ x∈tl,∀ W,Kc Tryz.prog 281 #[.int .i64 x.1] W (Zhn x.1.toNat)):=fun x hx W=>by
  have h1:=hp x hx;obtain⟨q,hq⟩:=Int.eq_ofNat_of_zero_le (show 0<=x.1 by omega);have:=Zzj W q (by omega) (by omega)
  rw[hq];exact this
 clear L hz
 gi_wp2_with fail
 obtain⟨w0,EM⟩:∃ w0,((((w.alloc (Obj.cells (Kk b1 d1 b2 d2 tl.length D) 146)).alloc (Obj.cells #[Value.int IntKind.i64 most] 3)).alloc (Obj.cells #[Value.int IntKind.i64 0] 3)).alloc (Obj.cells #[Value.int IntKind.i64 0] 3)).alloc (Obj.cells #[Value.bool false] 4)=w0:=⟨_,rfl⟩;have Ft:w0.heap.size=w.heap.size+5:=by rw[<- EM];simp
 have Az:Bw_ w w0:=by rw[<- EM];exact(((((Below.refl _ w).alloc nr_ _).alloc (by simp) _).alloc (by simp;omega) _).alloc (by simp;omega) _).alloc (by simp;omega) _
 have DP:=Qe7 w _ _ _ _ _ _ _ _ _ w0 EM;rw[EM];refine⟨trivial,?_⟩;refine(callsIn_wide.2 (Zxo w0 b1 b2 d1 d2 tl.length D)).mono ?_;rintro e w' ⟨rfl,rfl⟩;rw[Ft];have Be:(w0.alloc (.cells (Kk b1 d1 b2 d2 tl.length D) 146)).heap[w.heap.size+5]?=some (.cells (Kk b1 d1 b2 d2 tl.length D) 146 (0,0)):=by
  rw[<- Ft];exact Go.heap_alloc_new w0 _
 have GN:Bw_ w (w0.alloc (.cells (Kk b1 d1 b2 d2 tl.length D) 146)):=Az.alloc (by omega) _;have Gx:(w0.alloc (.cells (Kk b1 d1 b2 d2 tl.length D) 146)).heap.size=w.heap.size+6:=by rw[World.size_alloc,Ft]
 have DS:Zd3 w.heap.size most [] (w0.alloc (.cells (Kk b1 d1 b2 d2 tl.length D) 146)):=by
  obtain⟨h1,h2,h3,h4⟩:=DP;have h1:=Kj h1 (.cells (Kk b1 d1 b2 d2 tl.length D) 146);have h2:=Kj h2 (.cells (Kk b1 d1 b2 d2 tl.length D) 146);have h3:=Kj h3 (.cells (Kk b1 d1 b2 d2 tl.length D) 146);have h4:=Kj h4 (.cells (Kk b1 d1 b2 d2 tl.length D) 146);exact⟨(Yu h1).1,(Yu h2).1,(Yu h3).1,(Yu h4).1,(Yu h2).2,(Yu h3).2,(Yu h4).2,by rw[Gx];omega,fun x hx=>by cases hx⟩
 clear Az EM DP;generalize w0.alloc (.cells (Kk b1 d1 b2 d2 tl.length D) 146)=w1 at *
 gi_wp2_with fail
 refine wpIn_rangeFunc_ownF rfl (by decide) (gf:=282) (lb := #[.pointer (some ⟨w.heap.size+5,0,none⟩)]) rfl trivial (enters_of Tryz.func282 (by kernel_rfl) rfl)
  (Znw 2 (by decide) w w1 GN (w.heap.size+5) b1 b2 d1 d2 D tl hl Be dE eN) Qgh (Qgi (by rw[Gx];omega) (by rw[Gx];omega)) (Below.refl _ _) (fun _=>rfl)
  (fun pre W=>Zd3 w.heap.size most (pre.map Subtype.val) W/\Bw_ w W)
  (fun c pre W=>(c = .ret/\(∃ x∈tl,¬ okT most x)/\Zxs w.heap.size W)/\Bw_ w W)
  (OwnFrom.and (Own.from (fun s A B row hs hg hr=>hs.kept hg hr) _) (ownFrom_below nr_ (by rw[Gx];omega)))
  (fun c=>OwnFrom.and (Own.from (fun s A B row hs hg hr=>⟨hs.1,hs.2.1,hs.2.2.kept hg hr⟩) _) (ownFrom_below nr_ (by rw[Gx];omega)))
  ⟨DS,GN⟩
  (fun x=>Zo0 w b1 b2 d1 d2 D tl.length most x.1.1 (itx x.1.2)) ?assign ?body ?done ?stop
 case assign =>
  intro l x W K hK;unfold Zo0 at hK
  gi_wp2
  exact hK
 case body =>
  rintro l pre ⟨⟨p,k⟩,Gq⟩ W ⟨hI,hB⟩ gh;have HI:=hd_ hI;have HB:=hd_ hB;have Dy:=hp _ Gq;have GF:=Ff.o _ Gq W hB;have bT:=mr.o _ Gq;simp only at Dy GF bT;have CI:=hd_ Gq;unfold Zo0;clear hI hB dE eN DS GN Be;have Gk:=HI.o.c3;have gW:=HI.o.c4;have gV:=HI.o.c5;have dM:=HI.o.c6;have gU:=HI.o.f4;have gT:=HI.o.f5;have dK:=HI.o.f6
  by_cases hk64 : -9223372036854775808<=k/\k<=9223372036854775807
  ·rw[if_pos hk64] at GF;have G4:IntKind.i64.wrap (-most) = -most:=iw_ _ (by omega)
   by_cases EN:k<=most
   ·by_cases fX : -most<=k
    ·have Ef:∀ W,Kc Tryz.prog 281 #[.int .i64 p] W (Zhn p.toNat):=bT
     by_cases hd:(Vr p.toNat 62 26).isSome=true
     ·obtain⟨ds,hds⟩:=Option.isSome_iff_exists.1 hd;have o8:=hd_ hds;have Ck:Hid (okT most (p,k)):=⟨⟨fX,EN⟩,hd⟩;have Am:Zhn p.toNat = .tuple #[.int .i64 ds.2.2,.bool true]:=by unfold Zhn;rw[hds]
      rw[Am] at Ef;have Dl:Hid (lgA p=(ds.2.2:Int)):=by show _=_;unfold lgA;rw[hds]
      have dJ:=(Zer p.toNat (by omega) (by omega) 26 ds hds).o;have f':ds.2.2<=469762048:=by have:(2:Nat)^26=67108864:=rfl;omega
      have EB:(pre.map Subtype.val).length<=1000:=by rw[List.length_map];omega
      have ae:=Zuu hm (pre.map Subtype.val) (fun x hx=>⟨HI.o.ok x hx,by
       obtain⟨y,_,rfl⟩:=List.mem_map.1 hx;exact hp _ y.2⟩)
      have ec:=Zuq hm Ck.o Dy;simp only at ec;have Eo:Hid (Zcm ((pre++[(⟨(p,k),Gq⟩:{x // x∈tl})]).map Subtype.val)=Zcm (pre.map Subtype.val)+min (k*lgA p) (k*lgB p)):=by
       show _=_
       rw[List.map_append];exact Zv1 _ _
      have En:Hid (Vx ((pre++[(⟨(p,k),Gq⟩:{x // x∈tl})]).map Subtype.val)=Vx (pre.map Subtype.val)+max (k*lgA p) (k*lgB p)):=by
       show _=_
       rw[List.map_append];exact Ztr _ _
      have fG:Hid (∀ x∈(pre++[(⟨(p,k),Gq⟩:{x // x∈tl})]).map Subtype.val,okT most x):=fun x hx=>by
       rw[List.map_append] at hx;rcases List.mem_append.1 hx with h|h
       ·exact HI.o.ok x h
       ·obtain rfl:=List.mem_singleton.1 h;exact Ck.o
      have af:lgB p=if p=2 then (ds.2.2:Int) else (ds.2.2:Int)+1:=by unfold lgB;rw[Dl.o]
      rw[Dl.o] at ec;rw[Dl.o] at Eo En;have bR:¬ most<k:=by omega
      have DH:¬ k < -most:=by omega
      have Mn:IntKind.i64.wrap ((ds.2.2:Int)+1)=(ds.2.2:Int)+1:=iw_ _ (by omega);clear hd hds Am dJ bT gh hk64
      by_cases gM:p=2
      ·rw[if_pos gM] at af;subst gM;rw[af] at ec Eo En;rw[Int.min_self] at Eo;rw[Int.max_self] at En;have fH:IntKind.i64.wrap (k*(ds.2.2:Int))=k*(ds.2.2:Int):=iw_ _ (by omega);clear af;generalize (ds.2.2:Int)=A at *;obtain⟨lo,fu⟩:∃ lo,Zcm (pre.map Subtype.val)=lo:=⟨_,rfl⟩;obtain⟨hi,hhi⟩:∃ hi,Vx (pre.map Subtype.val)=hi:=⟨_,rfl⟩;rw[fu] at ae Eo;rw[hhi] at ae En;have cF:=hd_ fu;have BD:=hd_ hhi;clear fu hhi;have dX:IntKind.i64.wrap (lo+k*A)=lo+k*A:=iw_ _ (by omega);have jc:IntKind.i64.wrap (hi+k*A)=hi+k*A:=iw_ _ (by omega);have AQ:=hd_ ec;have nZ:=hd_ ae
       gi_wp2_with fail
       refine⟨trivial,?_⟩;refine(CallsIn.inRound l (callsIn_wide.2 GF)).mono ?_;rintro e w2 ⟨rfl,H7⟩;have gv:=hd_ (HI.o.below H7);have GC:=bt_ HB H7;have FF:=hd_ (H7);have Gk:=gv.o.c3;have gW:=gv.o.c4;have gV:=gv.o.c5;have dM:=gv.o.c6;have gU:=gv.o.f4;have gT:=gv.o.f5;have dK:=gv.o.f6;clear GF H7
       gi_wp2_with fail
       refine⟨trivial,?_⟩;refine(CallsIn.inRound l (callsIn_wide.2 (Ef w2))).mono ?_;rintro e w3 ⟨rfl,hb3⟩;have gL:=hd_ (gv.o.below hb3);have fg:=bt_ GC hb3;have Ev:=bt_ FF hb3;have Gk:=gL.o.c3;have gW:=gL.o.c4;have gV:=gL.o.c5;have dM:=gL.o.c6;have gU:=gL.o.f4;have gT:=gL.o.f5;have dK:=gL.o.f6;clear Ef hb3
       gi_wp2_with fail
       have q0:=@Zk.h;have q9:Nonempty (Zk ⟨w.heap.size+1+1,0,none⟩ (.int .i64 lo)):=⟨⟨w3,by rw[gL.o.c4,cF.o]⟩⟩;have q8:Nonempty (Zk ⟨w.heap.size+1+1+1,0,none⟩ (.int .i64 hi)):=⟨⟨w3,by rw[gL.o.c5,BD.o]⟩⟩;refine Qr [(20,0),(1,1),(1,2),(1,3),(1,4),(1,5),(1,6),(1,7),(1,8),(21,9),(1,10),(1,11),(1,12),(1,13),(1,14),(1,15),(1,16),(1,17),(0,18),(0,19)]
        [(18,fun w'=>∃ p:Zk ⟨w.heap.size+1+1,0,none⟩ (.int .i64 lo),w'=p.w),(19,fun w'=>∃ p:Zk ⟨w.heap.size+1+1+1,0,none⟩ (.int .i64 hi),w'=p.w)]
        (by kernel_rfl) (by kernel_rfl) ⟨.inr ⟨⟨{ w3 with drawn:=w3.drawn+1 },gL.o.c4.trans (by rw[cF.o])⟩,rfl⟩,.inr ⟨⟨{ w3 with drawn:=w3.drawn+1 },gL.o.c5.trans (by rw[BD.o])⟩,rfl⟩,trivial⟩ ?_
       refine Qz (s:=18) _ (List.mem_cons_self ..) rfl ?_;simp only[dz_,Zag,tz_]
       go_big_quiet_step (fail)
       refine wq_ ?_;iterate 8 (refine Vn ?_;simp only[Za7,dz_,Zag,tz_];go_big_quiet_step (fail);refine wq_ ?_)
       refine Qz (s:=19) _ (List.mem_cons_of_mem _ (List.mem_cons_self ..)) rfl ?_;simp only[Za7,dz_,Zag,tz_]
       go_big_quiet_step (fail)
       refine wq_ ?_;iterate 8 (refine Vn ?_;simp only[Za7,dz_,Zag,tz_];go_big_quiet_step (fail);refine wq_ ?_)
       clear q0 q8 q9;obtain⟨w4,es⟩:∃ w4:World,{ heap:=w3.heap,tape:=w3.tape,drawn:=w3.drawn+1,os:=w3.os,output:=w3.output }=w4:=⟨_,rfl⟩;rw[es];have Gi:Hid (Zd3 w.heap.size most (pre.map Subtype.val) w4):=by rw[<- es];exact gL.o.below ⟨rfl,rfl,rfl,Nat.le_refl _,fun _ _=>rfl⟩
       have ff:Hid (Bw_ w w4):=by rw[<- es];exact fg.o.trans ⟨rfl,rfl,rfl,Nat.le_refl _,fun _ _=>rfl⟩
       have Eu:Hid (Bw_ W w4):=by rw[<- es];exact Ev.o.trans ⟨rfl,rfl,rfl,Nat.le_refl _,fun _ _=>rfl⟩
       clear es Gk gW gV dM gU gT dK;have gW:=Gi.o.c4;have gV:=Gi.o.c5;have gU:=Gi.o.f4;have gT:=Gi.o.f5;refine Qa ?_;simp only[Za7,dz_,Zag,tz_];go_wp2_with fail;obtain⟨v5,hv5⟩:∃ v5:Int,lo+k*A=v5:=⟨_,rfl⟩;obtain⟨v6,hv6⟩:∃ v6:Int,hi+k*A=v6:=⟨_,rfl⟩;rw[hv5];rw[hv6];have FB:(w4.setCell ⟨w.heap.size+1+1,0,none⟩ (.int .i64 v5)).cell? ⟨w.heap.size+1+1+1,0,none⟩=some (.int .i64 hi):=by
        rw[World.cell?_setCell_other _ _ _ _ (by simp),Gi.o.c5,BD.o]
       have DK:(w4.setCell ⟨w.heap.size+1+1,0,none⟩ (.int .i64 v5)).frozen? ⟨w.heap.size+1+1+1,0,none⟩=false:=by rw[World.frozen?_setCell];exact Gi.o.f5
       refine⟨⟨.inl rfl,.inr ⟨⟨w4.setCell ⟨w.heap.size+1+1,0,none⟩ (.int .i64 v5),FB⟩,rfl⟩,trivial⟩,?_⟩;clear gW gV gU gT;refine Qa ?_;simp only[Za7,dz_,Zag,tz_];go_wp2_with fail;refine⟨⟨.inl rfl,.inl rfl,trivial⟩,?_⟩;simp only[Vu];exact⟨(Qk Eu.o).trans ((KeepsOthers.setCell _ _ _).trans (KeepsOthers.setCell _ _ _)),Zvs rfl HB.o HI.o.sz Eu.o _ _,Gi.o.stored (Eo.o.trans hv5) (En.o.trans hv6) fG.o,Zaw ff.o _ _⟩
      ·rw[if_neg gM] at af;rw[af] at ec Eo En;have oe:(p==2)=false:=by rw[beq_eq_false_iff_ne];exact gM
       have fH:IntKind.i64.wrap (k*(ds.2.2:Int))=k*(ds.2.2:Int):=iw_ _ (by omega);have fM:IntKind.i64.wrap (k*((ds.2.2:Int)+1))=k*((ds.2.2:Int)+1):=iw_ _ (by omega);clear af;generalize (ds.2.2:Int)=A at *;obtain⟨lo,fu⟩:∃ lo,Zcm (pre.map Subtype.val)=lo:=⟨_,rfl⟩;obtain⟨hi,hhi⟩:∃ hi,Vx (pre.map Subtype.val)=hi:=⟨_,rfl⟩;rw[fu] at ae Eo;rw[hhi] at ae En;have cF:=hd_ fu;have BD:=hd_ hhi;clear fu hhi;have dX:IntKind.i64.wrap (lo+min (k*A) (k*(A+1)))=lo+min (k*A) (k*(A+1)):=iw_ _ (by omega);have jc:IntKind.i64.wrap (hi+max (k*A) (k*(A+1)))=hi+max (k*A) (k*(A+1)):=iw_ _ (by omega);have AQ:=hd_ ec;have nZ:=hd_ ae
       gi_wp2_with fail
       refine⟨trivial,?_⟩;refine(CallsIn.inRound l (callsIn_wide.2 GF)).mono ?_;rintro e w2 ⟨rfl,H7⟩;have gv:=hd_ (HI.o.below H7);have GC:=bt_ HB H7;have FF:=hd_ (H7);have Gk:=gv.o.c3;have gW:=gv.o.c4;have gV:=gv.o.c5;have dM:=gv.o.c6;have gU:=gv.o.f4;have gT:=gv.o.f5;have dK:=gv.o.f6;clear GF H7
       gi_wp2_with fail
       refine⟨trivial,?_⟩;refine(CallsIn.inRound l (callsIn_wide.2 (Ef w2))).mono ?_;rintro e w3 ⟨rfl,hb3⟩;have gL:=hd_ (gv.o.below hb3);have fg:=bt_ GC hb3;have Ev:=bt_ FF hb3;have Gk:=gL.o.c3;have gW:=gL.o.c4;have gV:=gL.o.c5;have dM:=gL.o.c6;have gU:=gL.o.f4;have gT:=gL.o.f5;have dK:=gL.o.f6;clear Ef hb3
       gi_wp2_with fail
       have q0:=@Zk.h;have q9:Nonempty (Zk ⟨w.heap.size+1+1,0,none⟩ (.int .i64 lo)):=⟨⟨w3,by rw[gL.o.c4,cF.o]⟩⟩;have q8:Nonempty (Zk ⟨w.heap.size+1+1+1,0,none⟩ (.int .i64 hi)):=⟨⟨w3,by rw[gL.o.c5,BD.o]⟩⟩;refine Qr [(20,0),(1,1),(1,2),(1,3),(1,4),(1,5),(1,6),(1,7),(1,8),(21,9),(1,10),(1,11),(1,12),(1,13),(1,14),(1,15),(1,16),(1,17),(0,18),(0,19)]
        [(18,fun w'=>∃ p:Zk ⟨w.heap.size+1+1,0,none⟩ (.int .i64 lo),w'=p.w),(19,fun w'=>∃ p:Zk ⟨w.heap.size+1+1+1,0,none⟩ (.int .i64 hi),w'=p.w)]
        (by kernel_rfl) (by kernel_rfl) ⟨.inr ⟨⟨{ w3 with drawn:=w3.drawn+1 },gL.o.c4.trans (by rw[cF.o])⟩,rfl⟩,.inr ⟨⟨{ w3 with drawn:=w3.drawn+1 },gL.o.c5.trans (by rw[BD.o])⟩,rfl⟩,trivial⟩ ?_
       refine Qz (s:=18) _ (List.mem_cons_self ..) rfl ?_;simp only[dz_,Zag,tz_]
       go_big_quiet_step (fail)
       refine wq_ ?_;iterate 8 (refine Vn ?_;simp only[Za7,dz_,Zag,tz_];go_big_quiet_step (fail);refine wq_ ?_)
       refine Qz (s:=19) _ (List.mem_cons_of_mem _ (List.mem_cons_self ..)) rfl ?_;simp only[Za7,dz_,Zag,tz_]
       go_big_quiet_step (fail)
       refine wq_ ?_;iterate 8 (refine Vn ?_;simp only[Za7,dz_,Zag,tz_];go_big_quiet_step (fail);refine wq_ ?_)
       clear q0 q8 q9;obtain⟨w4,es⟩:∃ w4:World,{ heap:=w3.heap,tape:=w3.tape,drawn:=w3.drawn+1,os:=w3.os,output:=w3.output }=w4:=⟨_,rfl⟩;rw[es];have Gi:Hid (Zd3 w.heap.size most (pre.map Subtype.val) w4):=by rw[<- es];exact gL.o.below ⟨rfl,rfl,rfl,Nat.le_refl _,fun _ _=>rfl⟩
       have ff:Hid (Bw_ w w4):=by rw[<- es];exact fg.o.trans ⟨rfl,rfl,rfl,Nat.le_refl _,fun _ _=>rfl⟩
       have Eu:Hid (Bw_ W w4):=by rw[<- es];exact Ev.o.trans ⟨rfl,rfl,rfl,Nat.le_refl _,fun _ _=>rfl⟩
       clear es Gk gW gV dM gU gT dK;have gW:=Gi.o.c4;have gV:=Gi.o.c5;have gU:=Gi.o.f4;have gT:=Gi.o.f5;refine Qa ?_;simp only[Za7,dz_,Zag,tz_];go_wp2_with fail;obtain⟨v5,hv5⟩:∃ v5:Int,lo+min (k*A) (k*(A+1))=v5:=⟨_,rfl⟩;obtain⟨v6,hv6⟩:∃ v6:Int,hi+max (k*A) (k*(A+1))=v6:=⟨_,rfl⟩;rw[hv5];rw[hv6];have FB:(w4.setCell ⟨w.heap.size+1+1,0,none⟩ (.int .i64 v5)).cell? ⟨w.heap.size+1+1+1,0,none⟩=some (.int .i64 hi):=by
        rw[World.cell?_setCell_other _ _ _ _ (by simp),Gi.o.c5,BD.o]
       have DK:(w4.setCell ⟨w.heap.size+1+1,0,none⟩ (.int .i64 v5)).frozen? ⟨w.heap.size+1+1+1,0,none⟩=false:=by rw[World.frozen?_setCell];exact Gi.o.f5
       refine⟨⟨.inl rfl,.inr ⟨⟨w4.setCell ⟨w.heap.size+1+1,0,none⟩ (.int .i64 v5),FB⟩,rfl⟩,trivial⟩,?_⟩;clear gW gV gU gT;refine Qa ?_;simp only[Za7,dz_,Zag,tz_];go_wp2_with fail;refine⟨⟨.inl rfl,.inl rfl,trivial⟩,?_⟩;simp only[Vu];exact⟨(Qk Eu.o).trans ((KeepsOthers.setCell _ _ _).trans (KeepsOthers.setCell _ _ _)),Zvs rfl HB.o HI.o.sz Eu.o _ _,Gi.o.stored (Eo.o.trans hv5) (En.o.trans hv6) fG.o,Zaw ff.o _ _⟩
     ·have E4:Hid (∃ x∈tl,¬ okT most x):=⟨(p,k),CI.o,fun h=>hd h.2⟩;have Am:Zhn p.toNat = .tuple #[.int .i64 0,.bool false]:=by
       unfold Zhn;cases hq:Vr p.toNat 62 26 with
       | none=>rfl
       | some s=>rw[hq] at hd;exact absurd rfl hd
      rw[Am] at Ef;have bR:¬ most<k:=by omega
      have DH:¬ k < -most:=by omega
      clear hd Am bT
      gi_wp2_with fail
      refine⟨trivial,?_⟩;refine(CallsIn.inRound l (callsIn_wide.2 GF)).mono ?_;rintro e w2 ⟨rfl,H7⟩;have gv:=hd_ (HI.o.below H7);have GC:=bt_ HB H7;have FF:=hd_ (H7);have Gk:=gv.o.c3;have gW:=gv.o.c4;have gV:=gv.o.c5;have dM:=gv.o.c6;have gU:=gv.o.f4;have gT:=gv.o.f5;have dK:=gv.o.f6;clear GF H7
      gi_wp2_with fail
      refine⟨trivial,?_⟩;refine(CallsIn.inRound l (callsIn_wide.2 (Ef w2))).mono ?_;rintro e w3 ⟨rfl,hb3⟩;have gL:=hd_ (gv.o.below hb3);have fg:=bt_ GC hb3;have Ev:=bt_ FF hb3;have Gk:=gL.o.c3;have gW:=gL.o.c4;have gV:=gL.o.c5;have dM:=gL.o.c6;have gU:=gL.o.f4;have gT:=gL.o.f5;have dK:=gL.o.f6;clear Ef hb3
      gi_wp2
      exact⟨(Qk Ev.o).trans (((KeepsOthers.setCell _ _ _).trans (KeepsOthers.setCell _ _ _)).trans (KeepsOthers.setCell _ _ _)),⟨rfl,E4.o,gL.o.quits⟩,
       ((fg.o.setCell (p:=⟨w.heap.size+1+1,0,none⟩) (by simp;omega) _).setCell (p:=⟨w.heap.size+1+1+1,0,none⟩) (by simp;omega) _).setCell (p:=⟨w.heap.size+1+1+1+1,0,none⟩) (by simp;omega) _⟩
    ·have E4:Hid (∃ x∈tl,¬ okT most x):=⟨(p,k),CI.o,fun h=>fX h.1.1⟩;have bR:¬ most<k:=by omega
     have DH:k < -most:=by omega
     clear bT
     gi_wp2_with fail
     refine⟨trivial,?_⟩;refine(CallsIn.inRound l (callsIn_wide.2 GF)).mono ?_;rintro e w2 ⟨rfl,H7⟩;have gv:=hd_ (HI.o.below H7);have GC:=bt_ HB H7;have FF:=hd_ (H7);have Gk:=gv.o.c3;have gW:=gv.o.c4;have gV:=gv.o.c5;have dM:=gv.o.c6;have gU:=gv.o.f4;have gT:=gv.o.f5;have dK:=gv.o.f6;clear GF H7
     gi_wp2
     exact⟨(Qk FF.o).trans (((KeepsOthers.setCell _ _ _).trans (KeepsOthers.setCell _ _ _)).trans (KeepsOthers.setCell _ _ _)),⟨rfl,E4.o,gv.o.quits⟩,
      ((GC.o.setCell (p:=⟨w.heap.size+1+1,0,none⟩) (by simp;omega) _).setCell (p:=⟨w.heap.size+1+1+1,0,none⟩) (by simp;omega) _).setCell (p:=⟨w.heap.size+1+1+1+1,0,none⟩) (by simp;omega) _⟩
   ·have E4:Hid (∃ x∈tl,¬ okT most x):=⟨(p,k),CI.o,fun h=>EN h.1.2⟩;have bR:most<k:=by omega
    clear bT
    gi_wp2_with fail
    refine⟨trivial,?_⟩;refine(CallsIn.inRound l (callsIn_wide.2 GF)).mono ?_;rintro e w2 ⟨rfl,H7⟩;have gv:=hd_ (HI.o.below H7);have GC:=bt_ HB H7;have FF:=hd_ (H7);have Gk:=gv.o.c3;have gW:=gv.o.c4;have gV:=gv.o.c5;have dM:=gv.o.c6;have gU:=gv.o.f4;have gT:=gv.o.f5;have dK:=gv.o.f6;clear GF H7
    gi_wp2
    exact⟨(Qk FF.o).trans (((KeepsOthers.setCell _ _ _).trans (KeepsOthers.setCell _ _ _)).trans (KeepsOthers.setCell _ _ _)),⟨rfl,E4.o,gv.o.quits⟩,
     ((GC.o.setCell (p:=⟨w.heap.size+1+1,0,none⟩) (by simp;omega) _).setCell (p:=⟨w.heap.size+1+1+1,0,none⟩) (by simp;omega) _).setCell (p:=⟨w.heap.size+1+1+1+1,0,none⟩) (by simp;omega) _⟩
  ·rw[if_neg hk64] at GF;have E4:Hid (∃ x∈tl,¬ okT most x):=⟨(p,k),CI.o,fun h=>hk64 ⟨by have:=h.1.1;simp only at this;omega,by have:=h.1.2;simp only at this;omega⟩⟩;clear bT
   gi_wp2_with fail
   refine⟨trivial,?_⟩;refine(CallsIn.inRound l (callsIn_wide.2 GF)).mono ?_;rintro e w2 ⟨rfl,H7⟩;have gv:=hd_ (HI.o.below H7);have GC:=bt_ HB H7;have FF:=hd_ (H7);have Gk:=gv.o.c3;have gW:=gv.o.c4;have gV:=gv.o.c5;have dM:=gv.o.c6;have gU:=gv.o.f4;have gT:=gv.o.f5;have dK:=gv.o.f6;clear GF H7
   gi_wp2
   exact⟨(Qk FF.o).trans (((KeepsOthers.setCell _ _ _).trans (KeepsOthers.setCell _ _ _)).trans (KeepsOthers.setCell _ _ _)),⟨rfl,E4.o,gv.o.quits⟩,
    ((GC.o.setCell (p:=⟨w.heap.size+1+1,0,none⟩) (by simp;omega) _).setCell (p:=⟨w.heap.size+1+1+1,0,none⟩) (by simp;omega) _).setCell (p:=⟨w.heap.size+1+1+1+1,0,none⟩) (by simp;omega) _⟩
 case done =>
  rintro D' ys W hD rfl ⟨hI,hB⟩ hK;rw[List.attach_map_subtype_val] at hI;have hv:Zoz most tl = .tuple #[.int .i64 (Zcm tl),.int .i64 (Vx tl),.bool true]:=by unfold Zoz;rw[if_pos hI.ok]
  have Hv:=hd_ hv;have HI:=hd_ hI;have HB:=hd_ hB;have HK:=hd_ hK;have gW:=HI.o.c4;have gV:=HI.o.c5;have dM:=HI.o.c6;have gU:=HI.o.f4;have gT:=HI.o.f5;have dK:=HI.o.f6;clear hv hI hB hK dE eN DS GN Be Ff mr;generalize Zcm tl=lo at *;generalize Vx tl=hi at *
  gi_wp2_with fail
  gi_region
  gi_wp2
  clear gW gV dM gU gT dK;have e4:(((W.setCell { block:=w.heap.size+1+1,off:=0 } (Value.int IntKind.i64 lo)).setCell { block:=w.heap.size+1+1+1,off:=0 } (Value.int IntKind.i64 hi)).setCell { block:=w.heap.size+1+1+1+1,off:=0 } (Value.bool true)).drew.cell? ⟨w.heap.size+1+1,0,none⟩=some (.int .i64 lo):=by
   show World.cell? (((W.setCell { block:=w.heap.size+1+1,off:=0 } (Value.int IntKind.i64 lo)).setCell { block:=w.heap.size+1+1+1,off:=0 } (Value.int IntKind.i64 hi)).setCell { block:=w.heap.size+1+1+1+1,off:=0 } (Value.bool true)) _=_
   rw[World.cell?_setCell_other _ _ _ _ (by simp),World.cell?_setCell_other _ _ _ _ (by simp),World.cell?_setCell_same _ _ _ HI.o.c4]
  have e5:(((W.setCell { block:=w.heap.size+1+1,off:=0 } (Value.int IntKind.i64 lo)).setCell { block:=w.heap.size+1+1+1,off:=0 } (Value.int IntKind.i64 hi)).setCell { block:=w.heap.size+1+1+1+1,off:=0 } (Value.bool true)).drew.cell? ⟨w.heap.size+1+1+1,0,none⟩=some (.int .i64 hi):=by
   show World.cell? (((W.setCell { block:=w.heap.size+1+1,off:=0 } (Value.int IntKind.i64 lo)).setCell { block:=w.heap.size+1+1+1,off:=0 } (Value.int IntKind.i64 hi)).setCell { block:=w.heap.size+1+1+1+1,off:=0 } (Value.bool true)) _=_
   rw[World.cell?_setCell_other _ _ _ _ (by simp),World.cell?_setCell_same _ _ _ (by rw[World.cell?_setCell_other _ _ _ _ (by simp)];exact HI.o.c5)]
  have e6:(((W.setCell { block:=w.heap.size+1+1,off:=0 } (Value.int IntKind.i64 lo)).setCell { block:=w.heap.size+1+1+1,off:=0 } (Value.int IntKind.i64 hi)).setCell { block:=w.heap.size+1+1+1+1,off:=0 } (Value.bool true)).drew.cell? ⟨w.heap.size+1+1+1+1,0,none⟩=some (.bool true):=by
   show World.cell? (((W.setCell { block:=w.heap.size+1+1,off:=0 } (Value.int IntKind.i64 lo)).setCell { block:=w.heap.size+1+1+1,off:=0 } (Value.int IntKind.i64 hi)).setCell { block:=w.heap.size+1+1+1+1,off:=0 } (Value.bool true)) _=_
   rw[World.cell?_setCell_same _ _ _ (by rw[World.cell?_setCell_other _ _ _ _ (by simp),World.cell?_setCell_other _ _ _ _ (by simp)];exact HI.o.c6)]
  have CY:=(((KeepsOthers.setCell W ⟨w.heap.size+1+1,0,none⟩ (.int .i64 lo)).trans (KeepsOthers.setCell _ ⟨w.heap.size+1+1+1,0,none⟩ (.int .i64 hi))).trans (KeepsOthers.setCell _ ⟨w.heap.size+1+1+1+1,0,none⟩ (.bool true))).trans (KeepsOthers.drew _);have dO:=CY.same D' _ HK.o rfl;have De:=(((HB.o.setCell (p:=⟨w.heap.size+1+1,0,none⟩) (by show _<=w.heap.size+1+1;omega) (.int .i64 lo)).setCell (p:=⟨w.heap.size+1+1+1,0,none⟩) (by show _<=w.heap.size+1+1+1;omega) (.int .i64 hi)).setCell (p:=⟨w.heap.size+1+1+1+1,0,none⟩) (by show _<=w.heap.size+1+1+1+1;omega) (.bool true)).drew;generalize (((W.setCell { block:=w.heap.size+1+1,off:=0 } (Value.int IntKind.i64 lo)).setCell { block:=w.heap.size+1+1+1,off:=0 } (Value.int IntKind.i64 hi)).setCell { block:=w.heap.size+1+1+1+1,off:=0 } (Value.bool true)).drew=w9 at *;have g4:=cell_kept e4 (grownBy_putObj' _ D' (.deferred none)) (fun r e=>by cases e;exact⟨_,dO,rfl⟩);have g5:=cell_kept e5 (grownBy_putObj' _ D' (.deferred none)) (fun r e=>by cases e;exact⟨_,dO,rfl⟩);have g6:=cell_kept e6 (grownBy_putObj' _ D' (.deferred none)) (fun r e=>by cases e;exact⟨_,dO,rfl⟩);refine⟨by simp,.inl ⟨_,_,rfl,run_takeDeferred dO,?_⟩⟩;refine⟨.tuple #[.int .i64 lo,.int .i64 hi,.bool true],?_,by rw[Hv.o],De.trans (belowK_b (w:=w) nr_ w9 D' _ _ (by rw[Gx] at hD;omega) dO rfl rfl)⟩;simp[results,Tryz.results230,go_sem,g4,g5,g6]
 case stop =>
  rintro D' c pre W hD hSp ⟨⟨rfl,hbad,hX⟩,hB⟩ hK;have hv:Zoz most tl = .tuple #[.int .i64 0,.int .i64 0,.bool false]:=by
   unfold Zoz;rw[if_neg];intro h;obtain⟨x,hx,hn⟩:=hbad;exact hn (h x hx)
  have g4:=cell_kept hX.c4 (grownBy_putObj' _ D' (.deferred none)) (fun r e=>by cases e;exact⟨_,hK,rfl⟩);have g5:=cell_kept hX.c5 (grownBy_putObj' _ D' (.deferred none)) (fun r e=>by cases e;exact⟨_,hK,rfl⟩);have g6:=cell_kept hX.c6 (grownBy_putObj' _ D' (.deferred none)) (fun r e=>by cases e;exact⟨_,hK,rfl⟩)
  gi_wp2
  refine⟨by simp,.inl ⟨_,_,rfl,run_takeDeferred hK,?_⟩⟩;refine⟨.tuple #[.int .i64 0,.int .i64 0,.bool false],?_,by rw[hv],hB.trans (belowK_b (w:=w) nr_ W D' _ _ (by rw[Gx] at hD;omega) hK rfl rfl)⟩;simp[results,Tryz.results230,go_sem,g4,g5,g6]
end Go.Proofs.YtbielfplgbammaaGreatDoor

namespace Go.Proofs.YtbielfplgbammaaGreatDoor
open Go.RowKit
structure Ym (w:World) (tl:List (Int×Int)) (b1:OA_) (b2:OA_):Prop where
 r1:Rd w b1 (Qw (tl.map Prod.fst))
 r2:Rd w b2 (Zd9 (tl.map fun x=>itx x.2))
 len:tl.length<=1000
 p:∀ x∈tl,2<=x.1/\x.1<=97
 z:∀ x∈tl,Zbo x.2
theorem Ym.below{w w':World}{tl:List (Int×Int)}{b1 b2:OA_}(h:Ym w tl b1 b2)(hb:Bw_ w w'):Ym w' tl b1 b2 :=
 ⟨h.r1.below hb nr_,h.r2.below hb nr_,h.len,h.p,h.z⟩
theorem Qd(w:World)(a b:Int)(ha : -4000000000000000000<=a/\a<=4000000000000000000)(hb:0<b)(H7:b<=4000000000000000000):
  Kc Tryz.prog 287 #[.int .i64 a,.int .i64 b] w (.int .i64 (a/b)):=by
 unfold Kc;have l5:(b==0)=false:=by rw[beq_eq_false_iff_ne];omega
 by_cases h:a<0
 ·have fH:IntKind.i64.wrap (-a) = -a:=iw_ _ (by omega);have fM:IntKind.i64.wrap (-a+b) = -a+b:=iw_ _ (by omega);have dX:IntKind.i64.wrap (-a+b-1) = -a+b-1:=iw_ _ (by omega);have e1:Int.tdiv (-a+b-1) b=(-a+b-1)/b:=Int.tdiv_eq_ediv_of_nonneg (by omega);have q1:0<=(-a+b-1)/b:=Int.ediv_nonneg (by omega) (by omega);have q2:(-a+b-1)/b <= -a+b-1:=Int.ediv_le_self _ (by omega);have es:IntKind.i64.wrap ((-a+b-1)/b)=(-a+b-1)/b:=iw_ _ (by omega);have Mr:IntKind.i64.wrap (-((-a+b-1)/b)) = -((-a+b-1)/b):=iw_ _ (by omega);have Hv:Hid (a/b = -((-a+b-1)/b)):=by
   show _=_
   have h1:=Int.emod_add_mul_ediv (-a+b-1) b;have h2:=Int.emod_nonneg (-a+b-1) (show b≠0 by omega);have h3:=Int.emod_lt_of_pos (-a+b-1) hb;generalize (-a+b-1)/b=q at *;generalize (-a+b-1)%b=r at *;have e2:a=(b-1-r)+b*(-q):=by rw[Int.mul_neg];omega
   rw[e2,Int.add_mul_ediv_left _ _ (show b≠0 by omega),Int.ediv_eq_zero_of_lt (by omega) (by omega)];omega
  generalize (-a+b-1)/b=q at *;go_enter Tryz.func287,Tryz.ntmps287;go_wp2;go_ret;exact⟨by rw[Hv.o];rfl,Below.refl _ _⟩
 ·have e1:Int.tdiv a b=a/b:=Int.tdiv_eq_ediv_of_nonneg (by omega);have q1:0<=a/b:=Int.ediv_nonneg (by omega) (by omega);have q2:a/b<=a:=Int.ediv_le_self _ (by omega);have es:IntKind.i64.wrap (a/b)=a/b:=iw_ _ (by omega);generalize a/b=q at *;go_enter Tryz.func287,Tryz.ntmps287;go_wp2;go_ret;exact⟨rfl,Below.refl _ _⟩
theorem Ztf(w:World)(n:Int)(d g:Nat)(hn:Zbo n)(hd:Num d)(G':0<d)(Fb:Num (n.natAbs+1))(G9:Num (d+1))(hg:Nat.gcd n.natAbs d=g)(L:Qg w):
  Kc Tryz.prog 258 #[.string (itx (-n)),.string (itx (-(d:Int)))] w (fv (n/(g:Int)) (d/g)):=by
 unfold Kc fv;have fK:0<g:=by rw[<- hg];exact Nat.gcd_pos_of_pos_right _ G'
 have fB:g<=d:=by rw[<- hg];exact Nat.gcd_le_right _ G'
 have d9:Num g:=hd.le fB;have gC:=hd_ ((Below.refl w.heap.size w).alloc nr_ (.cells #[.string ⟨#[]⟩,.string ⟨#[]⟩] 101));have gi:Hid ((w.alloc (.cells #[.string ⟨#[]⟩,.string ⟨#[]⟩] 101)).heap[w.heap.size]?=some (.cells #[.string ⟨#[]⟩,.string ⟨#[]⟩] 101 (0,0))):=heap_alloc_new w _;have HL:=hd_ (L.below gC.o);have gI:Hid (∀ W,Kc Tryz.prog 59 #[.string (itx (-(d:Int)))] W (.int .i64 (-1))):=fun W=>by
  have:=Ys W (-(d:Int))
  rw[Int.sign_eq_neg_one_of_neg (show -(d:Int)<0 by omega)] at this;exact this
 have aC:Hid (∀ W,Kc Tryz.prog 241 #[.string (itx (-n))] W (.string (itx n))):=fun W=>by
  have:=Zoy W (-n) (show Num _ by rw[Int.natAbs_neg];exact hn)
  rw[Int.neg_neg] at this;exact this
 have aB:Hid (∀ W,Kc Tryz.prog 241 #[.string (itx (-(d:Int)))] W (.string (dec d))):=fun W=>by
  have:=Zoy W (-(d:Int)) (show Num _ by rw[Int.natAbs_neg];exact hd)
  rw[Int.neg_neg,Kg] at this;exact this
 clear L;go_enter Tryz.func258,Tryz.ntmps258;go_wp2_with fail;generalize w.alloc (.cells #[.string ⟨#[]⟩,.string ⟨#[]⟩] 101)=W0 at *;have fF:Hid (∀ W,Bw_ W0 W->Kc Tryz.prog 219 #[.string (itx n),.string (dec d)] W (.string (dec g))):=fun W hW=>by
  have:=Zk8 W n (d:Int) hn (show Num _ from hd) (HL.o.below hW)
  rw[Kg,show Int.gcd n (d:Int)=g from hg] at this;exact this
 have FH:Hid (∀ W,Bw_ W0 W->Kc Tryz.prog 163 #[.string (itx n),.string (dec g)] W (.tuple #[.string (itx (n/(g:Int))),.string (itx (n%(g:Int))),.int .i64 0])):=fun W hW=>Yj W n g hn d9 fK Fb (HL.o.below hW)
 have ek:Hid (∀ W,Bw_ W0 W->Kc Tryz.prog 163 #[.string (dec d),.string (dec g)] W (.tuple #[.string (dec (d/g)),.string (itx ((d:Int)%(g:Int))),.int .i64 0])):=fun W hW=>by
  have:=Yj W (d:Int) g (show Num _ from hd) d9 fK (show Num (d+1) from G9) (HL.o.below hW)
  rw[Kg,show (d:Int)/(g:Int)=((d/g:Nat):Int) from rfl,Kg] at this;exact this
 have ho:=Zjp g
 by_cases h1:g=1
 ·have Dj:Hid (itx (n/(g:Int))=itx n):=by show _=_;rw[h1];congr 1;exact Int.ediv_one n
  have Di:Hid (dec (d/g)=dec d):=by show _=_;rw[h1,Nat.div_one]
  rw[decide_eq_true h1] at ho;clear h1 FH ek hg fK fB d9 hn hd Fb G9;obtain⟨s,hs⟩:∃ s,itx n=s:=⟨_,rfl⟩;obtain⟨t,ht⟩:∃ t,dec d=t:=⟨_,rfl⟩;rw[hs] at Dj fF aC;rw[ht] at Di fF aB;clear hs ht;generalize itx (-n)=ns at *;generalize itx (-(d:Int))=nd at *;generalize dec g=u at *;refine cm_ (gI.o _) ?_;rintro e w1 ⟨rfl,HU⟩;have H6:=hd_ HU;clear HU gI;go_wp2_with fail;refine cm_ (aC.o _) ?_;rintro e w5 ⟨rfl,hb5⟩;have gD:=bt_ H6 hb5;clear hb5 H6 aC;go_wp2_with fail;refine cm_ (aB.o _) ?_;rintro e w6 ⟨rfl,hb6⟩;have Gc:=bt_ gD hb6;clear hb6 gD aB;go_wp2_with fail;refine cm_ (fF.o w6 Gc.o) ?_;rintro e w2 ⟨rfl,H7⟩;have H9:=bt_ Gc H7;clear H7 Gc fF;have gw:=hd_ (Kh gi.o H9.o);have gY:=bt_ gC H9.o;obtain⟨k0,k1,f0,f1⟩:=Ka gw.o;clear H9 gC gw gi HL;go_wp2;obtain⟨c0,c1,hb3⟩:=Kq (.string s) (.string t) k0 k1 nr_ gY.o;generalize (w2.setCell ⟨w.heap.size,0,none⟩ (.string s)).setCell ⟨w.heap.size,1,none⟩ (.string t)=w9 at *;exact bodyPost_ret (v := .agg #[.string s,.string t]) (by simp[results,Tryz.results258,go_sem,c0,c1]) rfl ⟨by rw[Dj.o,Di.o],hb3⟩
 ·rw[decide_eq_false h1] at ho;obtain⟨rs,hrs⟩:∃ rs,itx (n/(g:Int))=rs:=⟨_,rfl⟩;obtain⟨rt,hrt⟩:∃ rt,dec (d/g)=rt:=⟨_,rfl⟩;rw[hrs] at FH;rw[hrt] at ek;have Dj:=hd_ hrs;have Di:=hd_ hrt;clear h1 hg fK fB d9 hn hd Fb G9 hrs hrt;generalize itx (n%(g:Int))=e1 at FH;generalize itx ((d:Int)%(g:Int))=e2 at ek;obtain⟨s,hs⟩:∃ s,itx n=s:=⟨_,rfl⟩;obtain⟨t,ht⟩:∃ t,dec d=t:=⟨_,rfl⟩;obtain⟨u,hu⟩:∃ u,dec g=u:=⟨_,rfl⟩;rw[hs] at FH fF aC;rw[ht] at ek fF aB;rw[hu] at FH ek fF ho;clear hs ht hu;generalize itx (-n)=ns at *;generalize itx (-(d:Int))=nd at *;refine cm_ (gI.o _) ?_;rintro e w1 ⟨rfl,HU⟩;have H6:=hd_ HU;clear HU gI;go_wp2_with fail;refine cm_ (aC.o _) ?_;rintro e w5 ⟨rfl,hb5⟩;have gD:=bt_ H6 hb5;clear hb5 H6 aC;go_wp2_with fail;refine cm_ (aB.o _) ?_;rintro e w6 ⟨rfl,hb6⟩;have Gc:=bt_ gD hb6;clear hb6 gD aB;go_wp2_with fail;refine cm_ (fF.o w6 Gc.o) ?_;rintro e w2 ⟨rfl,H7⟩;have H9:=bt_ Gc H7;clear H7 Gc fF;go_wp2_with fail;refine cm_ (FH.o w2 H9.o) ?_;rintro e w3 ⟨rfl,hb3⟩;have gk:=bt_ H9 hb3;clear hb3 H9 FH;go_wp2_with fail;refine cm_ (ek.o w3 gk.o) ?_;rintro e w4 ⟨rfl,gz⟩;have gq:=bt_ gk gz;clear gz gk ek;have gw:=hd_ (Kh gi.o gq.o);have gY:=bt_ gC gq.o;obtain⟨k0,k1,f0,f1⟩:=Ka gw.o;clear gq gC gw gi HL;go_wp2;obtain⟨c0,c1,hb3⟩:=Kq (.string rs) (.string rt) k0 k1 nr_ gY.o;generalize (w4.setCell ⟨w.heap.size,0,none⟩ (.string rs)).setCell ⟨w.heap.size,1,none⟩ (.string rt)=w9 at *;exact bodyPost_ret (v := .agg #[.string rs,.string rt]) (by simp[results,Tryz.results258,go_sem,c0,c1]) rfl ⟨by rw[Dj.o,Di.o],hb3⟩
theorem Ztg(w:World)(n m:Int)(hn:Zbo n)(hm:Zbo m)(di:m≠0)(Fb:Num (n.natAbs+1))(Fc:Num (m.natAbs+1))(L:Qg w):
  Kc Tryz.prog 258 #[.string (itx n),.string (itx m)] w (fr ((n:Rat)/(m:Rat))):=by
 have Ge:∀ (k:Int) (d:Nat),d≠0->fv (k/((Nat.gcd k.natAbs d:Nat):Int)) (d/Nat.gcd k.natAbs d)=fr (mkRat k d):=fun k d hd=>by
  have:=Zdk k d hd
  unfold Zlz at this;exact this
 by_cases h:0<m
 ·obtain⟨d,rfl⟩:∃ d:Nat,m=(d:Int):=⟨m.toNat,by omega⟩;have:=Zcl w n d _ hn hm (by omega) Fb Fc rfl L
  rw[Ge n d (by omega),Rat.mkRat_eq_div] at this;rw[Kg];exact this
 ·obtain⟨d,rfl⟩:∃ d:Nat,m = -(d:Int):=⟨m.natAbs,by omega⟩;have a7:Num d:=by have:Num (-(d:Int)).natAbs:=hm;rwa [Int.natAbs_neg] at this
  have ju:Num (d+1):=by rwa [Int.natAbs_neg] at Fc
  have:=Ztf w (-n) d _ (show Num _ by rw[Int.natAbs_neg];exact hn) a7 (by omega) (by rw[Int.natAbs_neg];exact Fb) ju rfl L
  rw[Int.neg_neg,Ge (-n) d (by omega),Rat.mkRat_eq_div] at this;have e:((-n:Int):Rat)/((d:Nat):Rat)=(n:Rat)/((-(d:Int):Int):Rat):=by
   rw[Rat.div_def,Rat.div_def,Rat.intCast_neg,Rat.intCast_neg,Rat.intCast_natCast];have hi:(-((d:Nat):Rat))⁻¹ = -(((d:Nat):Rat)⁻¹):=by
    apply Rat.inv_eq_of_mul_eq_one;have:((d:Nat):Rat)≠0:=by intro h0;exact absurd (Rat.natCast_eq_zero_iff.1 h0) (by omega)
    rw[Rat.neg_mul,Rat.mul_neg,Rat.neg_neg,Rat.mul_inv_cancel _ this]
   rw[hi,Rat.neg_mul,Rat.mul_neg]
  rw[e] at this;exact this
theorem Qex(a b:Rat):a/b=((a.num*b.den:Int):Rat)/(((a.den:Int)*b.num:Int):Rat):=by
 have h1:a=(a.num:Rat)/((a.den:Nat):Rat):=by rw[<- Rat.mkRat_eq_div,Rat.mkRat_self]
 have h2:b=(b.num:Rat)/((b.den:Nat):Rat):=by rw[<- Rat.mkRat_eq_div,Rat.mkRat_self]
 have ha:((a.den:Nat):Rat)≠0:=by intro h;exact a.den_nz (Rat.natCast_eq_zero_iff.1 h)
 have hb:((b.den:Nat):Rat)≠0:=by intro h;exact b.den_nz (Rat.natCast_eq_zero_iff.1 h)
 rw[Rat.intCast_mul,Rat.intCast_mul,Rat.intCast_natCast,Rat.intCast_natCast];generalize a.num=x at *;generalize b.num=y at *;generalize ((a.den:Nat):Rat)=u at *;generalize ((b.den:Nat):Rat)=v at *;subst h1 h2
 by_cases hy:(y:Rat)=0
 ·rw[hy];simp[Rat.div_def]
 ·grind
theorem Qg4(w:World)(a b:Rat)(D E:Nat)(ha:Sm D a)(hb:Sm E b)(Gu:b≠0)(h6:D+E+2<=1000000)(L:Qg w):
  Kc Tryz.prog 286 #[fr a,fr b] w (.tuple #[fr (a/b),.int .i64 0]):=by
 have di:b.num≠0:=fun h=>Gu (Rat.num_eq_zero.1 h)
 have p1:=ha.pos;have p2:=hb.pos;have e1:(a.num*b.den).natAbs<10^(D+E):=by rw[Int.natAbs_mul];exact Qi ha.1 hb.2
 have e2:((a.den:Int)*b.num).natAbs<10^(D+E):=by rw[Int.natAbs_mul];exact Qi ha.2 hb.1
 have h3:10^(D+E)<10^(D+E+1):=Nat.pow_lt_pow_right (by decide) (by omega);have z1:Zbo (a.num*b.den):=Ku e1 (by omega) (by omega);have z2:Zbo ((a.den:Int)*b.num):=Ku e2 (by omega) (by omega);have z3:Num ((a.num*b.den).natAbs+1):=Ku (D:=D+E+1) (by omega) (by omega) (by omega);have z4:Num (((a.den:Int)*b.num).natAbs+1):=Ku (D:=D+E+1) (by omega) (by omega) (by omega);have Fc:(a.den:Int)*b.num≠0:=Int.mul_ne_zero (by have:=a.den_nz;omega) di;have zn:Zbo a.num:=Ku ha.1 p1 (by omega);have zm:Zbo b.num:=Ku hb.1 p2 (by omega);have zd:Num a.den:=Ku ha.2 p1 (by omega);have ze:Num b.den:=Ku hb.2 p2 (by omega);obtain⟨rs,hrs⟩:∃ rs,itx (a/b).num=rs:=⟨_,rfl⟩;obtain⟨rt,hrt⟩:∃ rt,dec (a/b).den=rt:=⟨_,rfl⟩;have Hv:Hid (fr (a/b) = .agg #[.string rs,.string rt]):=by show _=_;unfold fr fv;rw[hrs,hrt]
 have fu:∀ W,Qg W->Kc Tryz.prog 258 #[.string (itx (a.num*b.den)),.string (itx ((a.den:Int)*b.num))] W (.agg #[.string rs,.string rt]):=fun W LW=>by
  have:=Ztg W _ _ z1 z2 Fc z3 z4 LW
  rw[<- Qex] at this;unfold fr fv at this;rw[hrs,hrt] at this;exact this
 unfold Kc
 show Calls _ _ #[fv a.num a.den,fv b.num b.den] _ _
 have gI:Hid (∀ W,Kc Tryz.prog 121 #[fv b.num b.den] W (.int .i64 b.num.sign)):=fun W=>Zmg W b.num b.den
 have Du:(b.num.sign==0)=false:=by
  rw[beq_eq_false_iff_ne];intro h;exact di (Int.sign_eq_zero_iff_zero.1 h)
 clear hrs hrt Fc z3 z4 e1 e2 h3 ha hb Gu;generalize a.num=n at *;generalize a.den=d at *;generalize b.num=m at *;generalize b.den=e at *;generalize m.sign=sg at *;have H3:=hd_ (Zil.mk' w (itx n) (dec d) (itx m) (dec e));have HL:=hd_ (L.below H3.o.bel);clear L;have GU:Hid (∀ W,Below (((w.alloc (.cells #[.string (itx n),.string (dec d)] 101)).alloc (.cells #[.string (itx m),.string (dec e)] 101)).alloc (.cells #[.string ⟨#[]⟩,.string ⟨#[]⟩] 101)).heap.size (((w.alloc (.cells #[.string (itx n),.string (dec d)] 101)).alloc (.cells #[.string (itx m),.string (dec e)] 101)).alloc (.cells #[.string ⟨#[]⟩,.string ⟨#[]⟩] 101)) W->∀ d' os,Calls Tryz.prog 14 #[.string (itx n),.string (dec e)] (Go.Sort.grow (redrawn W d') os) fun x w''=>x = .returned (.string (itx (n*e)))/\∃ p:Regrown,w''=Go.Sort.grow (redrawn W p.d) p.os):=fun W hW d' os=>by
  have:=Yv (Go.Sort.grow (redrawn W d') os) n (e:Int) zn (show Num _ from ze) z1 ((HL.o.below hW).below (below_regrown W d' os))
  rw[Kg] at this;exact Calls.regrown_of this
 have GJ:Hid (∀ W,Below (((w.alloc (.cells #[.string (itx n),.string (dec d)] 101)).alloc (.cells #[.string (itx m),.string (dec e)] 101)).alloc (.cells #[.string ⟨#[]⟩,.string ⟨#[]⟩] 101)).heap.size (((w.alloc (.cells #[.string (itx n),.string (dec d)] 101)).alloc (.cells #[.string (itx m),.string (dec e)] 101)).alloc (.cells #[.string ⟨#[]⟩,.string ⟨#[]⟩] 101)) W->∀ d' os,Calls Tryz.prog 14 #[.string (dec d),.string (itx m)] (Go.Sort.grow (redrawn W d') os) fun x w''=>x = .returned (.string (itx ((d:Int)*m)))/\∃ p:Regrown,w''=Go.Sort.grow (redrawn W p.d) p.os):=fun W hW d' os=>by
  have:=Yv (Go.Sort.grow (redrawn W d') os) (d:Int) m (show Num _ from zd) zm z2 ((HL.o.below hW).below (below_regrown W d' os))
  rw[Kg] at this;exact Calls.regrown_of this
 have fT:Hid (∀ W,Below (((w.alloc (.cells #[.string (itx n),.string (dec d)] 101)).alloc (.cells #[.string (itx m),.string (dec e)] 101)).alloc (.cells #[.string ⟨#[]⟩,.string ⟨#[]⟩] 101)).heap.size (((w.alloc (.cells #[.string (itx n),.string (dec d)] 101)).alloc (.cells #[.string (itx m),.string (dec e)] 101)).alloc (.cells #[.string ⟨#[]⟩,.string ⟨#[]⟩] 101)) W->∀ d' os,Calls Tryz.prog 258 #[.string (itx (n*e)),.string (itx ((d:Int)*m))] (Go.Sort.grow (redrawn W d') os) fun x w''=>x = .returned (.agg #[.string rs,.string rt])/\∃ p:Regrown,w''=Go.Sort.grow (redrawn W p.d) p.os):=fun W hW d' os=>by
  exact Calls.regrown_of (fu (Go.Sort.grow (redrawn W d') os) ((HL.o.below hW).below (below_regrown W d' os)))
 unfold fv at gI ⊢;clear fu z1 z2 zn zm zd ze di p1 p2;go_enter Tryz.func286,Tryz.ntmps286;obtain⟨k0,k1,-,-⟩:=Ka H3.o.fa;obtain⟨k2,k3,-,-⟩:=Ka H3.o.fb;go_wp2_with fail;generalize ((w.alloc (.cells #[.string (itx n),.string (dec d)] 101)).alloc (.cells #[.string (itx m),.string (dec e)] 101)).alloc (.cells #[.string ⟨#[]⟩,.string ⟨#[]⟩] 101)=W0 at *;clear k0 k1 k2 k3;refine cm_ (gI.o _) ?_;rintro e w1 ⟨rfl,HU⟩;have H6:=hd_ HU;clear HU gI;obtain⟨k0,k1,-,-⟩:=Ka (H3.o.next H6.o).fa;obtain⟨k2,k3,-,-⟩:=Ka (H3.o.next H6.o).fb;have q0:=cell_regrown k0;have q1:=cell_regrown k1;have q2:=cell_regrown k2;have q3:=cell_regrown k3;have gZ:=GU.o w1 H6.o;have Gb:=GJ.o w1 H6.o;have Gr:=fT.o w1 H6.o;clear k0 k1 k2 k3 GU GJ fT;go_wp2_with fail;refine Kt 11 (by kernel_rfl) (by kernel_rfl) ?_;simp only[List.take_succ_cons,List.take_zero,List.drop_succ_cons,List.drop_zero]
 repeat (first | go_big_quiet_step (first | with_reducible exact gZ _ _ | with_reducible exact Gb _ _ | with_reducible exact Gr _ _) | quiet_step (first | with_reducible exact gZ _ _ | with_reducible exact Gb _ _ | with_reducible exact Gr _ _))
 refine wq_ ?_;intro w8 hw8;obtain⟨⟨dq,osq⟩,rfl⟩:=hw8;have GT:=below_regrown w1 dq osq;have H8:=hd_ ((H3.o.next H6.o).next GT);clear GT gZ Gb Gr q0 q1 q2 q3 H3 H6;generalize Go.Sort.grow (redrawn w1 dq) osq=w8 at *;obtain⟨k0,k1,f0,f1⟩:=Ka H8.o.fr;have gY:=hd_ H8.o.bel;clear H8;go_wp2;obtain⟨c0,c1,hb3⟩:=Kq (B:=w.heap.size) (.string rs) (.string rt) k0 k1 (by omega) gY.o;generalize (w8.setCell ⟨w.heap.size+1+1,0,none⟩ (.string rs)).setCell ⟨w.heap.size+1+1,1,none⟩ (.string rt)=w9 at *;exact bodyPost_ret (v := .tuple #[.agg #[.string rs,.string rt],.int .i64 0]) (by simp[results,Tryz.results286,go_sem,c0,c1]) rfl ⟨by rw[Hv.o],hb3⟩
theorem Qm{D:Nat}{ps:List Int}{l:List Rat}{x:Int×Int}(hx:x∈Kr D ps l):x.1∈ps/\∃ q∈l,q.num≠0/\x.2=q.num*((D/q.den:Nat):Int):=by
 unfold Kr at hx;obtain⟨y,hy,he⟩:=List.mem_filterMap.1 hx;have h1:=(List.of_mem_zip hy).1;have h2:=(List.of_mem_zip hy).2
 by_cases h:y.2.num=0
 ·rw[if_pos h] at he;cases he
 ·rw[if_neg h] at he;simp only[Option.some.injEq] at he;subst he;exact⟨h1,y.2,h2,h,rfl⟩
def tlQ (ps:List Int) (l:List Rat):List (Int×Int):=Kr (Ko l) ps l
theorem Zx7{ps:List Int}{l:List Rat}{D:Nat}(hs:∀ q∈l,Sm D q)(h6:3+(l.length+2)*D<=900000):∀ x∈tlQ ps l,Zbo x.2:=fun x hx=>by
 obtain⟨_,q,hq,_,he⟩:=Qm hx;have h1:=Zj9 l D hs l.length nr_;rw[List.take_length] at h1;have h2:=(hs q hq).1;have h3:Ko l/q.den<=Ko l:=Nat.div_le_self _ _;have h4:=Qi h2 (Nat.lt_of_le_of_lt h3 h1);rw[he];refine Ku (D:=D+(1+l.length*D)) ?_ (by omega) ?_
 ·rw[Int.natAbs_mul];exact h4
 ·rw[Nat.add_mul] at h6;omega
theorem Zbj{w:World}{g:Nat}{cs:Array Value}{t:TypeId}(h:w.heap[g]?=some (.cells cs t (0,0))):Rd w (some ⟨g,0,none⟩) cs.toList:=by
 refine .inr ⟨g,0,rfl,(Array.getElem?_eq_some_iff.1 h).1,fun i v hi=>?_⟩;rw[Nat.zero_add,cell_of_row w g i _ t (0,0) h,<- Array.getElem?_toList];exact hi
theorem Zkq{w:World}{g:Nat}{a1 a2:OA_}{c1 c2:Nat}{l1 l2:Zdq}{t:TypeId}(h:w.heap[g]?=some (.cells #[.slice a1 l1.length c1,.slice a2 l2.length c2] t (0,0)))(h1:Rd w a1 (Qp l1))(h2:Rd w a2 (Qp l2)):RdL w (some ⟨g,0,none⟩) [l1,l2]:=by
 obtain⟨k0,k1,-,-⟩:=(⟨by rw[cell_of_row w g 0 _ t (0,0) h];rfl,by rw[cell_of_row w g 1 _ t (0,0) h];rfl,trivial,trivial⟩:w.cell? ⟨g,0,none⟩=some (.slice a1 l1.length c1)/\w.cell? ⟨g,1,none⟩=some (.slice a2 l2.length c2)/\True/\True);refine .inr ⟨g,0,rfl,(Array.getElem?_eq_some_iff.1 h).1,fun i hi=>?_⟩
 match i,hi with
 | 0,_=>exact⟨a1,c1,k0,h1⟩
 | 1,_=>exact⟨a2,c2,k1,h2⟩
theorem Zkr{w:World}{g:Nat}{a1:OA_}{c1:Nat}{l1:Zdq}{t:TypeId}(h:w.heap[g]?=some (.cells #[.slice a1 l1.length c1] t (0,0)))(h1:Rd w a1 (Qp l1)):RdL w (some ⟨g,0,none⟩) [l1]:=by
 have k0:w.cell? ⟨g,0,none⟩=some (.slice a1 l1.length c1):=by rw[cell_of_row w g 0 _ t (0,0) h];rfl
 refine .inr ⟨g,0,rfl,(Array.getElem?_eq_some_iff.1 h).1,fun i hi=>?_⟩
 match i,hi with
 | 0,_=>exact⟨a1,c1,k0,h1⟩
structure Vj (w:World) (ps:List Int) (a0 a:OA_) (l:List Rat) (D:Nat):Prop where
 rp:Rd w a0 (Qw ps)
 rl:Rd w a (Km l)
 len:l.length=ps.length
 n:ps.length<=100
 pr:∀ p∈ps,2<=p/\p<=97
 sm:∀ q∈l,Sm D q
 d:D<=1000
theorem Vj.below{w w':World}{ps:List Int}{a0 a:OA_}{l:List Rat}{D:Nat}(h:Vj w ps a0 a l D)(hb:Bw_ w w'):Vj w' ps a0 a l D :=
 ⟨h.rp.below hb nr_,h.rl.below hb nr_,h.len,h.n,h.pr,h.sm,h.d⟩
theorem Vj.i64{w:World}{ps:List Int}{a0 a:OA_}{l:List Rat}{D:Nat}(h:Vj w ps a0 a l D):Zgm ps:=fun x hx=>by have:=h.pr x hx;omega
theorem Zj7{w:World}{ps:List Int}{a0 a:OA_}{l:List Rat}{D c0 c:Nat}(S:Vj w ps a0 a l D)(L:Qg w):
  Calls Tryz.prog 79 #[.slice a0 ps.length c0,.slice a l.length c] w fun e w'=>∃ b1 d1 b2 d2,e = .returned (.agg (Kk b1 d1 b2 d2 (tlQ ps l).length (Ko l)))/\Ym w' (tlQ ps l) b1 b2/\Bw_ w w':=by
 have hn:=S.n;have hd:=S.d;have gh:=S.len;have h6:3+(l.length+2)*D<=900000:=by
  have:(l.length+2)*D<=102*1000:=Nat.mul_le_mul (by omega) hd
  omega
 refine cm_ (Zn5 w a0 a c0 c ps l D S.rp S.rl S.len.symm S.sm (by omega) h6 L) ?_;rintro e w' ⟨b1,d1,b2,d2,he,r1,r2,hb⟩;refine⟨b1,d1,b2,d2,he,⟨r1,r2,?_,?_,Zx7 S.sm h6⟩,hb⟩
 ·exact Nat.le_trans (Zfp _ _ _) (by omega)
 ·exact fun x hx=>S.pr x.1 (Qm hx).1
theorem Zm5{w w':World}{B g:Nat}{o:Obj}(h:w.heap[g]?=some o)(hb:Below B w w')(hB:w.heap.size<=B):w'.heap[g]?=some o :=
 (hb.block g (Nat.lt_of_lt_of_le (Array.getElem?_eq_some_iff.1 h).1 hB)).trans h
theorem Sm.one:Sm 1 1:=⟨by decide,by decide⟩
theorem Sm.minus:Sm 1 (-1):=⟨by decide,by decide⟩
theorem Zya(W:World)(g1 g2:Nat)(a1 a2:OA_)(c1 c2 n D:Nat)(la lb:List Rat)(f1 f2:Rat)
  (h1:W.heap[g1]?=some (.cells #[.slice a1 la.length c1,.slice a2 lb.length c2] 35 (0,0)))
  (h2:W.heap[g2]?=some (.cells #[.string (itx f1.num),.string (dec f1.den),.string (itx f2.num),.string (dec f2.den)] 101 (0,0)))
  (ra:Rd W a1 (Km la)) (rb:Rd W a2 (Km lb)) (cZ:la.length=n) (lb1:lb.length=n) (sa:∀ q∈la,Sm D q) (sb:∀ q∈lb,Sm D q) (s1:Sm 1 f1) (s2:Sm 1 f2)
  (hn:n<=100) (hD:D<=400) (L:Qg W) :
  Zdh 141 #[.int .i64 n,.slice (some ⟨g1,0,none⟩) 2 2,.slice (some ⟨g2,0,none⟩) 2 2] W (Zao n [la,lb] [f1,f2]):=by
 have FV:W.heap[g1]?=some (.cells #[.slice a1 (la.map qs).length c1,.slice a2 (lb.map qs).length c2] 35 (0,0)):=by rw[List.length_map,List.length_map];exact h1
 exact Zkc W _ _ 2 2 n [la,lb] [f1,f2] D 1 (Zkq FV ra rb) (Zbj h2) (by intro l hl;simp only[List.mem_cons,List.not_mem_nil,or_false] at hl;rcases hl with rfl | rfl<;>assumption) rfl
  (by intro l hl;simp only[List.mem_cons,List.not_mem_nil,or_false] at hl;rcases hl with rfl | rfl<;>assumption)
  (by intro q hq;simp only[List.mem_cons,List.not_mem_nil,or_false] at hq;rcases hq with rfl | rfl<;>assumption) (by omega) (by simp) (by simp only[List.length_cons,List.length_nil];omega) L
theorem Zn7{n D:Nat}{la lb:List Rat}{f1 f2:Rat}(sa:∀ q∈la,Sm D q)(sb:∀ q∈lb,Sm D q)(s1:Sm 1 f1)(s2:Sm 1 f2):∀ q∈Zao n [la,lb] [f1,f2],Sm (2*D+5) q:=by
 have:=Zkf n [la,lb] [f1,f2] D 1 (by intro l hl;simp only[List.mem_cons,List.not_mem_nil,or_false] at hl;rcases hl with rfl | rfl<;>assumption) (by intro q hq;simp only[List.mem_cons,List.not_mem_nil,or_false] at hq;rcases hq with rfl | rfl<;>assumption) rfl 2 nr_
 intro q hq;have h:=this q (by unfold Zic;unfold Zao at hq;exact hq);rw[show 1+2*(D+1+1)=2*D+5 by omega] at h;exact h
theorem Zl8{n:Nat}{la lb:List Rat}{f1 f2:Rat}(h1:la.length=n)(h2:lb.length=n):(Zao n [la,lb] [f1,f2]).length=n :=
 Zcg n [la,lb] [f1,f2] (by intro l hl;simp only[List.mem_cons,List.not_mem_nil,or_false] at hl;rcases hl with rfl | rfl<;>assumption) rfl
theorem Qaj:∀ (l:List Rat),(∀ q∈l,Sm 30 q)->sgo (l.map qs)=0
 | [],_=>rfl
 | q::l,h=>by
  have h1:∃ p:Rat,qs q=qs p/\Sm 400 p:=⟨q,rfl,(h q List.mem_cons_self).le (by decide)⟩;have h2:∃ p:Rat,qs q=qs p/\Yd p:=⟨q,rfl,h q List.mem_cons_self⟩;rw[List.map_cons,sgo,if_pos h1,if_pos h2];exact Qaj l fun p hp=>h p (List.mem_cons_of_mem _ hp)
theorem Zec{n:Nat}{l:List Rat}(h:∀ q∈l,Sm 30 q)(hl:l.length=n):Zcz n (l.map qs)=0:=by
 unfold Zcz;rw[if_pos (by rw[List.length_map];exact hl),Qaj l h]
theorem Zk5(z:Int)(D:Nat)(hD:0<D)(h:z.natAbs<10^D):(itx z).size<=D+1:=by
 have h1:=(Yz z.natAbs D hD).2 h;have h2:=Zco z;omega
theorem Zmc{l:List Rat}(h:∀ q∈l,Sm 30 q):Ssz (l.map qs):=fun x hx=>by
 obtain⟨q,hq,rfl⟩:=List.mem_map.1 hx;have h1:=Zk5 q.num 30 (by decide) (h q hq).1;have h2:=(Yz q.den 30 (by decide)).2 (h q hq).2;exact⟨Nat.le_trans h1 (by decide),Nat.le_trans h2 (by decide)⟩
theorem Zv9{ps:List Int}{la lb:List Rat}(hp:Vd ps=0)(ha:∀ q∈la,Sm 30 q)(hb:∀ q∈lb,Sm 30 q)(h1:la.length=ps.length)(h2:lb.length=ps.length):Zhk ps [la.map qs,lb.map qs]=0:=by
 unfold Zhk;rw[if_pos hp,lgo,if_pos (Zec ha h1),lgo,if_pos (Zec hb h2),lgo]
theorem Vj.le{w:World}{ps:List Int}{a0 a:OA_}{l:List Rat}{D E:Nat}(h:Vj w ps a0 a l D)(hE:D<=E)(h1:E<=1000):Vj w ps a0 a l E :=
 ⟨h.rp,h.rl,h.len,h.n,h.pr,fun q hq=>(h.sm q hq).le hE,h1⟩
theorem Znq(W:World)(ps:List Int)(g:Nat)(a0 a1 a2:OA_)(c0 c1 c2:Nat)(la lb:List Rat)(A:Vj W ps a0 a1 la 30)(B:Vj W ps a0 a2 lb 30)(hp:Vd ps=0)(L:Qg W)
  (h1:W.heap[g]?=some (.cells #[.slice a1 la.length c1,.slice a2 lb.length c2] 35 (0,0))) :
  Kc Tryz.prog 20 #[.slice a0 ps.length c0,.slice (some ⟨g,0,none⟩) 2 2] W (.int .i64 0):=by
 have FV:W.heap[g]?=some (.cells #[.slice a1 (la.map qs).length c1,.slice a2 (lb.map qs).length c2] 35 (0,0)):=by rw[List.length_map,List.length_map];exact h1
 have hn:=A.n;have e1:=A.len;have e2:=B.len;have h:=Zak W a0 _ c0 2 ps [la.map qs,lb.map qs] A.rp A.i64 (by omega) (Zkq FV A.rl B.rl) (by simp)
  (by
   intro l hl;simp only[List.mem_cons,List.not_mem_nil,or_false] at hl;rcases hl with rfl|rfl
   ·exact⟨by rw[List.length_map];omega,Zmc A.sm⟩
   ·exact⟨by rw[List.length_map];omega,Zmc B.sm⟩) L
 rw[Zv9 hp A.sm B.sm e1 e2] at h;exact h
theorem Zcx(w:World)(ps:List Int)(a0 a1 a2:OA_)(c0 c1 c2:Nat)(la lb:List Rat)(A:Vj w ps a0 a1 la 30)(B:Vj w ps a0 a2 lb 30)(hp:Vd ps=0)(L:Qg w)
  (hq:tlQ ps lb≠[]) :
  Kc Tryz.prog 180 #[.slice a0 ps.length c0,.slice a1 la.length c1,.slice a2 lb.length c2] w (.int .i64 0):=by
 unfold Kc;have HB:=hd_ B;have HL:=hd_ L;have Hk:Hid (∀ W g,Bw_ w W->W.heap[g]?=some (.cells #[.slice a1 la.length c1,.slice a2 lb.length c2] 35 (0,0))->Kc Tryz.prog 20 #[.slice a0 ps.length c0,.slice (some ⟨g,0,none⟩) 2 2] W (.int .i64 0)):=fun W g hW hg =>
  Znq W ps g a0 a1 a2 c0 c1 c2 la lb (A.below hW) (B.below hW) hp (L.below hW) hg
 have hz:(((tlQ ps lb).length:Int)==0)=false:=by
  rw[beq_eq_false_iff_ne];intro h;exact hq (List.eq_nil_of_length_eq_zero (by omega))
 have Ht:Hid (∀ W,Bw_ w W->Calls Tryz.prog 79 #[.slice a0 ps.length c0,.slice a2 lb.length c2] W fun e w'=>∃ b1 d1 b2 d2,e = .returned (.agg (Kk b1 d1 b2 d2 (tlQ ps lb).length (Ko lb)))/\Ym w' (tlQ ps lb) b1 b2/\Bw_ W w'):=fun W hW =>
  Zj7 (HB.o.below hW) (HL.o.below hW)
 clear A B hp L hq HB HL;generalize (tlQ ps lb).length=m at *;go_enter Tryz.func180,Tryz.ntmps180;go_wp2_with fail;have B1:=hd_ ((Below.refl w.heap.size w).alloc nr_ (.cells #[.slice a1 la.length c1,.slice a2 lb.length c2] 35));refine cm_ (Hk.o _ _ B1.o (Qe w _ _ _ rfl)) ?_;rintro e w1 ⟨rfl,hb⟩;have B2:=bt_ B1 hb;clear hb Hk B1;go_wp2_with fail;refine cm_ (Ht.o _ B2.o) ?_;rintro e w2 ⟨b1,d1,b2,d2,rfl,T,hb⟩;have B3:=bt_ B2 hb;clear hb Ht T;have hf:∀ W:World,(Instr.field 146 (.agg (Kk b1 d1 b2 d2 m (Ko lb))) 0).run Tryz.prog W = .ok (.slice b1 m d1) W:=fun W=>by rfl
 go_wp2_with fail;go_ret;exact⟨rfl,B3.o⟩
theorem Zwo : (Tryz.prog.fieldsOf 101).toList.map (fun f => (f.name, f.type, f.offset)) = [("Num", 38, 0), ("Den", 38, 1)] := by kernel_rfl
theorem Qah:Tryz.prog.stoodInHeld 101=false:=by kernel_rfl
theorem Qep:Tryz.prog.eqGuardType Tryz.prog.depth 101=false:=by kernel_rfl
theorem Zfw (W : World) (d : Nat) (s t s' t' : ByteArray) (fs : List Field) (h : fs.map (fun f => (f.name, f.type, f.offset)) = [("Num", 38, 0), ("Den", 38, 1)]) :
  (Op.eqFields (d+1) #[.string s,.string t] #[.string s',.string t'] fs).run Tryz.prog W = .ok (s.toList==s'.toList&&t.toList==t'.toList) W:=by
 obtain⟨f,g,rfl⟩:∃ f g,fs=[f,g]:=by
  have hl:=congrArg List.length h;rw[List.length_map] at hl;cases fs with
  | nil=>simp at hl
  | cons f fs =>
   cases fs with
   | nil=>simp at hl
   | cons g fs =>
    cases fs with
    | nil=>exact⟨f,g,rfl⟩
    | cons x fs=>simp at hl
 simp only[List.map_cons,List.map_nil,List.cons.injEq,Prod.mk.injEq,and_true] at h;obtain⟨⟨h1,h2,h3⟩,h4,h5,h6⟩:=h;have hu:=Tryz.underlying38;simp[Op.eqFields,h1,h2,h3,h4,h5,h6,go_sem,hu]
 by_cases q1:s.toList=s'.toList<;>by_cases q2:t.toList=t'.toList<;>simp[q1,q2]
theorem Zuw:Tryz.prog.underlying 101=some (.struct (Tryz.prog.fieldsOf 101)):=by
 have h:=Tryz.underlying101;unfold Program.fieldsOf;rw[h]
theorem Zyq(W:World)(s t s' t':ByteArray):
  (binOp .neq 101 (.agg #[.string s,.string t]) (.agg #[.string s',.string t'])).run Tryz.prog W = .ok (.bool (!(s.toList==s'.toList&&t.toList==t'.toList))) W:=by
 rw[run_neq_struct,show (10000:Nat)=9998+1+1 from rfl,run_equalIn_agg (ht:=Zuw) (hp:=Qah),Zfw W _ s t s' t' _ Zwo];rfl
theorem Zzl(W:World)(s t s' t':ByteArray):
  (binOp .eql 101 (.agg #[.string s,.string t]) (.agg #[.string s',.string t'])).run Tryz.prog W = .ok (.bool (s.toList==s'.toList&&t.toList==t'.toList)) W:=by
 rw[run_eql_struct,show (10000:Nat)=9998+1+1 from rfl,run_equalIn_agg (ht:=Zuw) (hp:=Qah),Zfw W _ s t s' t' _ Zwo];rfl
theorem Zjq(W:World)(op:BinOp)(x y:Operand)(xs ys:Array Value):(eqGuard op 101 x y (.agg xs) (.agg ys)).run Tryz.prog W = .ok () W:=run_eqGuard_agg W op _ x y xs ys Qep
theorem toList_inj{a b:ByteArray}(h:(a.toList==b.toList)=true):a=b:=by
 have h1:=eq_of_beq h;rw[ByteArray.toList_eq,ByteArray.toList_eq] at h1;exact ByteArray.ext (Array.toList_inj.1 h1)
theorem Qan(p q:Rat):((itx p.num).toList==(itx q.num).toList&&(dec p.den).toList==(dec q.den).toList)=decide (p=q):=by
 by_cases h:p=q
 ·subst h;simp
 ·rw[decide_eq_false h,Bool.eq_false_iff];intro hc;rw[Bool.and_eq_true] at hc;exact h (Rat.ext (Zk7 (toList_inj hc.1)) (Zln (toList_inj hc.2)))
theorem Zs4{C:World->Prop}{K:Act->Prop}{a:Act}{o:Oper}(x y:Operand)(r:TypeId)(p q:Rat)(h:o.op = .binOp .neq 101 x y r)(hx:a.eval x = .agg #[.string (itx p.num),.string (dec p.den)])(hy:a.eval y = .agg #[.string (itx q.num),.string (dec q.den)])
  (hk:K (a.put o.dst (.bool (!decide (p=q))))):o.quiet Tryz.prog a C K :=
 ⟨_,fun w _=>by
  unfold Oper.quietAt execOp;rw[h];simp only[Sem.run_bind,hx,hy,Zjq,Zyq,Result.andThen_ok,Sem.run_pure,Qan];exact⟨rfl,rfl⟩,hk⟩
theorem Sm.inv{D:Nat}{q:Rat}(h:Sm D q)(_:0<D):Sm D q⁻¹:=by
 have e:q⁻¹=Rat.inv q:=rfl;have h1:=h.1;have h2:=h.2;rw[e];unfold Rat.inv;split
 ·refine⟨?_,h.1⟩
  show (-(q.den:Int)).natAbs<_
  omega
 ·split
  ·exact⟨by show ((q.den:Nat):Int).natAbs<_;omega,h.1⟩
  ·exact h
theorem Sm.div{D E:Nat}{a b:Rat}(ha:Sm D a)(hb:Sm E b):Sm (D+E) (a/b):=by
 rw[Rat.div_def];exact ha.mul (hb.inv hb.pos)
def Yb (la lb:List Rat):Nat->Rat
 | 0=>0
 | k+1=>if lb.getD k 0=0 then Yb la lb k else la.getD k 0/lb.getD k 0
theorem Zwk{D:Nat}{l:List Rat}(h:∀ q∈l,Sm D q)(hD:0<D)(k:Nat):Sm D (l.getD k 0):=by
 rw[List.getD_eq_getElem?_getD];rcases Nat.lt_or_ge k l.length with hk|hk
 ·rw[List.getElem?_eq_getElem hk];exact h _ (List.getElem_mem hk)
 ·rw[List.getElem?_eq_none hk];exact Sm.zero.le hD
theorem Zg9{D:Nat}{la lb:List Rat}(ha:∀ q∈la,Sm D q)(hb:∀ q∈lb,Sm D q)(hD:0<D):∀ k,Sm (D+D) (Yb la lb k)
 | 0=>Sm.zero.le (by omega)
 | k+1=>by
  unfold Yb;split
  ·exact Zg9 ha hb hD k
  ·exact(Zwk ha hD k).div (Zwk hb hD k)
def Zee (la lb:List Rat) (n:Nat) (k:Rat):Bool:=decide (∀ j,j<n->k*lb.getD j 0=la.getD j 0)
theorem Zq5{w:World}{g:Nat}{a b:Value}{t:TypeId}(h:w.heap[g]?=some (.cells #[a,b] t (0,0)))(x y:Value):
  ((w.setCell ⟨g,0,none⟩ x).setCell ⟨g,1,none⟩ y).heap[g]?=some (.cells #[x,y] t (0,0)):=by
 rw[Zda (Zda h 0 x) 1 y];rfl
theorem Zds{w:World}{g k:Nat}{o:Obj}(h:w.heap[k]?=some o)(hk:g≠k)(x y:Value):
  ((w.setCell ⟨g,0,none⟩ x).setCell ⟨g,1,none⟩ y).heap[k]?=some o:=by
 rw[Zp hk,Zp hk];exact h
structure BW (W:World) where
 w:World
 b:Bw_ W w
theorem BW.cell{W:World}{p:Addr}{v:Value}(h:W.cell? p=some v)(q:BW W):q.w.cell? p=some v:=(q.b.cell (block_lt_of_cell h)).trans h
theorem Zmo(w:World)(a1 a2:OA_)(c1 c2 n D:Nat)(la lb:List Rat)(ra:Rd w a1 (Km la))(rb:Rd w a2 (Km lb))(ea:la.length=n)(eb:lb.length=n)
  (sa:∀ q∈la,Sm D q) (sb:∀ q∈lb,Sm D q) (hn:n<=1000) (hD0:0<D) (hD:D<=1000) (L:Qg w) :
  Kc Tryz.prog 238 #[.slice a1 n c1,.slice a2 n c2] w (.tuple #[fr (Yb la lb n),.bool (Zee la lb n (Yb la lb n))]):=by
 unfold Kc;have HL:=hd_ L;have Dk:=hd_ ra;have LV:=hd_ rb;have IJ:=hd_ ea;have II:=hd_ eb;have Gs:=hd_ sa;have GA:=hd_ sb;have HD:=hd_ hD;have IQ:=hd_ hD0;have B0:=hd_ ((Below.refl w.heap.size w).alloc nr_ (.cells #[.string ⟨#[]⟩,.string ⟨#[]⟩] 101));have K0:=hd_ (Qe w #[.string ⟨#[]⟩,.string ⟨#[]⟩] 101 _ rfl);have S0:Hid ((w.alloc (.cells #[.string ⟨#[]⟩,.string ⟨#[]⟩] 101)).heap.size=w.heap.size+1):=by show (w.heap.push _).size=_;exact Array.size_push ..
 have CH:Hid (∀ W,Bw_ w W->Kc Tryz.prog 58 #[.int .i64 0] W (.agg #[.string (itx 0),.string (dec 1)])):=fun W hW=>Zb2 W 0 (by decide) (by decide) (HL.o.below hW)
 clear L ra rb ea eb sa sb hD hD0;go_enter Tryz.func238,Tryz.ntmps238;go_wp2_with fail;generalize w.alloc (.cells #[.string ⟨#[]⟩,.string ⟨#[]⟩] 101)=w0 at *;refine cm_ (CH.o _ B0.o) ?_;rintro e w1 ⟨rfl,hb⟩;have B1:=bt_ B0 hb;have K1:=hk_ K0 hb;have S1:Hid (w.heap.size+1<=w1.heap.size):=by show _<=_;have:=hb.size;have:=S0.o;omega
 clear hb K0 B0 S0 CH;go_wp2_with fail;have B2:=hd_ (B1.o.alloc B1.o.size (.cells #[.string (itx 0),.string (dec 1)] 101));have K2:=hd_ (Kj K1.o (.cells #[.string (itx 0),.string (dec 1)] 101));have M2:=hd_ (Qe w1 #[.string (itx 0),.string (dec 1)] 101 _ rfl);have gm:w.heap.size≠w1.heap.size:=by have:=S1.o;omega
 have ag:w.heap.size<=w1.heap.size:=by have:=S1.o;omega
 have bv:=hd_ gm;have IG:=hd_ ag;generalize w1.alloc (.cells #[.string (itx 0),.string (dec 1)] 101)=w2 at *;clear K1 B1 S1 gm ag;generalize w1.heap.size=g1 at *
 go_loopw [14] (fun i wr=>∃ k:Nat,k<=n/\i = .int .i64 k/\Hid (wr.heap[w.heap.size]?=some (.cells #[.string ⟨#[]⟩,.string ⟨#[]⟩] 101 (0,0)))/\Hid (wr.heap[g1]?=some (.cells #[.string (itx (Yb la lb k).num),.string (dec (Yb la lb k).den)] 101 (0,0)))/\Hid (Bw_ w wr)) (fun i _=>n-(intOf i).toNat)
 case atStart=>exact⟨0,Nat.zero_le _,rfl,K2,M2,B2⟩
 case round =>
  obtain⟨k,hk,rfl,K,M,B⟩:=hrel
  by_cases gd:k<n
  ·have gu:(k:Int)<n:=by omega
   have GQ:k<lb.length:=by rw[II.o];exact gd
   have Ce:k<la.length:=by rw[IJ.o];exact gd
   obtain⟨b,off,rfl,hb,hcells⟩:=LV.o.open (by rw[Kw,II.o];omega);obtain⟨x0,x1⟩:=Qx hcells k (by rw[List.length_map];exact GQ);rw[<- B.o.cell (p:=⟨b,off+k*2,none⟩) hb,Qu _ k GQ] at x0;rw[<- B.o.cell (p:=⟨b,off+k*2+1,none⟩) hb,Qu _ k GQ] at x1;have Bo:Hid (lb.getD k 0=lb[k]):=by show _=_;rw[List.getD_eq_getElem?_getD,List.getElem?_eq_getElem GQ];rfl
   have Bp:Hid (la.getD k 0=la[k]):=by show _=_;rw[List.getD_eq_getElem?_getD,List.getElem?_eq_getElem Ce];rfl
   have Sa:=hd_ (Gs.o _ (List.getElem_mem Ce));have Sb:=hd_ (GA.o _ (List.getElem_mem GQ));obtain⟨b',off',rfl,fc,hcells'⟩:=Dk.o.open (by rw[Kw,IJ.o];omega);obtain⟨y0,y1⟩:=Qx hcells' k (by rw[List.length_map];exact Ce);rw[<- B.o.cell (p:=⟨b',off'+k*2,none⟩) fc,Qu _ k Ce] at y0;rw[<- B.o.cell (p:=⟨b',off'+k*2+1,none⟩) fc,Qu _ k Ce] at y1;have Hs:Hid (Yb la lb (k+1)=if lb.getD k 0=0 then Yb la lb k else la.getD k 0/lb.getD k 0):=hd_ rfl;rw[Bo.o,Bp.o] at Hs;generalize lb[k]=xb at *;generalize la[k]=xa at *;simp only[qs] at x0 x1 y0 y1;clear hcells hcells' Bo Bp
   by_cases h0:xb=0
   ·subst h0;have Jm:Hid (Yb la lb (k+1)=Yb la lb k):=by show _=_;rw[Hs.o,if_pos rfl]
    have hz:((itx (0:Int)).toList==[48])=true:=by rw[Zfb];rfl
    have B':=hd_ (B.o.alloc B.o.size (.cells #[.string (itx 0),.string (dec 1)] 101));have K':=hd_ (Kj K.o (.cells #[.string (itx 0),.string (dec 1)] 101));have M':=hd_ (Kj M.o (.cells #[.string (itx 0),.string (dec 1)] 101));clear Hs y0 y1 B K M Sa Sb;go_wp2_with fail
    go_roundw
    case rel =>
     refine⟨k+1,by omega,by go_num,K',?_,B'⟩;rw[Jm.o];exact M'
    case measure=>simp[intOf];omega
   ·have Jm:Hid (Yb la lb (k+1)=xa/xb):=by show _=_;rw[Hs.o,if_neg h0]
    have hz:((itx xb.num).toList==[48])=false:=by rw[Zfb];exact decide_eq_false fun h=>h0 (Rat.num_eq_zero.1 h)
    have B':=hd_ (B.o.alloc B.o.size (.cells #[.string (itx xb.num),.string (dec xb.den)] 101));have K':=hd_ (Kj K.o (.cells #[.string (itx xb.num),.string (dec xb.den)] 101));have M':=hd_ (Kj M.o (.cells #[.string (itx xb.num),.string (dec xb.den)] 101));have N':=hd_ (Qe wr #[.string (itx xb.num),.string (dec xb.den)] 101 _ rfl);have W':=hd_ ((Below.refl wr.heap.size wr).alloc nr_ (.cells #[.string (itx xb.num),.string (dec xb.den)] 101));have Y0:=hd_ ((W'.o.cell (p:=⟨b',off'+k*2,none⟩) (Nat.lt_of_lt_of_le fc B.o.size)).trans y0);have Y1:=hd_ ((W'.o.cell (p:=⟨b',off'+k*2+1,none⟩) (Nat.lt_of_lt_of_le fc B.o.size)).trans y1);have en:Hid (∀ W,Bw_ w W->Kc Tryz.prog 286 #[fr xa,fr xb] W (.tuple #[fr (xa/xb),.int .i64 0])):=fun W hW =>
     Qg4 W xa xb D D Sa.o Sb.o h0 (by have:=HD.o;omega) (HL.o.below hW)
    unfold fr fv at en;clear Hs y0 y1 B K M Sa Sb h0 W';have H0:=hd_ (show ((0:Int)<=k/\(k:Int)<n) from ⟨by omega,by omega⟩);go_wp2_with fail;generalize wr.alloc (.cells #[.string (itx xb.num),.string (dec xb.den)] 101)=W0 at *;clear x0 x1;obtain⟨k0,k1,-,-⟩:=Ka N'.o;have q0:=BW.cell k0;have q1:=BW.cell k1;have q2:=BW.cell Y0.o;have q3:=BW.cell Y1.o;have gj:Nonempty (BW W0):=⟨⟨W0,Below.refl _ _⟩⟩;clear k0 k1 N';refine RP.wp_region_readers 9 [(1,0),(1,1),(1,2),(1,3),(1,4),(0,5),(2,6),(2,7),(2,8),(0,9)] (fun w'=>∃ p:BW W0,w'=p.w) (by kernel_rfl) (by kernel_rfl) ?_ ?_
    ·exact⟨⟨{ W0 with drawn:=W0.drawn+1 },⟨rfl,rfl,rfl,Nat.le_refl _,fun _ _=>rfl⟩⟩,rfl⟩
    iterate 5 (refine wr_ rfl ?_;go_big_quiet_step (fail);refine wq_ ?_)
    clear q0 q1 q2 q3 gj;refine wm_ rfl ?_;go_wp2_with fail;refine cm_ (en.o _ B'.o.drew) ?_;rintro e w5 ⟨rfl,hb5⟩;have W5:Hid (Bw_ W0 w5):=(Below.refl W0.heap.size W0).drew.trans hb5;have B5:=bt_ B' W5.o;have K5:=hk_ K' W5.o;have M5:=hk_ M' W5.o;clear hb5 en K' M' B' Y0 Y1;go_wp2_with fail;refine⟨⟨⟨w5,W5.o⟩,rfl⟩,?_⟩;refine wa_ rfl ?_
    go_big_quiet_step (fail)
    refine wq_ ?_;refine wa_ rfl ?_
    go_big_quiet_step (fail)
    refine wq_ ?_;refine wa_ rfl ?_
    go_big_quiet_step (fail)
    refine wq_ ?_;obtain⟨k0,k1,f0,f1⟩:=Ka M5.o;refine wm_ rfl ?_;go_wp2_with fail;have B6:=hd_ ((B5.o.setCell (p:=⟨g1,0,none⟩) IG.o (.string (itx (xa/xb).num))).setCell (p:=⟨g1,1,none⟩) IG.o (.string (dec (xa/xb).den)));have M6:=hd_ (Zq5 M5.o (.string (itx (xa/xb).num)) (.string (dec (xa/xb).den)));have K6:=hd_ (Zds K5.o bv.o.symm (.string (itx (xa/xb).num)) (.string (dec (xa/xb).den)));clear k0 k1 f0 f1 K5 M5 B5 W5;generalize (w5.setCell ⟨g1,0,none⟩ (.string (itx (xa/xb).num))).setCell ⟨g1,1,none⟩ (.string (dec (xa/xb).den))=w6 at *;simp only[RP.walkR];go_wp2
    go_roundw
    case rel =>
     refine⟨k+1,by omega,by go_num,K6,?_,B6⟩;rw[Jm.o];exact M6
    case measure=>simp[intOf];omega
  ·have gu:¬ (k:Int)<n:=by omega
   have CW:k=n:=by omega
   subst CW;clear hk gd;generalize hq:Yb la lb k=q at *;have Sq:Hid (Sm (D+D) q):=by show Sm _ q;rw[<- hq];exact Zg9 Gs.o GA.o IQ.o k
   have Hq:=hd_ hq;clear hq;go_wp2_with fail
   go_loopw [34] (fun i wr=>∃ j:Nat,j<=k/\i = .int .i64 j/\Hid (∀ i,i<j->q*lb.getD i 0=la.getD i 0)/\Hid (wr.heap[w.heap.size]?=some (.cells #[.string ⟨#[]⟩,.string ⟨#[]⟩] 101 (0,0)))/\Hid (wr.heap[g1]?=some (.cells #[.string (itx q.num),.string (dec q.den)] 101 (0,0)))/\Hid (Bw_ w wr)) (fun i _=>k-(intOf i).toNat)
   case atStart=>exact⟨0,Nat.zero_le _,rfl,fun i hi=>absurd hi (Nat.not_lt_zero _),K,M,B⟩
   case round =>
    clear K M B;obtain⟨j,hj,rfl,fG,K,M,B⟩:=hrel
    by_cases gd:j<k
    ·have gu:(j:Int)<k:=by omega
     have GQ:j<lb.length:=by rw[II.o];exact gd
     have Ce:j<la.length:=by rw[IJ.o];exact gd
     obtain⟨b,off,rfl,hb,hcells⟩:=LV.o.open (by rw[Kw,II.o];omega);obtain⟨x0,x1⟩:=Qx hcells j (by rw[List.length_map];exact GQ);rw[<- B.o.cell (p:=⟨b,off+j*2,none⟩) hb,Qu _ j GQ] at x0;rw[<- B.o.cell (p:=⟨b,off+j*2+1,none⟩) hb,Qu _ j GQ] at x1;have Bo:Hid (lb.getD j 0=lb[j]):=by show _=_;rw[List.getD_eq_getElem?_getD,List.getElem?_eq_getElem GQ];rfl
     have Bp:Hid (la.getD j 0=la[j]):=by show _=_;rw[List.getD_eq_getElem?_getD,List.getElem?_eq_getElem Ce];rfl
     have Sb:=hd_ (GA.o _ (List.getElem_mem GQ));obtain⟨b',off',rfl,fc,hcells'⟩:=Dk.o.open (by rw[Kw,IJ.o];omega);obtain⟨y0,y1⟩:=Qx hcells' j (by rw[List.length_map];exact Ce);rw[<- B.o.cell (p:=⟨b',off'+j*2,none⟩) fc,Qu _ j Ce] at y0;rw[<- B.o.cell (p:=⟨b',off'+j*2+1,none⟩) fc,Qu _ j Ce] at y1;generalize lb[j]=xb at *;generalize la[j]=xa at *;simp only[qs] at x0 x1 y0 y1;have B':=hd_ (B.o.alloc B.o.size (.cells #[.string (itx xb.num),.string (dec xb.den)] 101));have K':=hd_ (Kj K.o (.cells #[.string (itx xb.num),.string (dec xb.den)] 101));have M':=hd_ (Kj M.o (.cells #[.string (itx xb.num),.string (dec xb.den)] 101));have N':=hd_ (Qe wr #[.string (itx xb.num),.string (dec xb.den)] 101 _ rfl);have W':=hd_ ((Below.refl wr.heap.size wr).alloc nr_ (.cells #[.string (itx xb.num),.string (dec xb.den)] 101));have Y0:=hd_ ((W'.o.cell (p:=⟨b',off'+j*2,none⟩) (Nat.lt_of_lt_of_le fc B.o.size)).trans y0);have Y1:=hd_ ((W'.o.cell (p:=⟨b',off'+j*2+1,none⟩) (Nat.lt_of_lt_of_le fc B.o.size)).trans y1);have HM:Hid (∀ W,Bw_ w W->∀ d os,Calls Tryz.prog 206 #[fr q,fr xb] (Go.Sort.grow (redrawn W d) os) fun e w''=>e = .returned (fr (q*xb))/\∃ p:Regrown,w''=Go.Sort.grow (redrawn W p.d) p.os):=fun W hW =>
      Zfs W q xb (D+D) D Sq.o Sb.o (by have:=HD.o;omega) (HL.o.below hW)
     unfold fr fv at HM;clear hcells hcells' y0 y1 K M B W' Sb;have H0:=hd_ (show ((0:Int)<=j/\(j:Int)<k) from ⟨by omega,by omega⟩);go_wp2_with fail;generalize wr.alloc (.cells #[.string (itx xb.num),.string (dec xb.den)] 101)=W0 at *;clear x0 x1;obtain⟨k0,k1,-,-⟩:=Ka N'.o;obtain⟨m0,m1,-,-⟩:=Ka M'.o;have q0:=cell_regrown k0;have q1:=cell_regrown k1;have q2:=cell_regrown Y0.o;have q3:=cell_regrown Y1.o;have q4:=cell_regrown m0;have q5:=cell_regrown m1;have hM:=HM.o _ B'.o;clear k0 k1 HM N' m0 m1;refine wp_region_quiet_below (by kernel_rfl) (by kernel_rfl) ?_
     repeat (first | go_big_quiet_step (with_reducible exact hM _ _) | quiet_step (with_reducible exact hM _ _))
     refine BigFrame.wpQuiet_want rfl fun K hK=>Zs4 _ _ _ (q*xb) xa rfl rfl rfl (hK _ ?_)
     refine wq_ ?_;intro w2 fM;obtain⟨⟨dq,osq⟩,rfl⟩:=fM;have W2:=hd_ (below_regrown W0 dq osq);have B2:=bt_ B' W2.o;have K2:=hk_ K' W2.o;have M2:=hk_ M' W2.o;clear K' M' B' Y0 Y1 W2 hM q0 q1 q2 q3 q4 q5;generalize Go.Sort.grow (redrawn W0 dq) osq=w2 at *
     by_cases hqx:q*xb=xa
     ·rw[decide_eq_true hqx];have iE:Hid (∀ i,i<j+1->q*lb.getD i 0=la.getD i 0):=fun i hi=>by
       rcases Nat.lt_or_ge i j with h|h
       ·exact fG.o i h
       ·rw[show i=j by omega,Bo.o,Bp.o];exact hqx
      clear hqx fG Bp Bo;go_wp2_with fail
      go_roundw
      case rel=>exact⟨j+1,by omega,by go_num,iE,K2,M2,B2⟩
      case measure=>simp[intOf];omega
     ·rw[decide_eq_false hqx];have HB:Hid (Zee la lb k q=false):=by
       show _=_
       exact decide_eq_false fun h=>hqx (by rw[<- Bo.o,<- Bp.o];exact h j gd)
      clear hqx fG Bp Bo;obtain⟨k0,k1,f0,f1⟩:=Ka K2.o;obtain⟨m0,m1,-,-⟩:=Ka M2.o;go_wp2_with fail;obtain⟨c0,c1,hb3⟩:=Kq (B:=w.heap.size) (.string (itx q.num)) (.string (dec q.den)) k0 k1 nr_ B2.o;generalize (w2.setCell ⟨w.heap.size,0,none⟩ (.string (itx q.num))).setCell ⟨w.heap.size,1,none⟩ (.string (dec q.den))=w9 at *;rw[Hq.o,HB.o];exact bodyPost_ret (v := .tuple #[.agg #[.string (itx q.num),.string (dec q.den)],.bool false]) (by simp[results,Tryz.results238,go_sem,c0,c1]) rfl ⟨rfl,hb3⟩
    ·have gu:¬ (j:Int)<k:=by omega
     have HB:Hid (Zee la lb k q=true):=by
      show _=_
      exact decide_eq_true fun i hi=>fG.o i (by omega)
     clear fG;obtain⟨k0,k1,f0,f1⟩:=Ka K.o;obtain⟨m0,m1,-,-⟩:=Ka M.o;go_wp2_with fail;obtain⟨c0,c1,hb3⟩:=Kq (B:=w.heap.size) (.string (itx q.num)) (.string (dec q.den)) k0 k1 nr_ B.o;generalize (wr.setCell ⟨w.heap.size,0,none⟩ (.string (itx q.num))).setCell ⟨w.heap.size,1,none⟩ (.string (dec q.den))=w9 at *;rw[Hq.o,HB.o];exact bodyPost_ret (v := .tuple #[.agg #[.string (itx q.num),.string (dec q.den)],.bool true]) (by simp[results,Tryz.results238,go_sem,c0,c1]) rfl ⟨rfl,hb3⟩
theorem Zpm(w:World)(ps:List Int)(a0 a1 a2:OA_)(c0 c1 c2 D:Nat)(la lb:List Rat)(A:Vj w ps a0 a1 la D)(B:Vj w ps a0 a2 lb D)(hD0:0<D)(L:Qg w)
  (hr:Zee la lb ps.length (Yb la lb ps.length)=true) :
  Kc Tryz.prog 181 #[.slice a0 ps.length c0,.slice a1 la.length c1,.slice a2 lb.length c2] w (.string (itx (Yb la lb ps.length).floor)):=by
 unfold Kc;have hn:=A.n;have hd:=A.d;have Dk:=hd_ (Zmo w a1 a2 c1 c2 ps.length D la lb A.rl B.rl A.len B.len A.sm B.sm (by omega) hD0 hd L);rw[hr] at Dk;have Sk:=Zg9 A.sm B.sm hD0 ps.length;have E1:Hid (∀ W,Bw_ w W->Kc Tryz.prog 239 #[fr (Yb la lb ps.length)] W (.string (itx (Yb la lb ps.length).floor))):=fun W hW=>Qa3 W _ (D+D) Sk (by omega) (L.below hW)
 unfold fr fv at Dk E1;rw[A.len,B.len];clear Sk A B L hr;generalize Yb la lb ps.length=k at *;go_enter Tryz.func181,Tryz.ntmps181;go_wp2_with fail;refine cm_ Dk.o ?_;rintro e w1 ⟨rfl,hb⟩;have B1:=hd_ hb;have B2:=hd_ (hb.alloc hb.size (.cells #[.string (itx k.num),.string (dec k.den)] 101));clear hb Dk;go_wp2_with fail;refine cm_ (E1.o _ B2.o) ?_;rintro e w2 ⟨rfl,hb⟩;have B3:=bt_ B2 hb;clear hb E1;go_wp2_with fail;go_ret;exact⟨rfl,B3.o⟩
theorem Qab(w:World)(ps:List Int)(a0 a1 a2:OA_)(c0 c1 c2:Nat)(la lb:List Rat)(A:Vj w ps a0 a1 la 30)(B:Vj w ps a0 a2 lb 30)(hp:Vd ps=0)(L:Qg w)(hz:tlQ ps lb≠[])(q:Int)
  (hf:∀ W,Bw_ w W->Kc Tryz.prog 181 #[.slice a0 ps.length c0,.slice a1 la.length c1,.slice a2 lb.length c2] W (.string (itx q))) :
  Kc Tryz.prog 97 #[.slice a0 ps.length c0,.slice a1 la.length c1,.slice a2 lb.length c2] w (.tuple #[.string (itx q),.int .i64 0]):=by
 unfold Kc;have Hc:=hd_ (Zcx w ps a0 a1 a2 c0 c1 c2 la lb A B hp L hz);have Hf:=hd_ hf;clear A B hp L hz hf;go_enter Tryz.func97,Tryz.ntmps97;go_wp2_with fail;refine cm_ Hc.o ?_;rintro e w1 ⟨rfl,hb⟩;have B1:=hd_ hb;clear hb Hc;go_wp2_with fail;refine cm_ (Hf.o _ B1.o) ?_;rintro e w2 ⟨rfl,hb⟩;have B2:=bt_ B1 hb;clear hb Hf;go_wp2_with fail
 go_ret2
 exact⟨rfl,B2.o⟩
theorem Sm.two:Sm 1 2:=⟨by decide,by decide⟩
theorem Qbn(W:World)(g1 g2:Nat)(a1:OA_)(c1 n D:Nat)(la:List Rat)(f1:Rat)
  (h1:W.heap[g1]?=some (.cells #[.slice a1 la.length c1] 35 (0,0)))
  (h2:W.heap[g2]?=some (.cells #[.string (itx f1.num),.string (dec f1.den)] 101 (0,0)))
  (ra:Rd W a1 (Km la)) (cZ:la.length=n) (sa:∀ q∈la,Sm D q) (s1:Sm 2 f1) (hn:n<=100) (hD:D<=400) (L:Qg W) :
  Zdh 141 #[.int .i64 n,.slice (some ⟨g1,0,none⟩) 1 1,.slice (some ⟨g2,0,none⟩) 1 1] W (Zao n [la] [f1]):=by
 have FV:W.heap[g1]?=some (.cells #[.slice a1 (la.map qs).length c1] 35 (0,0)):=by rw[List.length_map];exact h1
 exact Zkc W _ _ 1 1 n [la] [f1] D 2 (Zkr FV ra) (Zbj h2) (by intro l hl;simp only[List.mem_cons,List.not_mem_nil,or_false] at hl;subst hl;assumption) rfl
  (by intro l hl;simp only[List.mem_cons,List.not_mem_nil,or_false] at hl;subst hl;assumption)
  (by intro q hq;simp only[List.mem_cons,List.not_mem_nil,or_false] at hq;subst hq;assumption) (by omega) (by simp) (by simp only[List.length_cons,List.length_nil];omega) L
theorem Zst{n D:Nat}{la:List Rat}{f1:Rat}(sa:∀ q∈la,Sm D q)(s1:Sm 2 f1):∀ q∈Zao n [la] [f1],Sm (2*D+5) q:=by
 have:=Zkf n [la] [f1] D 2 (by intro l hl;simp only[List.mem_cons,List.not_mem_nil,or_false] at hl;subst hl;assumption) (by intro q hq;simp only[List.mem_cons,List.not_mem_nil,or_false] at hq;subst hq;assumption) rfl 1 nr_
 intro q hq;exact(this q (by unfold Zic;unfold Zao at hq;exact hq)).le (by omega)
theorem Zg0{n:Nat}{la:List Rat}{f1:Rat}(h1:la.length=n):(Zao n [la] [f1]).length=n :=
 Zcg n [la] [f1] (by intro l hl;simp only[List.mem_cons,List.not_mem_nil,or_false] at hl;subst hl;assumption) rfl
theorem Qgg:(2:Rat).num=2:=rfl
theorem Qgm:(2:Rat).den=1:=rfl
theorem Zsi(w:World)(ps:List Int)(a0 a1 a2:OA_)(c0 c1 c2:Nat)(la lb:List Rat)(A:Vj w ps a0 a1 la 30)(B:Vj w ps a0 a2 lb 30)(hp:Vd ps=0)(L:Qg w)(hz:tlQ ps lb≠[])(q:Int)
  (hf:∀ W a3 a4 c3 c4,Vj W ps a0 a3 (Zao ps.length [la,lb] [2,1]) (2*30+5)->Vj W ps a0 a4 (Zao ps.length [lb] [2]) (2*30+5)->Qg W ->
   Kc Tryz.prog 181 #[.slice a0 ps.length c0,.slice a3 (Zao ps.length [la,lb] [2,1]).length c3,.slice a4 (Zao ps.length [lb] [2]).length c4] W (.string (itx q))) :
  Kc Tryz.prog 118 #[.slice a0 ps.length c0,.slice a1 la.length c1,.slice a2 lb.length c2] w (.tuple #[.string (itx q),.int .i64 0]):=by
 unfold Kc;have Hc:=hd_ (Zcx w ps a0 a1 a2 c0 c1 c2 la lb A B hp L hz);have Hf:=hd_ hf;have HL:=hd_ L;have HA:=hd_ A;have HB:=hd_ B;have Hn:=hd_ A.n;have ib:Hid (∀ W,Bw_ w W->Kc Tryz.prog 58 #[.int .i64 1] W (.agg #[.string (itx 1),.string (dec 1)])):=fun W hW=>Zb2 W 1 (by decide) (by decide) (HL.o.below hW)
 have bn:Hid (∀ W,Bw_ w W->Kc Tryz.prog 58 #[.int .i64 2] W (.agg #[.string (itx 2),.string (dec 1)])):=fun W hW=>Zb2 W 2 (by decide) (by decide) (HL.o.below hW)
 clear A B hp L hz hf;go_enter Tryz.func118,Tryz.ntmps118;go_wp2_with fail;refine cm_ Hc.o ?_;rintro e w0 ⟨rfl,hb⟩;have B0:=hd_ hb;clear hb Hc;go_wp2_with fail;have K1:=hd_ (Qe w0 #[.slice a1 la.length c1,.slice a2 lb.length c2] 35 _ rfl);have B1:=hd_ (B0.o.alloc B0.o.size (.cells #[.slice a1 la.length c1,.slice a2 lb.length c2] 35));generalize fH:w0.alloc (.cells #[.slice a1 la.length c1,.slice a2 lb.length c2] 35)=w1 at *;clear fH B0;refine cm_ (bn.o _ B1.o) ?_;rintro e w2 ⟨rfl,hb⟩;have K2:=hk_ K1 hb;have B2:=bt_ B1 hb;clear hb;go_wp2_with fail;refine cm_ (ib.o _ B2.o) ?_;rintro e w3 ⟨rfl,hb⟩;have K3:=hk_ K2 hb;have B3:=bt_ B2 hb;clear hb;go_wp2_with fail;have K4:=hd_ (Kj K3.o (.cells #[.string (itx 2),.string (dec 1),.string (itx 1),.string (dec 1)] 101));have B4:=hd_ (B3.o.alloc B3.o.size (.cells #[.string (itx 2),.string (dec 1),.string (itx 1),.string (dec 1)] 101));have M4:=hd_ (Qe w3 #[.string (itx 2),.string (dec 1),.string (itx 1),.string (dec 1)] 101 _ rfl);generalize es:w3.alloc (.cells #[.string (itx 2),.string (dec 1),.string (itx 1),.string (dec 1)] 101)=w4 at *;clear es;have Hs:=hd_ (Zya w4 w0.heap.size w3.heap.size a1 a2 c1 c2 ps.length 30 la lb 2 1 K4.o (by rw[Qgg,Qgm];exact M4.o) (HA.o.below B4.o).rl (HB.o.below B4.o).rl HA.o.len HB.o.len HA.o.sm HB.o.sm Sm.two Sm.one Hn.o (by decide) (HL.o.below B4.o));refine cm_ Hs.o ?_;rintro e w5 ⟨a5,c5,rfl,ho,hb⟩;have LX:=hd_ ho.rd;have B5:=bt_ B4 hb;clear hb ho;have S5:Hid (Vj w5 ps a0 a5 (Zao ps.length [la,lb] [2,1]) (2*30+5)) :=
  ⟨(HA.o.below B5.o).rp,LX.o,Zl8 HA.o.len HB.o.len,Hn.o,HA.o.pr,Zn7 (D:=30) HA.o.sm HB.o.sm Sm.two Sm.one,by decide⟩
 clear Hs LX M4 K4 K3 K2 K1 B1 B2 B3 B4;go_wp2_with fail;have K6:=hd_ (Qe w5 #[.slice a2 lb.length c2] 35 _ rfl);have B6:=hd_ (B5.o.alloc B5.o.size (.cells #[.slice a2 lb.length c2] 35));have S6:=hd_ (S5.o.below ((Below.refl w5.heap.size w5).alloc nr_ (.cells #[.slice a2 lb.length c2] 35)));generalize hw6:w5.alloc (.cells #[.slice a2 lb.length c2] 35)=w6 at *;clear hw6 B5 S5;refine cm_ (bn.o _ B6.o) ?_;rintro e w7 ⟨rfl,hb⟩;have K7:=hk_ K6 hb;have B7:=bt_ B6 hb;have S7:=hd_ (S6.o.below hb);clear hb S6;go_wp2_with fail;have K8:=hd_ (Kj K7.o (.cells #[.string (itx 2),.string (dec 1)] 101));have B8:=hd_ (B7.o.alloc B7.o.size (.cells #[.string (itx 2),.string (dec 1)] 101));have S8:=hd_ (S7.o.below ((Below.refl w7.heap.size w7).alloc nr_ (.cells #[.string (itx 2),.string (dec 1)] 101)));have M8:=hd_ (Qe w7 #[.string (itx 2),.string (dec 1)] 101 _ rfl);generalize hw8:w7.alloc (.cells #[.string (itx 2),.string (dec 1)] 101)=w8 at *;clear hw8 B7 S7 K7;have Hs:=hd_ (Qbn w8 w5.heap.size w7.heap.size a2 c2 ps.length 30 lb 2 K8.o (by rw[Qgg,Qgm];exact M8.o) (HB.o.below B8.o).rl HB.o.len HB.o.sm (Sm.two.le (by decide)) Hn.o (by decide) (HL.o.below B8.o));refine cm_ Hs.o ?_;rintro e w9 ⟨a9,c9,rfl,ho,hb⟩;have n8:=hd_ ho.rd;have B9:=bt_ B8 hb;have S9:=hd_ (S8.o.below hb);clear hb ho;have T9:Hid (Vj w9 ps a0 a9 (Zao ps.length [lb] [2]) (2*30+5)) :=
  ⟨(HB.o.below B9.o).rp,n8.o,Zg0 HB.o.len,Hn.o,HB.o.pr,Zst (D:=30) HB.o.sm (Sm.two.le (by decide)),by decide⟩
 have Nl:=hd_ (Hf.o w9 a5 a9 c5 c9 S9.o T9.o (HL.o.below B9.o));go_wp2_with fail;refine cm_ Nl.o ?_;rintro e w10 ⟨rfl,hb⟩;have Cn:=bt_ B9 hb;clear hb;go_wp2_with fail
 go_ret2
 exact⟨rfl,Cn.o⟩
theorem Qbi(w:World)(a:Rat)(ha:Sm 30 a):Kc Tryz.prog 220 #[fr a] w (.bool false):=by
 unfold Kc;have h:decide (Yd a)=true:=decide_eq_true ha;have Hs:Hid (∀ W,Kc Tryz.prog 161 #[fr a] W (.bool true)):=fun W=>by
  have:=Zu2 W a
  rw[h] at this;exact this
 unfold fr fv at Hs ⊢;clear h;have B1:=hd_ ((Below.refl w.heap.size w).alloc nr_ (.cells #[.string (itx a.num),.string (dec a.den)] 101));go_enter Tryz.func220,Tryz.ntmps220;go_wp2_with fail;refine cm_ (Hs.o _) ?_;rintro e w1 ⟨rfl,hb⟩;have B2:=bt_ B1 hb;clear hb;go_wp2_with fail;go_ret;exact⟨rfl,B2.o⟩
theorem Ztp(w:World)(a:OA_)(c:Nat)(l:List Rat)(hr:Rd w a (Km l))(hs:∀ q∈l,Sm 30 q)(hl:l.length<=1000):
  Kc Tryz.prog 257 #[.slice a l.length c,.func (.func 220) #[] #[]] w (.int .i64 (-1)):=by
 unfold Kc;have Hr:=hd_ hr;have Hs:=hd_ hs;clear hr hs;generalize hm:l.length=m at *;have Hm:=hd_ hm;clear hm;go_enter Tryz.func257,Tryz.ntmps257;go_wp2_with fail
 go_loopw [8] (fun i wr=>∃ k:Nat,k<=m/\i = .int .i64 k/\Hid (Bw_ w wr)) (fun i _=>m-(intOf i).toNat)
 case atStart=>exact⟨0,Nat.zero_le _,rfl,Below.refl _ _⟩
 case round =>
  obtain⟨k,hk,rfl,B⟩:=hrel
  by_cases gd:k<m
  ·have gu:(k:Int)<m:=by omega
   have GQ:k<l.length:=by rw[Hm.o];exact gd
   obtain⟨b,off,rfl,hb,hcells⟩:=Hr.o.open (by rw[Kw,Hm.o];omega);obtain⟨x0,x1⟩:=Qx hcells k (by rw[List.length_map];exact GQ);rw[<- B.o.cell (p:=⟨b,off+k*2,none⟩) hb,Qu _ k GQ] at x0;rw[<- B.o.cell (p:=⟨b,off+k*2+1,none⟩) hb,Qu _ k GQ] at x1;have Hc:Hid (Kc Tryz.prog 220 #[fr l[k]] wr (.bool false)):=Qbi wr _ (Hs.o _ (List.getElem_mem GQ));unfold fr fv at Hc;generalize l[k]=x at *;simp only[qs] at x0 x1;clear hcells;go_wp2_with fail;refine cm_ Hc.o ?_;rintro e w1 ⟨rfl,HU⟩;have B1:=bt_ B HU;clear HU Hc B x0 x1;go_wp2_with fail
   go_roundw
   case rel=>exact⟨k+1,by omega,by go_num,B1⟩
   case measure=>simp[intOf];omega
  ·have gu:¬ (k:Int)<m:=by omega
   go_wp2_with fail;go_ret;exact⟨rfl,B.o⟩
theorem Zlo(w:World)(a:OA_)(c:Nat)(l:List Rat)(hr:Rd w a (Km l))(hs:∀ q∈l,Sm 30 q)(hl:l.length<=1000):
  Kc Tryz.prog 201 #[.slice a l.length c,.func (.func 220) #[] #[]] w (.bool false):=by
 unfold Kc;have Hi:=hd_ (Ztp w a c l hr hs hl);clear hr hs hl;go_enter Tryz.func201,Tryz.ntmps201;go_wp2_with fail;refine cm_ Hi.o ?_;rintro e w1 ⟨rfl,hb⟩;have B:=hd_ hb;clear hb Hi;go_wp2_with fail;go_ret;exact⟨rfl,B.o⟩
theorem Zve(w:World)(a:OA_)(c:Nat)(l:List Rat)(hr:Rd w a (Km l))(hs:∀ q∈l,Sm 30 q)(hl:l.length<=1000):
  Kc Tryz.prog 140 #[.slice a l.length c] w (.tuple #[.slice a l.length c,.int .i64 0]):=by
 unfold Kc;have Hi:=hd_ (Zlo w a c l hr hs hl);clear hr hs hl;go_enter Tryz.func140,Tryz.ntmps140;go_wp2_with fail;refine cm_ Hi.o ?_;rintro e w1 ⟨rfl,hb⟩;have B:=hd_ hb;clear hb Hi;go_wp2_with fail
 go_ret2
 exact⟨rfl,B.o⟩
theorem Qcj(w:World)(a:Rat)(ha:Sm 400 a)(L:Qg w):Kc Tryz.prog 138 #[fr a] w (.bool false):=by
 unfold Kc;have Hs:Hid (∀ W,Bw_ w W->Kc Tryz.prog 139 #[fr a] W (.int .i64 0)):=fun W hW=>Zsa W a ha (L.below hW)
 unfold fr fv at Hs ⊢;have B1:=hd_ ((Below.refl w.heap.size w).alloc nr_ (.cells #[.string (itx a.num),.string (dec a.den)] 101));clear L;go_enter Tryz.func138,Tryz.ntmps138;go_wp2_with fail;refine cm_ (Hs.o _ B1.o) ?_;rintro e w1 ⟨rfl,hb⟩;have B2:=bt_ B1 hb;clear hb;go_wp2_with fail;go_ret;exact⟨rfl,B2.o⟩
theorem Zpi(w:World)(a:OA_)(c:Nat)(l:List Rat)(hr:Rd w a (Km l))(hs:∀ q∈l,Sm 400 q)(hl:l.length<=1000)(L:Qg w):
  Kc Tryz.prog 217 #[.slice a l.length c,.func (.func 138) #[] #[]] w (.int .i64 (-1)):=by
 unfold Kc;have Hr:=hd_ hr;have Hs:=hd_ hs;have HL:=hd_ L;clear hr hs L;generalize hm:l.length=m at *;have Hm:=hd_ hm;clear hm;go_enter Tryz.func217,Tryz.ntmps217;go_wp2_with fail
 go_loopw [8] (fun i wr=>∃ k:Nat,k<=m/\i = .int .i64 k/\Hid (Bw_ w wr)) (fun i _=>m-(intOf i).toNat)
 case atStart=>exact⟨0,Nat.zero_le _,rfl,Below.refl _ _⟩
 case round =>
  obtain⟨k,hk,rfl,B⟩:=hrel
  by_cases gd:k<m
  ·have gu:(k:Int)<m:=by omega
   have GQ:k<l.length:=by rw[Hm.o];exact gd
   obtain⟨b,off,rfl,hb,hcells⟩:=Hr.o.open (by rw[Kw,Hm.o];omega);obtain⟨x0,x1⟩:=Qx hcells k (by rw[List.length_map];exact GQ);rw[<- B.o.cell (p:=⟨b,off+k*2,none⟩) hb,Qu _ k GQ] at x0;rw[<- B.o.cell (p:=⟨b,off+k*2+1,none⟩) hb,Qu _ k GQ] at x1;have Hc:Hid (Kc Tryz.prog 138 #[fr l[k]] wr (.bool false)):=Qcj wr _ (Hs.o _ (List.getElem_mem GQ)) (HL.o.below B.o);unfold fr fv at Hc;generalize l[k]=x at *;simp only[qs] at x0 x1;clear hcells;go_wp2_with fail;refine cm_ Hc.o ?_;rintro e w1 ⟨rfl,HU⟩;have B1:=bt_ B HU;clear HU Hc B x0 x1;go_wp2_with fail
   go_roundw
   case rel=>exact⟨k+1,by omega,by go_num,B1⟩
   case measure=>simp[intOf];omega
  ·have gu:¬ (k:Int)<m:=by omega
   go_wp2_with fail;go_ret;exact⟨rfl,B.o⟩
theorem Zij(w:World)(a:OA_)(c:Nat)(l:List Rat)(hr:Rd w a (Km l))(hs:∀ q∈l,Sm 400 q)(hl:l.length<=1000)(L:Qg w):
  Kc Tryz.prog 137 #[.slice a l.length c,.func (.func 138) #[] #[]] w (.bool false):=by
 unfold Kc;have Hi:=hd_ (Zpi w a c l hr hs hl L);clear hr hs hl L;go_enter Tryz.func137,Tryz.ntmps137;go_wp2_with fail;refine cm_ Hi.o ?_;rintro e w1 ⟨rfl,hb⟩;have B:=hd_ hb;clear hb Hi;go_wp2_with fail;go_ret;exact⟨rfl,B.o⟩
theorem Zwa{ps:List Int}{la:List Rat}(hp:Vd ps=0)(ha:∀ q∈la,Sm 30 q)(h1:la.length=ps.length):Zhk ps [la.map qs]=0:=by
 unfold Zhk;rw[if_pos hp,lgo,if_pos (Zec ha h1),lgo]
theorem Qb2(w:World)(n d:Int)(v:Rat)(hof:∀ W,Bw_ w W->Kc Tryz.prog 126 #[.int .i64 n,.int .i64 d] W (.tuple #[fr v,.int .i64 0])):
  Kc Tryz.prog 49 #[.int .i64 n,.int .i64 d] w (fr v):=by
 unfold Kc;have Gj:=hd_ hof;clear hof;unfold fr fv at Gj ⊢;have B0:=hd_ ((Below.refl w.heap.size w).alloc nr_ (.cells #[.string ⟨#[]⟩,.string ⟨#[]⟩] 101));have K0:=hd_ (Qe w #[.string ⟨#[]⟩,.string ⟨#[]⟩] 101 _ rfl);go_enter Tryz.func49,Tryz.ntmps49;go_wp2_with fail;refine cm_ (Gj.o _ B0.o) ?_;rintro e w1 ⟨rfl,hb⟩;have B1:=bt_ B0 hb;have K1:=hk_ K0 hb;clear hb B0 K0 Gj;have B2:=hd_ (B1.o.alloc B1.o.size (.cells #[.string (itx v.num),.string (dec v.den)] 101));have K2:=hd_ (Kj K1.o (.cells #[.string (itx v.num),.string (dec v.den)] 101));have M2:=hd_ (Qe w1 #[.string (itx v.num),.string (dec v.den)] 101 _ rfl);obtain⟨k0,k1,f0,f1⟩:=Ka K2.o;obtain⟨m0,m1,-,-⟩:=Ka M2.o;go_wp2_with fail;obtain⟨c0,c1,hb3⟩:=Kq (B:=w.heap.size) (.string (itx v.num)) (.string (dec v.den)) k0 k1 nr_ B2.o;exact bodyPost_ret (v := .agg #[.string (itx v.num),.string (dec v.den)]) (by simp[results,Tryz.results49,go_sem,c0,c1]) rfl ⟨rfl,hb3⟩
theorem Zi9{C:World->Prop}{K:Act->Prop}{a:Act}{o:Oper}(x y:Operand)(r:TypeId)(p q:Rat)(h:o.op = .binOp .eql 101 x y r)(hx:a.eval x = .agg #[.string (itx p.num),.string (dec p.den)])(hy:a.eval y = .agg #[.string (itx q.num),.string (dec q.den)])
  (hk:K (a.put o.dst (.bool (decide (p=q))))):o.quiet Tryz.prog a C K :=
 ⟨_,fun w _=>by
  unfold Oper.quietAt execOp;rw[h];simp only[Sem.run_bind,hx,hy,Zjq,Zzl,Result.andThen_ok,Sem.run_pure,Qan];exact⟨rfl,rfl⟩,hk⟩
theorem Zrj(w:World)(z:Int)(h0 : -9223372036854775808<=z)(h1:z<=9223372036854775807)(L:Qg w):Kc Tryz.prog 53 #[.int .i64 z] w (.string (itx z)):=by
 refine(Tryz.strconv_Itoa z h0 h1 w L.tab).mono ?_;rintro e w1 ⟨rfl,hw⟩;exact⟨rfl,Zct hw⟩
theorem Zei(n:Nat)(h:n<=100000000000000000000):Num n:=Ku (D:=21) (by omega) (by decide) (by decide)
theorem Qft(w:World)(n:Int)(d:Nat)(q1 : -9223372036854775808<=n)(q2:n<=9223372036854775807)(q3:0<d)(q4:d<=1000000)(L:Qg w):
  Kc Tryz.prog 49 #[.int .i64 n,.int .i64 d] w (fr (mkRat n d)) :=
 Qb2 w n d _ fun W hW=>by
  have:=Zq4 W n d q1 q2 (by omega) (Zei _ (by omega)) (Zei _ (by omega)) q3 (Zei _ (by omega)) (Zei _ (by omega)) (L.below hW)
  rw[Zdk n d (by omega)] at this;exact this
instance (D:Nat) (q:Rat):Decidable (Sm D q):=by unfold Sm;infer_instance
theorem k7:((itx 7).toList==[55])=true:=by decide +kernel
theorem Qby{w:World}{g:Nat}{l:List Int}{t:TypeId}(h:w.heap[g]?=some (.cells (Qw l).toArray t (0,0))):Rd w (some ⟨g,0,none⟩) (Qw l):=by
 have:=Zbj h
 simpa using this
def Vc:Nat->List Int
 | 0=>[2,3,5] | 1=>[2,3] | 2=>[2,3,5,7] | 3=>[2,3,7] | 4=>[3,5,7] | 5=>[2] | 6=>[2,5,7] | 7=>[2,3,11] | 8=>[2,3,5,13] | _=>[2,3,7,11]
theorem Ze5:∀ k,k<10->Vd (Vc k)=0/\(Vc k).length<=4/\0<(Vc k).length/\(∀ p∈Vc k,2<=p/\p<=13):=by decide +kernel
theorem Zjb(w:World)(n:Nat)(hn:n<256):
  Calls Tryz.prog 10 #[.int .u8 n] w fun e w'=>∃ g,e = .returned (.slice (some ⟨g,0,none⟩) (Vc (n%10)).length (Vc (n%10)).length)/\Rd w' (some ⟨g,0,none⟩) (Qw (Vc (n%10)))/\Bw_ w w':=by
 have et:Int.tmod (n:Int) 10=((n%10:Nat):Int):=by rw[Int.tmod_eq_emod_of_nonneg (by omega)];omega
 have hk:n%10<10:=Nat.mod_lt _ (by decide);generalize n%10=k at *;clear hn;go_enter Tryz.func10,Tryz.ntmps10;have jE:(0:Int)<=k/\(k:Int)<10:=⟨by omega,by omega⟩;go_wp2_with fail;go_ret;clear jE;have DU:k=0\/k=1\/k=2\/k=3\/k=4\/k=5\/k=6\/k=7\/k=8\/k=9:=by omega
 rcases DU with rfl|rfl|rfl|rfl|rfl|rfl|rfl|rfl|rfl|rfl
 all_goals
  refine⟨_,rfl,?_,?_⟩
  ·refine Qby (t:=3) ?_
   repeat (first | exact Qe _ _ _ _ (by simp) | refine Kj ?_ _)
  ·repeat (first | exact Below.refl _ _ | refine Below.alloc ?_ (by simp;try omega) _)
def Zht:Nat->Nat
 | 0=>1 | 1=>2 | 2=>3 | 3=>4 | 4=>6 | _=>12
def Zih (n:Int) (d:Nat):Rat:=mkRat (n.tmod 41) (Zht (d%6))
theorem Zr4(k:Nat):0<Zht k/\Zht k<=12:=by
 unfold Zht;split<;>omega
theorem Zm8(w:World)(n:Int)(d:Nat)(_ : -128<=n/\n<=127)(hd:d<256)(L:Qg w):
  Kc Tryz.prog 108 #[.agg #[.int .i8 n,.int .u8 d]] w (fr (Zih n d)):=by
 unfold Kc;have t1:=Int.tmod_lt_of_pos n (show (0:Int)<41 by decide);have t2:=Int.lt_tmod_of_pos n (show (0:Int)<41 by decide);have Db:=Zr4 (d%6);have HP:Hid (∀ W,Bw_ w W->Kc Tryz.prog 49 #[.int .i64 (n.tmod 41),.int .i64 (Zht (d%6))] W (fr (Zih n d))):=fun W hW=>Qft W (n.tmod 41) (Zht (d%6)) (by omega) (by omega) Db.1 (by omega) (L.below hW)
 have et:Int.tmod (d:Int) 6=((d%6:Nat):Int):=by rw[Int.tmod_eq_emod_of_nonneg (by omega)];omega
 have hk:d%6<6:=Nat.mod_lt _ (by decide);have Hx:Hid (∀ h,([Value.int .i64 1,Value.int .i64 2,Value.int .i64 3,Value.int .i64 4,Value.int .i64 6,Value.int .i64 12]:List Value)[d%6]'h = .int .i64 (Zht (d%6))):=fun h=>by
  have h6:d%6=0\/d%6=1\/d%6=2\/d%6=3\/d%6=4\/d%6=5:=by omega
  generalize d%6=k at *;rcases h6 with rfl|rfl|rfl|rfl|rfl|rfl<;>rfl
 unfold fr fv at HP ⊢;generalize Zih n d=q at *;have hw:wrap64 (n.tmod 41)=n.tmod 41:=IntWalk.wrap64_in _ ⟨by omega,by omega⟩;generalize d%6=k at *;clear Db L;have jE:(0:Int)<=k/\(k:Int)<6:=⟨by omega,by omega⟩;have B0:=hd_ (((Below.refl w.heap.size w).alloc nr_ (.cells #[.int .i8 n,.int .u8 d] 24)).alloc (by simp) (.cells #[.string ⟨#[]⟩,.string ⟨#[]⟩] 101));have K0:=hd_ (Kj (Qe w #[.int .i8 n,.int .u8 d] 24 _ rfl) (.cells #[.string ⟨#[]⟩,.string ⟨#[]⟩] 101));have M0:=hd_ (Qe (w.alloc (.cells #[.int .i8 n,.int .u8 d] 24)) #[.string ⟨#[]⟩,.string ⟨#[]⟩] 101 _ rfl);rw[World.size_alloc] at M0;go_enter Tryz.func108,Tryz.ntmps108;go_wp2_with fail;generalize (w.alloc (.cells #[.int .i8 n,.int .u8 d] 24)).alloc (.cells #[.string ⟨#[]⟩,.string ⟨#[]⟩] 101)=W0 at *;obtain⟨k0,k1,-,-⟩:=Ka K0.o;have q0:=BW.cell k0;have q1:=BW.cell k1;have gj:Nonempty (BW W0):=⟨⟨W0,Below.refl _ _⟩⟩;clear k0 k1 K0;refine RP.wp_region_readers 11 [(1,0),(1,1),(1,2),(1,3),(1,5),(1,6),(1,7),(0,4),(2,8),(0,9),(0,10),(0,11)] (fun w'=>∃ p:BW W0,w'=p.w) (by kernel_rfl) (by kernel_rfl) ?_ ?_
 ·exact⟨⟨{ W0 with drawn:=W0.drawn+1 },⟨rfl,rfl,rfl,Nat.le_refl _,fun _ _=>rfl⟩⟩,rfl⟩
 iterate 7 (refine wr_ rfl ?_;go_big_quiet_step (fail);refine wq_ ?_)
 clear q0 q1 gj;refine wm_ rfl ?_;go_wp2_with fail;have W1:Hid (Bw_ W0 (W0.alloc (.cells #[.int .i64 1,.int .i64 2,.int .i64 3,.int .i64 4,.int .i64 6,.int .i64 12] 3)).drew):=((Below.refl W0.heap.size W0).alloc nr_ _).drew;refine⟨⟨⟨_,W1.o⟩,rfl⟩,?_⟩;refine wa_ rfl ?_
 go_big_quiet_step (fail)
 refine wq_ ?_;refine wm_ rfl ?_;go_wp2_with fail;refine⟨⟨⟨_,W1.o⟩,rfl⟩,?_⟩;refine wm_ rfl ?_;simp only[Hx.o];go_wp2_with fail;have B1:=bt_ B0 W1.o;refine cm_ (HP.o _ B1.o) ?_;rintro e w5 ⟨rfl,hb5⟩;have W5:=bt_ W1 hb5;have B5:=bt_ B0 W5.o;have M5:=hk_ M0 W5.o;clear hb5 HP M0 B0 W1 B1;go_wp2_with fail;refine⟨⟨⟨w5,W5.o⟩,rfl⟩,?_⟩;obtain⟨k0,k1,f0,f1⟩:=Ka M5.o;refine wm_ rfl ?_;go_wp2_with fail;simp only[RP.walkR];obtain⟨c0,c1,hb3⟩:=Kq (B:=w.heap.size) (.string (itx q.num)) (.string (dec q.den)) k0 k1 (by omega) B5.o;go_wp2;exact bodyPost_ret (v := .agg #[.string (itx q.num),.string (dec q.den)]) (by simp[results,Tryz.results108,go_sem,c0,c1]) rfl ⟨rfl,hb3⟩
def RdI (w:World) (a:OA_) (ls:List (List Int)):Prop :=
 ls=[]\/∃ b off,a=some ⟨b,off,none⟩/\b<w.heap.size/\∀ i,i<ls.length->∃ a' c',w.cell? ⟨b,off+i,none⟩=some (.slice a' (ls.getD i []).length c')/\Rd w a' (Qw (ls.getD i []))
theorem RdI.below{w w':World}{a:OA_}{ls:List (List Int)}{B:Nat}(h:RdI w a ls)(hb:Below B w w')(hB:w.heap.size<=B):RdI w' a ls:=by
 rcases h with h|⟨b,off,h1,h2,h3⟩
 ·exact .inl h
 ·refine .inr ⟨b,off,h1,Nat.lt_of_lt_of_le h2 hb.size,fun i hi=>?_⟩;obtain⟨a',c',h4,h5⟩:=h3 i hi;exact⟨a',c',by rw[hb.cell (p:=⟨b,off+i,none⟩) (by show b<B;omega)];exact h4,h5.below hb hB⟩
def mx:List Int->Int
 | []=>0
 | x::l=>if 1000<x\/x < -1000 then 4 else mx l
def Zia (f:FuncId) (args:Array Value) (w:World) (l:List Rat):Prop :=
 Calls Tryz.prog f args w fun e w'=>∃ a c,e = .returned (.tuple #[.slice a l.length c,.int .i64 0])/\Zbc w' w.heap.size a c l/\Bw_ w w'
def Zbp (f:FuncId) (args:Array Value) (w:World) (code:Int):Prop:=Kc Tryz.prog f args w (.tuple #[.slice none 0 0,.int .i64 code])
theorem Zbc.lower{w:World}{B B' c:Nat}{a:OA_}{l:List Rat}(h:Zbc w B a c l)(hb:B'<=B):Zbc w B' a c l:=by
 exact⟨h.1,h.2.imp id fun ⟨g,cap,cur,h1,h2,h3⟩=>⟨g,cap,cur,h1,Nat.le_trans hb h2,h3⟩⟩
theorem Qbb(w:World)(a0:OA_)(c0:Nat)(ps:List Int)(hp:Rd w a0 (Qw ps))(hi:Zgm ps)(hl:ps.length<=1000)(hc:Vd ps=0)(L:Qg w):
  Zia 39 #[.slice a0 ps.length c0] w (List.replicate ps.length 0):=by
 unfold Zia;have H1:=hd_ (Zbt w a0 c0 ps hp hi (by omega));rw[hc] at H1;have H2:Hid (∀ W,Bw_ w W->Zdh 103 #[.int .i64 ps.length] W (List.replicate ps.length 0)):=fun W hW=>Zqg W ps.length hl (L.below hW)
 unfold Zdh at H2;simp only[List.length_replicate] at H2 ⊢;clear hp hi hc L;generalize ps.length=n at *;go_enter Tryz.func39,Tryz.ntmps39;go_wp2_with fail;refine cm_ H1.o ?_;rintro e w1 ⟨rfl,HU⟩;have H6:=hd_ HU;clear HU H1;go_wp2_with fail;refine cm_ (H2.o _ H6.o) ?_;rintro e w2 ⟨a,c,rfl,ho,H7⟩;have H9:=bt_ H6 H7;have Ho:=hd_ (Zbc.lower ho H6.o.size);clear H7 ho H2 H6;go_wp2_with fail
 go_ret2
 exact⟨a,c,rfl,Ho.o,H9.o⟩
theorem Zhb{ps:List Int}(h:Vd ps=0):0<ps.length/\ps.length<=6:=by
 unfold Vd at h;split at h
 ·cases h
 ·split at h
  ·cases h
  ·omega
theorem Zwr(w:World)(a0:OA_)(c0:Nat)(ps:List Int)(hp:Rd w a0 (Qw ps))(hi:Zgm ps)(hc:Vd ps=0)(L:Qg w):
  Zia 116 #[.slice a0 ps.length c0] w ((List.replicate ps.length 0).set 0 1):=by
 have ft:=Zhb hc;have H1:=hd_ (Qbb w a0 c0 ps hp hi (by omega) hc L);have H2:Hid (∀ W,Bw_ w W->Kc Tryz.prog 58 #[.int .i64 1] W (fr ((1:Int):Rat))):=fun W hW=>Zov W 1 (by decide) (by decide) (L.below hW)
 unfold Zia at *
 unfold fr fv at H2;rw[List.length_set,List.length_replicate];simp only[List.length_replicate] at H1;clear hp hi hc L;generalize ps.length=n at *;go_enter Tryz.func116,Tryz.ntmps116;go_wp2_with fail;refine cm_ H1.o ?_;rintro e w1 ⟨a,c,rfl,ho,HU⟩;have H6:=hd_ HU;have Ho:=hd_ ho;clear HU H1 ho;have e9:0<n:=ft.1;go_wp2_with fail;refine cm_ (H2.o _ H6.o) ?_;rintro e w2 ⟨rfl,H7⟩;have H9:=bt_ H6 H7;have ia:=hd_ (Ho.o.below H7 nr_);clear H7 H2 H6 Ho;obtain⟨g,rfl,hB,hg,ER,hcells,ee⟩:=ia.o.open (by simp;omega);obtain⟨x0,x1⟩:=hcells 0 (by simp;omega);have f0:=ee (0*2);have f1:=ee (0*2+1);simp only[Nat.zero_mul,Nat.zero_add] at x0 x1 f0 f1;clear hcells ee ER;go_wp2
 go_ret2
 refine⟨some ⟨g,0,none⟩,c,rfl,?_,?_⟩
 ·have:=ia.o.store 0 (by simp;omega) 1
  simp only[Nat.zero_mul,Nat.zero_add] at this;exact this
 ·exact(H9.o.setCell (p:=⟨g,0,none⟩) hB _).setCell (p:=⟨g,1,none⟩) hB _
theorem Zx6(w:World)(a:Rat):Kc Tryz.prog 220 #[fr a] w (.bool (!decide (Yd a))):=by
 unfold Kc;have Hs:Hid (∀ W,Kc Tryz.prog 161 #[fr a] W (.bool (decide (Yd a)))):=fun W=>Zu2 W a
 unfold fr fv at Hs ⊢;have B1:=hd_ ((Below.refl w.heap.size w).alloc nr_ (.cells #[.string (itx a.num),.string (dec a.den)] 101));generalize decide (Yd a)=z at *;go_enter Tryz.func220,Tryz.ntmps220;go_wp2_with fail;refine cm_ (Hs.o _) ?_;rintro e w1 ⟨rfl,hb⟩;have B2:=bt_ B1 hb;clear hb;go_wp2_with fail;go_ret;exact⟨rfl,B2.o⟩
def Vb (l:List Rat):Bool:=l.all fun q=>decide (Yd q)
theorem Ztq(w:World)(a:OA_)(c:Nat)(l:List Rat)(hr:Rd w a (Km l))(hl:l.length<=1000):
  Calls Tryz.prog 257 #[.slice a l.length c,.func (.func 220) #[] #[]] w fun e w'=>∃ i:Int,e = .returned (.int .i64 i) /\ -1<=i/\decide (0<=i) = !Vb l/\Bw_ w w':=by
 have Hr:=hd_ hr;clear hr;have fG:Hid (∀ k,k<=l.length->(∀ j (h:j<l.length),j<k->decide (Yd l[j])=true)->k=l.length->Vb l=true):=fun k hk h Gl=>by
  unfold Vb;rw[List.all_eq_true];intro q hq;obtain⟨j,hj,rfl⟩:=List.mem_iff_getElem.1 hq;exact h j hj (by omega)
 have EX:Hid (∀ k (h:k<l.length),decide (Yd l[k])=false->Vb l=false):=fun k h hf=>by
  unfold Vb;rw[List.all_eq_false];exact⟨l[k],List.getElem_mem h,by rw[hf];decide⟩
 obtain⟨m,hm⟩:∃ m,l.length=m:=⟨_,rfl⟩;rw[hm] at hl ⊢;have Hm:=hd_ hm;clear hm;generalize Vb l=z at *;go_enter Tryz.func257,Tryz.ntmps257;go_wp2_with fail
 go_loopw [8] (fun i wr=>∃ k:Nat,k<=m/\i = .int .i64 k/\Hid (∀ j (h:j<l.length),j<k->decide (Yd l[j])=true)/\Hid (Bw_ w wr)) (fun i _=>m-(intOf i).toNat)
 case atStart=>exact⟨0,Nat.zero_le _,rfl,fun j _ hj=>absurd hj (Nat.not_lt_zero _),Below.refl _ _⟩
 case round =>
  obtain⟨k,hk,rfl,Hp,B⟩:=hrel
  by_cases gd:k<m
  ·have gu:(k:Int)<m:=by omega
   have GQ:k<l.length:=by rw[Hm.o];exact gd
   obtain⟨b,off,rfl,hb,hcells⟩:=Hr.o.open (by rw[Kw,Hm.o];omega);obtain⟨x0,x1⟩:=Qx hcells k (by rw[List.length_map];exact GQ);rw[<- B.o.cell (p:=⟨b,off+k*2,none⟩) hb,Qu _ k GQ] at x0;rw[<- B.o.cell (p:=⟨b,off+k*2+1,none⟩) hb,Qu _ k GQ] at x1;have Hc:Hid (Kc Tryz.prog 220 #[fr l[k]] wr (.bool (!decide (Yd l[k])))):=Zx6 wr _;unfold fr fv at Hc;simp only[qs] at x0 x1;clear hcells
   by_cases hs:decide (Yd l[k])=true
   ·have Jt:Hid (∀ j (h:j<l.length),j<k+1->decide (Yd l[j])=true):=fun j h hj=>by
     rcases Nat.lt_or_ge j k with hh|hh
     ·exact Hp.o j h hh
     ·have e:j=k:=by omega
      subst e;exact hs
    rw[hs] at Hc;clear hs Hp;generalize l[k]=x at *;go_wp2_with fail;refine cm_ Hc.o ?_;rintro e w1 ⟨rfl,HU⟩;have B1:=bt_ B HU;clear HU Hc B x0 x1;go_wp2_with fail
    go_roundw
    case rel=>exact⟨k+1,by omega,by go_num,Jt,B1⟩
    case measure=>simp[intOf];omega
   ·have ed:decide (Yd l[k])=false:=by simpa using hs
    have Hz:=hd_ (EX.o k GQ ed);rw[ed] at Hc;clear hs ed Hp;generalize l[k]=x at *;go_wp2_with fail;refine cm_ Hc.o ?_;rintro e w1 ⟨rfl,HU⟩;have B1:=bt_ B HU;clear HU Hc B x0 x1;go_wp2_with fail;go_ret;exact⟨k,rfl,by omega,by rw[Hz.o];exact decide_eq_true (by omega),B1.o⟩
  ·have gu:¬ (k:Int)<m:=by omega
   have Hz:=hd_ (fG.o k (by rw[Hm.o];exact hk) Hp.o (by rw[Hm.o];omega));clear Hp;go_wp2_with fail;go_ret;exact⟨-1,rfl,by decide,by rw[Hz.o];rfl,B.o⟩
theorem Zes(w:World)(a:OA_)(c:Nat)(l:List Rat)(hr:Rd w a (Km l))(hl:l.length<=1000):
  Kc Tryz.prog 201 #[.slice a l.length c,.func (.func 220) #[] #[]] w (.bool (!Vb l)):=by
 unfold Kc;have Hi:=hd_ (Ztq w a c l hr hl);clear hr hl;generalize Vb l=z at *;go_enter Tryz.func201,Tryz.ntmps201;go_wp2_with fail;refine cm_ Hi.o ?_;rintro e w1 ⟨i,rfl,CZ,Cf,hb⟩;have B:=hd_ hb;have Hz:=hd_ Cf;clear hb Hi Cf;go_wp2_with fail;go_ret;exact⟨by rw[<- Hz.o];rfl,B.o⟩
theorem Zoj(w:World)(a:OA_)(c:Nat)(l:List Rat)(hr:Rd w a (Km l))(hl:l.length<=1000)(hs:Vb l=true):
  Kc Tryz.prog 140 #[.slice a l.length c] w (.tuple #[.slice a l.length c,.int .i64 0]):=by
 unfold Kc;have Hi:=hd_ (Zes w a c l hr hl);rw[hs] at Hi;clear hr hl hs;go_enter Tryz.func140,Tryz.ntmps140;go_wp2_with fail;refine cm_ Hi.o ?_;rintro e w1 ⟨rfl,hb⟩;have B:=hd_ hb;clear hb Hi;go_wp2_with fail
 go_ret2
 exact⟨rfl,B.o⟩
theorem Zoi(w:World)(a:OA_)(c:Nat)(l:List Rat)(hr:Rd w a (Km l))(hl:l.length<=1000)(hs:Vb l=false):
  Zbp 140 #[.slice a l.length c] w 4:=by
 unfold Zbp Kc;have Hi:=hd_ (Zes w a c l hr hl);rw[hs] at Hi;clear hr hl hs;go_enter Tryz.func140,Tryz.ntmps140;go_wp2_with fail;refine cm_ Hi.o ?_;rintro e w1 ⟨rfl,hb⟩;have B:=hd_ hb;clear hb Hi;go_wp2_with fail
 go_ret2
 exact⟨rfl,B.o⟩
open Classical in
noncomputable def Zbf (x:ByteArray×ByteArray):Bool := !decide (IsQ x.1 x.2)
open Classical in
noncomputable def Yt (l:List (ByteArray×ByteArray)):Bool:=l.all fun x=>decide (IsQ x.1 x.2)
open Classical in
theorem Qdi(w:World)(s t:ByteArray)(hs:s.size<=10000000)(ht:t.size<=10000000)(L:Qg w):Kc Tryz.prog 138 #[.agg #[.string s,.string t]] w (.bool (Zbf (s,t))):=by
 have Hs:Hid (∃ z:Int,∀ W,Bw_ w W->Kc Tryz.prog 139 #[.agg #[.string s,.string t]] W (.int .i64 z))/\True:=by
  refine⟨?_,trivial⟩
  by_cases h:IsQ s t
  ·obtain⟨q,rfl,rfl,hq⟩:=h;exact⟨0,fun W hW=>Zsa W q hq (L.below hW)⟩
  ·exact⟨2,fun W hW=>Zhz W s t hs ht h (L.below hW)⟩
 have Hz:∃ z:Int,(z==0) = !(Zbf (s,t))/\∀ W,Bw_ w W->Kc Tryz.prog 139 #[.agg #[.string s,.string t]] W (.int .i64 z):=by
  by_cases h:IsQ s t
  ·refine⟨0,by unfold Zbf;rw[decide_eq_true h];rfl,?_⟩;obtain⟨q,rfl,rfl,hq⟩:=h;exact fun W hW=>Zsa W q hq (L.below hW)
  ·exact⟨2,by unfold Zbf;rw[decide_eq_false h];rfl,fun W hW=>Zhz W s t hs ht h (L.below hW)⟩
 obtain⟨z,hz,hc⟩:=Hz;have Hc:=hd_ hc;clear Hs hc hs ht L;unfold Kc;generalize Zbf (s,t)=b at *;have B1:=hd_ ((Below.refl w.heap.size w).alloc nr_ (.cells #[.string s,.string t] 101));go_enter Tryz.func138,Tryz.ntmps138;go_wp2_with fail;refine cm_ (Hc.o _ B1.o) ?_;rintro e w1 ⟨rfl,hb⟩;have B2:=bt_ B1 hb;have Hz:=hd_ hz;clear hb hz;go_wp2_with fail;go_ret;refine⟨?_,B2.o⟩;have:=Hz.o
 cases b
 ·have h1:(z==0)=true:=this;have h2:z=0:=by simpa using h1
  subst h2;rfl
 ·have h1:(z==0)=false:=this;have h2:z≠0:=by simpa using h1
  show Ending.returned (Value.bool _)=_
  first | rfl | (simp[h2])
theorem Zph(w:World)(a:OA_)(c:Nat)(l:Zdq)(hr:Rd w a (Qp l))(hl:l.length<=1000)(hs:Ssz l)(L:Qg w):
  Calls Tryz.prog 217 #[.slice a l.length c,.func (.func 138) #[] #[]] w fun e w'=>∃ i:Int,e = .returned (.int .i64 i) /\ -1<=i/\decide (0<=i) = !Yt l/\Bw_ w w':=by
 have Hr:=hd_ hr;have Hs:=hd_ hs;have HL:=hd_ L;clear hr hs L;have fG:Hid (∀ k,k<=l.length->(∀ j (h:j<l.length),j<k->Zbf l[j]=false)->k=l.length->Yt l=true):=fun k hk h Gl=>by
  unfold Yt;rw[List.all_eq_true];intro q hq;obtain⟨j,hj,rfl⟩:=List.mem_iff_getElem.1 hq;have:=h j hj (by omega)
  unfold Zbf at this
  simpa using this
 have EX:Hid (∀ k (h:k<l.length),Zbf l[k]=true->Yt l=false):=fun k h hf=>by
  unfold Yt;rw[List.all_eq_false];unfold Zbf at hf;exact⟨l[k],List.getElem_mem h,by simpa using hf⟩
 obtain⟨m,hm⟩:∃ m,l.length=m:=⟨_,rfl⟩;rw[hm] at hl ⊢;have Hm:=hd_ hm;clear hm;generalize Yt l=z at *;go_enter Tryz.func217,Tryz.ntmps217;go_wp2_with fail
 go_loopw [8] (fun i wr=>∃ k:Nat,k<=m/\i = .int .i64 k/\Hid (∀ j (h:j<l.length),j<k->Zbf l[j]=false)/\Hid (Bw_ w wr)) (fun i _=>m-(intOf i).toNat)
 case atStart=>exact⟨0,Nat.zero_le _,rfl,fun j _ hj=>absurd hj (Nat.not_lt_zero _),Below.refl _ _⟩
 case round =>
  obtain⟨k,hk,rfl,Hp,B⟩:=hrel
  by_cases gd:k<m
  ·have gu:(k:Int)<m:=by omega
   have GQ:k<l.length:=by rw[Hm.o];exact gd
   obtain⟨b,off,rfl,hb,hcells⟩:=Hr.o.open (by rw[Vf,Hm.o];omega);obtain⟨x0,x1⟩:=Qx hcells k GQ;rw[<- B.o.cell (p:=⟨b,off+k*2,none⟩) hb,show l.getD k default=l[k] by rw[List.getD_eq_getElem?_getD,List.getElem?_eq_getElem GQ];rfl] at x0;rw[<- B.o.cell (p:=⟨b,off+k*2+1,none⟩) hb,show l.getD k default=l[k] by rw[List.getD_eq_getElem?_getD,List.getElem?_eq_getElem GQ];rfl] at x1;have GM:=Hs.o _ (List.getElem_mem GQ);have Hc:Hid (Kc Tryz.prog 138 #[.agg #[.string l[k].1,.string l[k].2]] wr (.bool (Zbf l[k]))):=Qdi wr _ _ (by omega) (by omega) (HL.o.below B.o);clear hcells GM
   by_cases hs:Zbf l[k]=false
   ·have Jt:Hid (∀ j (h:j<l.length),j<k+1->Zbf l[j]=false):=fun j h hj=>by
     rcases Nat.lt_or_ge j k with hh|hh
     ·exact Hp.o j h hh
     ·have e:j=k:=by omega
      subst e;exact hs
    rw[hs] at Hc;clear hs Hp;generalize l[k]=x at *;go_wp2_with fail;refine cm_ Hc.o ?_;rintro e w1 ⟨rfl,HU⟩;have B1:=bt_ B HU;clear HU Hc B x0 x1;go_wp2_with fail
    go_roundw
    case rel=>exact⟨k+1,by omega,by go_num,Jt,B1⟩
    case measure=>simp[intOf];omega
   ·have ed:Zbf l[k]=true:=by simpa using hs
    have Hz:=hd_ (EX.o k GQ ed);rw[ed] at Hc;clear hs ed Hp;generalize l[k]=x at *;go_wp2_with fail;refine cm_ Hc.o ?_;rintro e w1 ⟨rfl,HU⟩;have B1:=bt_ B HU;clear HU Hc B x0 x1;go_wp2_with fail;go_ret;exact⟨k,rfl,by omega,by rw[Hz.o];exact decide_eq_true (by omega),B1.o⟩
  ·have gu:¬ (k:Int)<m:=by omega
   have Hz:=hd_ (fG.o k (by rw[Hm.o];exact hk) Hp.o (by rw[Hm.o];omega));clear Hp;go_wp2_with fail;go_ret;exact⟨-1,rfl,by decide,by rw[Hz.o];rfl,B.o⟩
theorem Zdt(w:World)(a:OA_)(c:Nat)(l:Zdq)(hr:Rd w a (Qp l))(hl:l.length<=1000)(hs:Ssz l)(L:Qg w):
  Kc Tryz.prog 137 #[.slice a l.length c,.func (.func 138) #[] #[]] w (.bool (!Yt l)):=by
 unfold Kc;have Hi:=hd_ (Zph w a c l hr hl hs L);clear hr hl hs L;generalize Yt l=z at *;go_enter Tryz.func137,Tryz.ntmps137;go_wp2_with fail;refine cm_ Hi.o ?_;rintro e w1 ⟨i,rfl,CZ,Cf,hb⟩;have B:=hd_ hb;have Hz:=hd_ Cf;clear hb Hi Cf;go_wp2_with fail;go_ret;exact⟨by rw[<- Hz.o];rfl,B.o⟩
theorem Zp5(w:World)(a0 a1 a2:OA_)(c0 c1 c2:Nat)(ps:List Int)(ls:List Zdq)(fs:Zdq)(rp:Rd w a0 (Qw ps))(hi:Zgm ps)(Ii:ps.length<=1000000)(rl:RdL w a1 ls)(hl:ls.length<=1000)(fP:∀ l∈ls,l.length<=1000000/\Ssz l)
  (hc:Zhk ps ls=0) (rf:Rd w a2 (Qp fs)) (hf:fs.length=ls.length) (hfs:Ssz fs) (hw:Yt fs=false) (L:Qg w):Zbp 57 #[.slice a0 ps.length c0,.slice a1 ls.length c1,.slice a2 fs.length c2] w 2:=by
 unfold Zbp Kc;have H1:=hd_ (Zak w a0 a1 c0 c1 ps ls rp hi Ii rl (by omega) fP L);have H2:Hid (∀ W,Bw_ w W->Kc Tryz.prog 137 #[.slice a2 fs.length c2,.func (.func 138) #[] #[]] W (.bool true)):=fun W hW=>by
  have:=Zdt W a2 c2 fs (rf.below hW nr_) (by omega) hfs (L.below hW)
  rw[hw] at this;exact this
 rw[hc] at H1;rw[hf] at *
 clear rp hi Ii rl hl fP hc L rf hfs hw;generalize ps.length=n at *;generalize ls.length=k at *;go_enter Tryz.func57,Tryz.ntmps57;go_wp2_with fail;refine cm_ H1.o ?_;rintro e w1 ⟨rfl,HU⟩;have H6:=hd_ HU;clear HU H1;go_wp2_with fail;refine cm_ (H2.o _ H6.o) ?_;rintro e w2 ⟨rfl,H7⟩;have H9:=bt_ H6 H7;clear H7 H2 H6;go_wp2_with fail
 go_ret2
 exact⟨rfl,H9.o⟩
theorem Qau(n:Nat):∀ ls:List (List Rat),(∀ l∈ls,l.length=n/\∀ q∈l,Sm 30 q)->lgo n (ls.map (List.map qs))=0
 | [],_=>rfl
 | l::ls,h=>by
  have h1:=h l List.mem_cons_self;rw[List.map_cons,lgo,if_pos (Zec h1.2 h1.1)];exact Qau n ls fun m hm=>h m (List.mem_cons_of_mem _ hm)
theorem Zri{ps:List Int}(hp:Vd ps=0){ls:List (List Rat)}(h:∀ l∈ls,l.length=ps.length/\∀ q∈l,Sm 30 q):Zhk ps (ls.map (List.map qs))=0:=by
 unfold Zhk;rw[if_pos hp];exact Qau _ ls h
open Classical in
theorem Zoh(l:List Rat)(h:∀ q∈l,Sm 400 q):Yt (l.map qs)=true:=by
 unfold Yt;rw[List.all_eq_true];intro x hx;obtain⟨q,hq,rfl⟩:=List.mem_map.1 hx;exact decide_eq_true ⟨q,rfl,rfl,h q hq⟩
def Zex (f:FuncId) (args:Array Value) (w:World) (l:List Rat):Prop:=if Vb l=true then
  Calls Tryz.prog f args w fun e w'=>∃ a c,e = .returned (.tuple #[.slice a l.length c,.int .i64 0])/\Rd w' a (Km l)/\Bw_ w w'
 else Zbp f args w 4
theorem Zfz(w:World)(a0 a1 a2:OA_)(c0 c1 c2:Nat)(ps:List Int)(ls:List (List Rat))(fs:List Rat)(rp:Rd w a0 (Qw ps))(hi:Zgm ps)(hp:Vd ps=0)(rl:RdL w a1 (ls.map (List.map qs)))(hl:ls.length<=100)
  (h:∀ l∈ls,l.length=ps.length/\∀ q∈l,Sm 30 q) (rf:Rd w a2 (Km fs)) (hf:fs.length=ls.length) (hfs:∀ q∈fs,Sm 400 q) (L:Qg w) :
  Zex 57 #[.slice a0 ps.length c0,.slice a1 ls.length c1,.slice a2 fs.length c2] w (Zao ps.length ls fs):=by
 have hn:=Zhb hp;have H1:=hd_ (Zak w a0 a1 c0 c1 ps (ls.map (List.map qs)) rp hi (by omega) rl (by rw[List.length_map];omega) (by
  intro l hl';obtain⟨m,hm,rfl⟩:=List.mem_map.1 hl';exact⟨by rw[List.length_map,(h m hm).1];omega,Zmc (h m hm).2⟩) L)
 rw[Zri hp h,List.length_map] at H1;have H2:Hid (∀ W,Bw_ w W->Kc Tryz.prog 137 #[.slice a2 fs.length c2,.func (.func 138) #[] #[]] W (.bool false)):=fun W hW=>by
  have:=Zdt W a2 c2 (fs.map qs) (rf.below hW nr_) (by rw[List.length_map];omega) (fun x hx=>by
   obtain⟨q,hq,rfl⟩:=List.mem_map.1 hx;have h1:=Zk5 q.num 400 (by decide) (hfs q hq).1;have h2:=(Yz q.den 400 (by decide)).2 (hfs q hq).2;exact⟨by show (itx q.num).size<=_;omega,by show (dec q.den).size<=_;omega⟩) (L.below hW)
  rw[Zoh fs hfs,List.length_map] at this;exact this
 have H3:Hid (∀ W,Bw_ w W->Zdh 141 #[.int .i64 ps.length,.slice a1 ls.length c1,.slice a2 fs.length c2] W (Zao ps.length ls fs)):=fun W hW =>
  Zkc W a1 a2 c1 c2 ps.length ls fs 30 400 (rl.below hW nr_) (rf.below hW nr_) (fun l hl'=>(h l hl').1) hf (fun l hl'=>(h l hl').2) hfs (by omega) (by omega) (by
   have:(ls.length+1)*(30+400+1)<=101*(30+400+1):=Nat.mul_le_mul_right _ (by omega)
   omega) (L.below hW)
 have lG:=Zcg ps.length ls fs (fun l hl'=>(h l hl').1) hf;have H4:Hid (∀ W a c,Rd W a (Km (Zao ps.length ls fs))->Vb (Zao ps.length ls fs)=true->Kc Tryz.prog 140 #[.slice a (Zao ps.length ls fs).length c] W (.tuple #[.slice a (Zao ps.length ls fs).length c,.int .i64 0])):=fun W a c hr hs=>Zoj W a c _ hr (by omega) hs
 have H5:Hid (∀ W a c,Rd W a (Km (Zao ps.length ls fs))->Vb (Zao ps.length ls fs)=false->Kc Tryz.prog 140 #[.slice a (Zao ps.length ls fs).length c] W (.tuple #[.slice none 0 0,.int .i64 4])):=fun W a c hr hs=>Zoi W a c _ hr (by omega) hs
 unfold Zdh at H3;clear rp hi hp rl hl h rf hfs L hn lG;rw[hf] at *
 generalize Zao ps.length ls fs=S at *;generalize ps.length=n at *;generalize ls.length=k at *;unfold Zex Zbp Kc
 by_cases hs:Vb S=true
 ·rw[if_pos hs];have Hs:=hd_ hs;clear H5 hs;go_enter Tryz.func57,Tryz.ntmps57;go_wp2_with fail;refine cm_ H1.o ?_;rintro e w1 ⟨rfl,HU⟩;have H6:=hd_ HU;clear HU H1;go_wp2_with fail;refine cm_ (H2.o _ H6.o) ?_;rintro e w2 ⟨rfl,H7⟩;have H9:=bt_ H6 H7;clear H7 H2 H6;go_wp2_with fail;refine cm_ (H3.o _ H9.o) ?_;rintro e w3 ⟨a,c,rfl,ho,hb3⟩;have gk:=bt_ H9 hb3;have Hr:=hd_ ho.rd;clear hb3 H3 H9 ho;go_wp2_with fail;refine cm_ (H4.o _ _ _ Hr.o Hs.o) ?_;rintro e w4 ⟨rfl,gz⟩;have gq:=bt_ gk gz;have Jq:=hd_ (Hr.o.below gz nr_);clear gz H4 gk Hr;go_wp2_with fail
  go_ret2
  exact⟨a,c,rfl,Jq.o,gq.o⟩
 ·rw[if_neg hs];have Hs:Hid (Vb S=false):=by show _=_;simpa using hs
  clear H4 hs;go_enter Tryz.func57,Tryz.ntmps57;go_wp2_with fail;refine cm_ H1.o ?_;rintro e w1 ⟨rfl,HU⟩;have H6:=hd_ HU;clear HU H1;go_wp2_with fail;refine cm_ (H2.o _ H6.o) ?_;rintro e w2 ⟨rfl,H7⟩;have H9:=bt_ H6 H7;clear H7 H2 H6;go_wp2_with fail;refine cm_ (H3.o _ H9.o) ?_;rintro e w3 ⟨a,c,rfl,ho,hb3⟩;have gk:=bt_ H9 hb3;have Hr:=hd_ ho.rd;clear hb3 H3 H9 ho;go_wp2_with fail;refine cm_ (H5.o _ _ _ Hr.o Hs.o) ?_;rintro e w4 ⟨rfl,gz⟩;have gq:=bt_ gk gz;clear gz H5 gk Hr;go_wp2_with fail
  go_ret2
  exact⟨rfl,gq.o⟩
def Zap (nu:Nat->Int) (de:Nat->Nat):Array Value := #[.int .i8 (nu 0),.int .u8 (de 0),.int .i8 (nu 1),.int .u8 (de 1),.int .i8 (nu 2),.int .u8 (de 2),.int .i8 (nu 3),.int .u8 (de 3)]
def Zaq (nu:Nat->Int) (de:Nat->Nat) (m:Nat):List Rat:=(List.range m).map fun i=>Zih (nu i) (de i)
theorem Zar(nu:Nat->Int)(de:Nat->Nat)(m:Nat):(Zaq nu de m).length=m:=by simp[Zaq]
theorem Zor(nu:Nat->Int)(de:Nat->Nat)(m:Nat):Zaq nu de (m+1)=Zaq nu de m++[Zih (nu m) (de m)]:=by simp[Zaq,List.range_succ]
theorem Zoq{w:World}{g:Nat}{nu:Nat->Int}{de:Nat->Nat}{t:TypeId}(h:w.heap[g]?=some (.cells (Zap nu de) t (0,0)))(k:Nat)(hk:k<4):
  w.cell? ⟨g,k*2,none⟩=some (.int .i8 (nu k))/\w.cell? ⟨g,k*2+1,none⟩=some (.int .u8 (de k)):=by
 have h4:k=0\/k=1\/k=2\/k=3:=by omega
 rcases h4 with rfl|rfl|rfl|rfl<;>exact⟨by rw[cell_of_row w g _ _ t (0,0) h];rfl,by rw[cell_of_row w g _ _ t (0,0) h];rfl⟩
theorem Zq3{w:World}{B c:Nat}{a:OA_}{l:List Rat}(h:Zbc w B a c l):w.ownsRow B 101 2 (.slice a l.length c) l.length (Km l):=by
 have:w.ownsRow B 101 2 (.slice a (l.map qs).length c) (l.map qs).length (Qp (l.map qs)):=h
 rw[List.length_map] at this;exact this
theorem Zq2{w:World}{B c:Nat}{a:OA_}{l:List Rat}(h:w.ownsRow B 101 2 (.slice a l.length c) l.length (Km l)):Zbc w B a c l:=by
 show w.ownsRow B 101 2 (.slice a (l.map qs).length c) (l.map qs).length (Qp (l.map qs))
 rw[List.length_map];exact h
theorem Zrc(w:World)(a0:OA_)(c0 m:Nat)(hm:m<=4)(nu:Nat->Int)(de:Nat->Nat)(hn:∀ k,-128<=nu k/\nu k<=127)(hd:∀ k,de k<256)(L:Qg w):
  Calls Tryz.prog 43 #[.slice a0 m c0,.agg (Zap nu de)] w fun e w'=>∃ a c,e = .returned (.slice a m c)/\Zbc w' w.heap.size a c (Zaq nu de m)/\Bw_ w w':=by
 have HF:Hid (∀ W k,Bw_ w W->Kc Tryz.prog 108 #[.agg #[.int .i8 (nu k),.int .u8 (de k)]] W (fr (Zih (nu k) (de k)))):=fun W k hW=>Zm8 W (nu k) (de k) (hn k) (hd k) (L.below hW)
 unfold fr fv at HF;have B0:=hd_ (((Below.refl w.heap.size w).alloc nr_ (.cells (Zap nu de) 26)).alloc (by simp) (.cells #[] 101));have K0:=hd_ (Kj (Qe w (Zap nu de) 26 _ rfl) (.cells #[] 101));have O0:Hid (Zbc ((w.alloc (.cells (Zap nu de) 26)).alloc (.cells #[] 101)) (w.heap.size+1) (some ⟨w.heap.size+1,0,none⟩) 0 (Zaq nu de 0)):=by
  have:=Zmu (w.alloc (.cells (Zap nu de) 26)) [] (by simp)
  rw[World.size_alloc] at this;exact this
 have oZ:Hid (Zap nu de = #[.int .i8 (nu 0),.int .u8 (de 0),.int .i8 (nu 1),.int .u8 (de 1),.int .i8 (nu 2),.int .u8 (de 2),.int .i8 (nu 3),.int .u8 (de 3)]):=hd_ rfl;clear L hn hd;unfold Zap at *
 go_enter Tryz.func43,Tryz.ntmps43;go_wp2_with fail;generalize (w.alloc (.cells #[.int .i8 (nu 0),.int .u8 (de 0),.int .i8 (nu 1),.int .u8 (de 1),.int .i8 (nu 2),.int .u8 (de 2),.int .i8 (nu 3),.int .u8 (de 3)] 26)).alloc (.cells #[] 101)=W0 at *
 go_loopw [5,6] (fun o i wr=>∃ (k:Nat) (b:OA_) (d:Nat),k<=m/\i = .int .i64 k/\o = .slice b k d/\Hid (wr.heap[w.heap.size]?=some (.cells #[.int .i8 (nu 0),.int .u8 (de 0),.int .i8 (nu 1),.int .u8 (de 1),.int .i8 (nu 2),.int .u8 (de 2),.int .i8 (nu 3),.int .u8 (de 3)] 26 (0,0)))/\Hid (Zbc wr (w.heap.size+1) b d (Zaq nu de k))/\Hid (Bw_ w wr)) (fun _ i _=>m-(intOf i).toNat)
 case atStart=>exact⟨0,_,_,Nat.zero_le _,rfl,rfl,K0,O0,B0⟩
 case round =>
  clear B0 K0 O0;obtain⟨k,b,d,hk,rfl,rfl,K,O,B⟩:=hrel
  by_cases gd:k<m
  ·have gu:(k:Int)<m:=by omega
   have et:Int.tmod (k:Int) 4=k:=by rw[Int.tmod_eq_emod_of_nonneg (by omega)];omega
   obtain⟨x0,x1⟩:=Zoq (nu:=nu) (de:=de) K.o k (by omega);have ov:(0:Int)<=k/\(k:Int)<4:=⟨by omega,by omega⟩;have Hf:=hd_ (HF.o wr k B.o);have Hs:=hd_ (Zor nu de k);generalize Zih (nu k) (de k)=q at *;generalize nu k=z at *;generalize de k=y at *;go_wp2_with fail;refine cm_ Hf.o ?_;rintro e w1 ⟨rfl,HU⟩;have GM:=(Array.getElem?_eq_some_iff.1 K.o).1;have B1:=bt_ B HU;have K1:=hk_ K HU;have O1:=hd_ (O.o.below HU nr_);have S1:=hd_ (Nat.le_trans GM HU.size);clear HU Hf B K O x0 x1 GM;have Ow:Hid (w1.ownsRow (w.heap.size+1) 101 2 (.slice b k d) k (Km (Zaq nu de k))):=by
    have:=Zq3 O1.o
    rw[Zar] at this;exact this
   go_wp2_with (at_builtin;refine Kz rfl (.tmp 14) (.tmp 20) 35 rfl elQ _ 1 [.string (itx q.num),.string (dec q.den)] rfl rfl Ow.o S1.o rfl (by simp[Value.oneCell']) (by omega) (by omega) ?_)
   intro v' w3 gn hg3 hnil3;have Gn:∀ j,j<w.heap.size+1->w3.heap[j]?=w1.heap[j]?:=fun j hj=>by
    have Ez:=S1.o;have dl:j<w1.heap.size:=by omega
    rw[hg3.block j (by simp;omega) (fun e=>by have:=(Ow.o.lt j e.symm).1;omega)];exact((Below.refl w1.heap.size w1).alloc nr_ _).block j dl
   have K3:Hid (w3.heap[w.heap.size]?=some (.cells #[.int .i8 (nu 0),.int .u8 (de 0),.int .i8 (nu 1),.int .u8 (de 1),.int .i8 (nu 2),.int .u8 (de 2),.int .i8 (nu 3),.int .u8 (de 3)] 26 (0,0))):=by
    show _=_
    rw[Gn _ (by omega)];exact K1.o
   have B3:Hid (Bw_ w w3):=(B1.o.alloc B1.o.size _).grown hg3 (by simp;have:=B1.o.size;omega) (fun j hj=>by have:=(Ow.o.lt j hj).1;omega);obtain⟨b3,d3,rfl⟩:=Vk gn;have O3:Hid (Zbc w3 (w.heap.size+1) b3 d3 (Zaq nu de (k+1))):=by
    refine Zq2 ?_;rw[Zar,Hs.o];unfold Km;rw[List.map_append,Zlr];exact gn
   clear gn hg3 hnil3 Gn B1 K1 O1 S1 Ow;go_wp2_with fail
   go_roundw
   case rel=>exact⟨k+1,b3,d3,by omega,by go_num,rfl,K3,O3,B3⟩
   case measure=>simp[intOf];omega
  ·have gu:¬ (k:Int)<m:=by omega
   have MN:k=m:=by omega
   subst MN;go_wp2_with fail;go_ret;exact⟨b,d,rfl,O.o.lower (by omega),B.o⟩
def Zbq (f:FuncId) (args:Array Value) (w:World) (code:Int) (l:List Rat):Prop :=
 Calls Tryz.prog f args w fun e w'=>∃ a c,e = .returned (.tuple #[.slice a (if code=0 then l.length else 0) c,.int .i64 code])/\(code=0->Rd w' a (Km l))/\Bw_ w w'
def Zc8 (l:List Rat):Int:=if Vb l=true then 0 else 4
theorem Zex.code{f:FuncId}{args:Array Value}{w:World}{l:List Rat}(h:Zex f args w l):Zbq f args w (Zc8 l) l:=by
 unfold Zex at h;unfold Zbq Zc8
 by_cases hs:Vb l=true
 ·rw[if_pos hs] at h ⊢;refine cm_ h ?_;rintro e w' ⟨a,c,rfl,hr,hb⟩;exact⟨a,c,rfl,fun _=>hr,hb⟩
 ·rw[if_neg hs] at h ⊢;refine cm_ h ?_;rintro e w' ⟨rfl,hb⟩;exact⟨none,0,rfl,fun h4=>absurd h4 (by decide),hb⟩
theorem Zbp.code{f:FuncId}{args:Array Value}{w:World}{code:Int}(hc:code≠0)(l:List Rat)(h:Zbp f args w code):Zbq f args w code l:=by
 unfold Zbq;rw[if_neg hc];refine cm_ h ?_;rintro e w' ⟨rfl,hb⟩;exact⟨none,0,rfl,fun h4=>absurd h4 hc,hb⟩
theorem Zbq.lower{f:FuncId}{args:Array Value}{w:World}{code:Int}{l:List Rat}(h:Zbq f args w code l):∃ z:Nat,Calls Tryz.prog f args w fun e w'=>∃ a c,e = .returned (.tuple #[.slice a z c,.int .i64 code])/\(code=0->Rd w' a (Km l))/\Bw_ w w':=⟨_,h⟩
theorem Qc3(w:World)(ps:List Int)(a0 a1 a2:OA_)(c0 c1 c2:Nat)(la lb:List Rat)(rp:Rd w a0 (Qw ps))(hi:Zgm ps)(hp:Vd ps=0)(r1:Rd w a1 (Km la))(r2:Rd w a2 (Km lb))(l1:la.length=ps.length)(l2:lb.length=ps.length)
  (s1:∀ q∈la,Sm 30 q) (s2:∀ q∈lb,Sm 30 q) (L:Qg w) :
  Zbq 40 #[.slice a0 ps.length c0,.slice a1 la.length c1,.slice a2 lb.length c2] w (Zc8 (Zao ps.length [la,lb] [1,((1:Int):Rat)])) (Zao ps.length [la,lb] [1,((1:Int):Rat)]):=by
 obtain⟨u,hu⟩:∃ q:Rat,q=1:=⟨_,rfl⟩;obtain⟨v,hv⟩:∃ q:Rat,q=((1:Int):Rat):=⟨_,rfl⟩;rw[<- hv,<- hu];have Hc:Hid (∀ W g1 g2,Bw_ w W->W.heap[g1]?=some (.cells #[.slice a1 la.length c1,.slice a2 lb.length c2] 35 (0,0))->W.heap[g2]?=some (.cells #[.string (itx u.num),.string (dec u.den),.string (itx v.num),.string (dec v.den)] 101 (0,0)) ->
   Zbq 57 #[.slice a0 ps.length c0,.slice (some ⟨g1,0,none⟩) 2 2,.slice (some ⟨g2,0,none⟩) 2 2] W (Zc8 (Zao ps.length [la,lb] [u,v])) (Zao ps.length [la,lb] [u,v])):=fun W g1 g2 hW h1 h2 =>
  (Zfz W a0 _ _ c0 2 2 ps [la,lb] [u,v] (rp.below hW nr_) hi hp (Zkq (l1:=la.map qs) (l2:=lb.map qs) (by rw[List.length_map,List.length_map];exact h1) (r1.below hW nr_) (r2.below hW nr_)) (by simp)
   (by intro l hl;simp only[List.mem_cons,List.not_mem_nil,or_false] at hl;rcases hl with rfl | rfl;exact⟨l1,s1⟩;exact⟨l2,s2⟩) (Zbj h2) rfl
   (by intro q hq;simp only[List.mem_cons,List.not_mem_nil,or_false] at hq;rcases hq with rfl | rfl;subst hu;exact Sm.le (D:=1) ⟨by decide +kernel,by decide +kernel⟩ (by decide);subst hv;exact Sm.le (D:=2) ⟨by decide +kernel,by decide +kernel⟩ (by decide)) (L.below hW)).code
 have N1:Hid (∀ W,Bw_ w W->Kc Tryz.prog 58 #[.int .i64 1] W (fr u)):=fun W hW=>by subst hu;exact Zov W 1 (by decide) (by decide) (L.below hW)
 have N2:Hid (∀ W,Bw_ w W->Kc Tryz.prog 58 #[.int .i64 1] W (fr v)):=fun W hW=>by subst hv;exact Zov W 1 (by decide) (by decide) (L.below hW)
 unfold fr fv at N1 N2;unfold Zbq at Hc ⊢;clear hu hv rp hi hp r1 r2 l1 l2 s1 s2 L;generalize Zao ps.length [la,lb] [u,v]=S at *;generalize Zc8 S=code at *;generalize (if code=0 then S.length else 0)=z at *;generalize ps.length=n at *;generalize la.length=na at *;generalize lb.length=nb at *;have B0:=hd_ ((Below.refl w.heap.size w).alloc nr_ (.cells #[.slice a1 na c1,.slice a2 nb c2] 35));have K0:=hd_ (Qe w #[.slice a1 na c1,.slice a2 nb c2] 35 _ rfl);go_enter Tryz.func40,Tryz.ntmps40;go_wp2_with fail;generalize w.alloc (.cells #[.slice a1 na c1,.slice a2 nb c2] 35)=w0 at *;refine cm_ (N1.o _ B0.o) ?_;rintro e w1 ⟨rfl,hb⟩;have B1:=bt_ B0 hb;have K1:=hk_ K0 hb;clear hb B0 K0;go_wp2_with fail;refine cm_ (N2.o _ B1.o) ?_;rintro e w2 ⟨rfl,hb⟩;have B2:=bt_ B1 hb;have K2:=hk_ K1 hb;clear hb B1 K1 N1 N2;go_wp2_with fail;have B3:=hd_ (B2.o.alloc B2.o.size (.cells #[.string (itx u.num),.string (dec u.den),.string (itx v.num),.string (dec v.den)] 101));have K3:=hd_ (Kj K2.o (.cells #[.string (itx u.num),.string (dec u.den),.string (itx v.num),.string (dec v.den)] 101));have M3:=hd_ (Qe w2 #[.string (itx u.num),.string (dec u.den),.string (itx v.num),.string (dec v.den)] 101 _ rfl);generalize w2.alloc (.cells #[.string (itx u.num),.string (dec u.den),.string (itx v.num),.string (dec v.den)] 101)=w3 at *;refine cm_ (Hc.o _ _ _ B3.o K3.o M3.o) ?_;rintro e w4 ⟨a,c,rfl,hr,hb⟩;have Hr:=hd_ hr;have B4:=bt_ B3 hb;clear hr hb Hc B2 K2 B3 K3 M3;go_wp2_with fail
 go_ret2
 exact⟨a,c,rfl,Hr.o,B4.o⟩
noncomputable def Zc9 (n:Nat) (la:List Rat) (s t:ByteArray):Int:=open Classical in if h:IsQ s t then Zc8 (Zao n [la] [h.choose]) else 2
noncomputable def Zmk (n:Nat) (la:List Rat) (s t:ByteArray):List Rat:=open Classical in if h:IsQ s t then Zao n [la] [h.choose] else []
theorem Zva(w:World)(ps:List Int)(a0 a1:OA_)(c0 c1:Nat)(la:List Rat)(s t:ByteArray)(rp:Rd w a0 (Qw ps))(hi:Zgm ps)(hp:Vd ps=0)(r1:Rd w a1 (Km la))(l1:la.length=ps.length)
  (s1:∀ q∈la,Sm 30 q) (hs:s.size<=1000000) (ht:t.size<=1000000) (L:Qg w) :
  Zbq 117 #[.slice a0 ps.length c0,.slice a1 la.length c1,.agg #[.string s,.string t]] w (Zc9 ps.length la s t) (Zmk ps.length la s t):=by
 have Hc:Hid (∀ W g1 g2,Bw_ w W->W.heap[g1]?=some (.cells #[.slice a1 la.length c1] 35 (0,0))->W.heap[g2]?=some (.cells #[.string s,.string t] 101 (0,0)) ->
   Zbq 57 #[.slice a0 ps.length c0,.slice (some ⟨g1,0,none⟩) 1 1,.slice (some ⟨g2,0,none⟩) 1 1] W (Zc9 ps.length la s t) (Zmk ps.length la s t)):=fun W g1 g2 hW h1 h2=>by
  have rl:RdL W (some ⟨g1,0,none⟩) ([la].map (List.map qs)):=Zkr (l1:=la.map qs) (by rw[List.length_map];exact h1) (r1.below hW nr_);have GI:∀ l∈[la],l.length=ps.length/\∀ q∈l,Sm 30 q:=by intro l hl;simp only[List.mem_cons,List.not_mem_nil,or_false] at hl;subst hl;exact⟨l1,s1⟩
  have hn:=Zhb hp;unfold Zc9 Zmk
  by_cases h:IsQ s t
  ·rw[dif_pos h,dif_pos h];have Mz:=h.choose_spec;generalize h.choose=k at *;obtain⟨rfl,rfl,hk⟩:=Mz;exact(Zfz W a0 _ _ c0 1 1 ps [la] [k] (rp.below hW nr_) hi hp rl (by simp) GI (Zbj h2) rfl
    (by intro q hq;simp only[List.mem_cons,List.not_mem_nil,or_false] at hq;subst hq;exact hk) (L.below hW)).code
  ·rw[dif_neg h,dif_neg h];refine(Zp5 W a0 _ _ c0 1 1 ps ([la].map (List.map qs)) [(s,t)] (rp.below hW nr_) hi (by omega) rl (by simp) (by
    intro l hl;simp only[List.map_cons,List.map_nil,List.mem_cons,List.not_mem_nil,or_false] at hl;subst hl;exact⟨by rw[List.length_map];omega,Zmc s1⟩) (Zri hp GI) (Zbj h2) rfl (by
    intro x hx;simp only[List.mem_cons,List.not_mem_nil,or_false] at hx;subst hx;exact⟨hs,ht⟩) (by unfold Yt;simp[h]) (L.below hW)).code (by decide) []
 unfold Zbq at Hc ⊢;clear rp hi hp r1 l1 s1 hs ht L;generalize Zmk ps.length la s t=S at *;generalize Zc9 ps.length la s t=code at *;generalize (if code=0 then S.length else 0)=z at *;generalize ps.length=n at *;generalize la.length=na at *;have B0:=hd_ ((Below.refl w.heap.size w).alloc nr_ (.cells #[.string s,.string t] 101));have N0:=hd_ (Qe w #[.string s,.string t] 101 _ rfl);go_enter Tryz.func117,Tryz.ntmps117;obtain⟨k0,k1,-,-⟩:=Ka N0.o;go_wp2_with fail;have B1:=hd_ (B0.o.alloc B0.o.size (.cells #[.slice a1 na c1] 35));have B2:=hd_ (B1.o.alloc B1.o.size (.cells #[.string s,.string t] 101));have z1:(w.alloc (.cells #[.string s,.string t] 101)).heap.size=w.heap.size+1:=by show (w.heap.push _).size=_;exact Array.size_push ..
 have z2:((w.alloc (.cells #[.string s,.string t] 101)).alloc (.cells #[.slice a1 na c1] 35)).heap.size=w.heap.size+1+1:=by rw[<- z1];show ((w.alloc _).heap.push _).size=_;exact Array.size_push ..
 refine cm_ (Hc.o _ _ _ B2.o (Kj (Qe _ _ _ _ z1) _) (Qe _ _ _ _ z2)) ?_;rintro e w5 ⟨a5,c5,rfl,hr,hb⟩;have Hr:=hd_ hr;have B3:=bt_ B2 hb;clear hr hb z1 z2 Hc;go_wp2_with fail
 go_ret2
 exact⟨a5,c5,rfl,Hr.o,B3.o⟩
end Go.Proofs.YtbielfplgbammaaGreatDoor

namespace Go.Proofs.YtbielfplgbammaaGreatDoor
open Go.RowKit Go.Proofs.YtbielfplgbammaaGreatDoor.RP
def Ki (la lb:List Rat) (k m:Rat):List Rat:=List.zipWith (fun x y=>x*k+y*m) la lb
theorem Qf(la lb:List Rat)(k m:Rat)(h:la.length=lb.length):(Ki la lb k m).length=la.length:=by simp[Ki,h]
end Go.Proofs.YtbielfplgbammaaGreatDoor

namespace Go.Proofs.YtbielfplgbammaaGreatDoor
open Go.RowKit
theorem Zke(n:Nat)(la lb:List Rat)(f g:Rat)(h1:la.length=n)(h2:lb.length=n):Zao n [la,lb] [f,g]=Ki la lb f g:=by
 show Zc0 (Zc0 (List.replicate n 0) la f) lb g=_
 refine List.ext_getElem (by simp[Zc0,Ki,h1,h2]) fun i CZ Cf=>?_
 simp only[Zc0,Ki,List.getElem_zipWith,List.getElem_replicate,Rat.zero_add]
theorem Zg1(n:Nat)(la:List Rat)(f:Rat)(h1:la.length=n):Zao n [la] [f]=Ki la la f 0:=by
 show Zc0 (List.replicate n 0) la f=_
 refine List.ext_getElem (by simp[Zc0,Ki,h1]) fun i CZ Cf=>?_
 simp only[Zc0,Ki,List.getElem_zipWith,List.getElem_replicate,Rat.zero_add,Rat.mul_zero,Rat.add_zero]
theorem Zzg(n:Int)(d:Nat):Sm 2 (Zih n d):=by
 have t1:=Int.tmod_lt_of_pos n (show (0:Int)<41 by decide);have t2:=Int.lt_tmod_of_pos n (show (0:Int)<41 by decide);have hd:=Zr4 (d%6);exact Sm.mk' (by omega) (by show _<100;omega) (by show _<100;omega)
theorem Zmr(nu:Nat->Int)(de:Nat->Nat)(m:Nat):∀ q∈Zaq nu de m,Sm 2 q:=by
 intro q hq;obtain⟨i,_,rfl⟩:=List.mem_map.1 hq;exact Zzg _ _
theorem Zp6{la lb:List Rat}{f g:Rat}{D E F G:Nat}(h1:∀ q∈la,Sm D q)(h2:∀ q∈lb,Sm E q)(hf:Sm F f)(hg:Sm G g):∀ q∈Ki la lb f g,Sm ((D+F)+(E+G)+1) q:=by
 intro q hq;obtain⟨i,hi,rfl⟩:=List.mem_iff_getElem.1 hq;simp only[Ki,List.getElem_zipWith];have DJ:i<la.length/\i<lb.length:=by simp[Ki] at hi;omega
 exact Sm.add (Sm.mul (h1 _ (List.getElem_mem DJ.1)) hf) (Sm.mul (h2 _ (List.getElem_mem DJ.2)) hg)
theorem Zob{l:List Rat}{D:Nat}(h:∀ q∈l,Sm D q)(hD:D<=30):Vb l=true:=by
 unfold Vb;rw[List.all_eq_true];intro q hq;exact decide_eq_true ((h q hq).le hD)
theorem Qai:Sm 1 (1:Rat):=⟨by decide +kernel,by decide +kernel⟩
theorem Zkg(la lb:List Rat)(g:Rat)(h1:∀ q∈la,Sm 2 q)(h2:∀ q∈lb,Sm 2 q)(hg:Sm 1 g):Zc8 (Ki la lb 1 g)=0:=by
 unfold Zc8;rw[if_pos (Zob (Zp6 h1 h2 Qai hg) (by decide))]
end Go.Proofs.YtbielfplgbammaaGreatDoor

namespace Go.Proofs.YtbielfplgbammaaGreatDoor
open Go.RowKit Go.Proofs.YtbielfplgbammaaGreatDoor.RP
structure Zgn (w:World) (ps:List Int) (la lb:List Rat) (s t:ByteArray):Prop where
 hi:Zgm ps
 hp:Vd ps=0
 l1:la.length=ps.length
 l2:lb.length=ps.length
 s1:∀ q∈la,Sm 2 q
 s2:∀ q∈lb,Sm 2 q
 hs:s.size<=45
 ht:t.size<=45
 L:Qg w
theorem Zgn.add{w W:World}{ps:List Int}{la lb:List Rat}{s t:ByteArray}(H:Zgn w ps la lb s t)(hW:Bw_ w W){a0 a1 a2:OA_}(c0 c1 c2:Nat)(rp:Rd W a0 (Qw ps))(r1:Rd W a1 (Km la))(r2:Rd W a2 (Km lb)):
  Calls Tryz.prog 40 #[.slice a0 ps.length c0,.slice a1 ps.length c1,.slice a2 ps.length c2] W fun e w'=>∃ a c,e = .returned (.tuple #[.slice a ps.length c,.int .i64 0])/\Rd w' a (Km (Ki la lb 1 1))/\Bw_ W w':=by
 have h:=Qc3 W ps a0 a1 a2 c0 c1 c2 la lb rp H.hi H.hp r1 r2 H.l1 H.l2 (fun q hq=>(H.s1 q hq).le (by decide)) (fun q hq=>(H.s2 q hq).le (by decide)) (H.L.below hW);rw[show (((1:Int):Rat))=1 from rfl,Zke _ _ _ _ _ H.l1 H.l2,Zkg la lb 1 H.s1 H.s2 Qai,H.l1,H.l2] at h;unfold Zbq at h;rw[if_pos rfl,Qf _ _ _ _ (H.l1.trans H.l2.symm),H.l1] at h;refine cm_ h ?_;rintro e w' ⟨a,c,rfl,hr,hb⟩;exact⟨a,c,rfl,hr rfl,hb⟩
theorem Zgn.scale{w W:World}{ps:List Int}{la lb:List Rat}{s t:ByteArray}(H:Zgn w ps la lb s t)(hW:Bw_ w W){a0 a1:OA_}(c0 c1:Nat)(rp:Rd W a0 (Qw ps))(r1:Rd W a1 (Km la)):
  Zbq 117 #[.slice a0 ps.length c0,.slice a1 ps.length c1,.agg #[.string s,.string t]] W (Zc9 ps.length la s t) (Zmk ps.length la s t):=by
 have hs:=H.hs;have ht:=H.ht;have h:=Zva W ps a0 a1 c0 c1 la s t rp H.hi H.hp r1 H.l1 (fun q hq=>(H.s1 q hq).le (by decide)) (by omega) (by omega) (H.L.below hW);rw[H.l1] at h;exact h
end Go.Proofs.YtbielfplgbammaaGreatDoor

namespace Go.Proofs.YtbielfplgbammaaGreatDoor
open Go.ChangeShapes Go.WideShapes Go.ChangeAt Go.RowKit Go.Joins
theorem Znr:Tryz.prog.cellsOf 24=2:=by kernel_rfl
theorem Zt7:Tryz.prog.cellsOf 26=8:=by kernel_rfl
theorem Qcv:Tryz.prog.cellsOf 22=1:=by kernel_rfl
theorem Qcu:Tryz.prog.cellsOf 5=1:=by kernel_rfl
section
variable {H:Type} {enc:TypeId×Value->H} {W:World}
theorem Zeh{base fuel:Nat}{sp:Nat->Bool}{held:Bool}{cs:List Value}{x:DataW H×List MemPlace}(h:DataW.trod enc Tryz.prog W base sp held fuel 24 cs=some x):
  ∃ (n:Int) (d:Nat),cs=[.int .i8 n,.int .u8 d]/\(-128<=n/\n<=127)/\d<256:=by
 obtain⟨y0,y1,n,hx,hl,h0,h1⟩:=trod_struct2 Tryz.underlying24 h;rw[Znr] at hl
 match cs,hl with
 | [c0,c1],_ =>
  simp only[List.drop_zero,List.drop_succ_cons,Qcv,Qcu,List.take_succ_cons,List.take_zero] at h0 h1;obtain⟨a,ha,_,wa⟩:=DataW.trod_int Tryz.underlying22 h0;obtain⟨b,hb,_,wb⟩:=DataW.trod_int Tryz.underlying5 h1;have b1:=bounds_i8 wa;have b2:=bounds_u8 wb;simp only[List.cons.injEq,and_true] at ha hb;refine⟨a,b.toNat,?_,b1,by omega⟩;rw[ha,hb,show ((b.toNat:Nat):Int)=b by omega]
def Qgj {α:Type} (a b c d z : α):Nat -> α
 | 0=>a | 1=>b | 2=>c | 3=>d | _=>z
theorem Zta{base fuel:Nat}{sp:Nat->Bool}{held:Bool}{cs:List Value}{x:DataW H×List MemPlace}(h:DataW.trod enc Tryz.prog W base sp held fuel 26 cs=some x):
  ∃ (nu:Nat->Int) (de:Nat->Nat),cs=(Zap nu de).toList/\(∀ k,-128<=nu k/\nu k<=127)/\(∀ k,de k<256):=by
 obtain⟨xs,m,_,_,hl,hn,hel⟩:=DataW.trod_array Tryz.underlying26 h;rw[Zt7] at hl
 match cs,hl,xs,hn with
 | [c0,c1,c2,c3,c4,c5,c6,c7],_,[x0,x1,x2,x3],_ =>
  have e0:=hel 0 (by decide);have e1:=hel 1 (by decide);have e2:=hel 2 (by decide);have e3:=hel 3 (by decide);simp only[Znr,Nat.zero_mul,Nat.one_mul,Nat.reduceMul,List.drop_zero,List.drop_succ_cons,List.take_succ_cons,List.take_zero] at e0 e1 e2 e3;obtain⟨n0,d0,q0,b0,b0'⟩:=Zeh e0;obtain⟨n1,d1,q1,b1,b1'⟩:=Zeh e1;obtain⟨n2,d2,q2,b2,b2'⟩:=Zeh e2;obtain⟨n3,d3,q3,b3,b3'⟩:=Zeh e3;simp only[List.cons.injEq,and_true] at q0 q1 q2 q3;refine⟨Qgj n0 n1 n2 n3 0,Qgj d0 d1 d2 d3 0,?_,?_,?_⟩
  ·rw[q0.1,q0.2,q1.1,q1.2,q2.1,q2.2,q3.1,q3.2];rfl
  ·intro k
   match k with
   | 0=>exact b0
   | 1=>exact b1
   | 2=>exact b2
   | 3=>exact b3
   | k+4=>exact⟨by show -128<=(0:Int);decide,by show (0:Int)<=127;decide⟩
  ·intro k
   match k with
   | 0=>exact b0'
   | 1=>exact b1'
   | 2=>exact b2'
   | 3=>exact b3'
   | k+4=>show 0<256;decide
end
end Go.Proofs.YtbielfplgbammaaGreatDoor

namespace Go.Proofs.YtbielfplgbammaaGreatDoor
open Go.ChangeShapes Go.WideShapes Go.ChangeAt Go.RowKit Go.Joins
section
variable {H:Type} {enc:TypeId×Value->H} {W:World}
theorem Zmv{P:Program}{w:World}{r:Reach}{base n:Nat}{t u:TypeId}{v:Value}(ht:P.underlying t=some (.array n u))(h:Value.okWide P w r base t v):∃ cs,v = .agg cs/\cs.size=P.cellsOf t:=by
 simp only[Value.okWide,ht] at h;obtain⟨cs,h1,h2,_⟩:=h;exact⟨cs,h1,h2⟩
theorem Zot{r:Reach}{b0:Nat}{v:Value}{d:DataW H}{p:List MemPlace}(hv:Value.okWide Tryz.prog W r b0 26 v)(h:DataW.Trod enc Tryz.prog W 0 (fun _=>true) true 26 v d p):
  ∃ (nu:Nat->Int) (de:Nat->Nat),v = .agg (Zap nu de)/\(∀ k,-128<=nu k/\nu k<=127)/\(∀ k,de k<256):=by
 obtain⟨cs,rfl,GM⟩:=Zmv Tryz.underlying26 hv;obtain⟨fuel,hf⟩:=h;obtain⟨nu,de,e,h1,h2⟩:=Zta hf;obtain⟨l⟩:=cs;have e':l=(Zap nu de).toList:=e;exact⟨nu,de,by rw[e'],h1,h2⟩
end
end Go.Proofs.YtbielfplgbammaaGreatDoor

namespace Go.Proofs.YtbielfplgbammaaGreatDoor
open Go.RowKit
theorem Qeu:Zba Tryz.prog 30 3 (.int .i64 0) 1 8:=⟨Tryz.underlying30,info_parts (by kernel_rfl),rfl,by decide⟩
def Qg6 (m:Int) (l:List Int):Prop:=∀ x∈l,0<=x/\x<=m
def Zcu (w:World) (B:Nat) (a:OA_) (n c:Nat) (l:List Int):Prop:=w.ownsRow B 3 1 (.slice a n c) n (Qw l)
theorem Zcu.len{w:World}{B n c:Nat}{a:OA_}{l:List Int}(h:Zcu w B a n c l):l.length=n:=by
 have:=h.1;simp[Qn] at this;exact this
theorem Zcu.nil(w:World)(B:Nat):Zcu w B none 0 0 []:=World.ownsRow_nil ..
theorem Zcu.open{w:World}{B n c:Nat}{a:OA_}{l:List Int}(h:Zcu w B a n c l)(hn:0<n):
  ∃ g,a=some ⟨g,0,none⟩/\B<=g/\g<w.heap.size/\n<=c/\(∀ j (hj:j<l.length),w.cell? ⟨g,j,none⟩=some (.int .i64 l[j]))/\(∀ j,w.frozen? ⟨g,j,none⟩=false):=by
 have hl:=h.len;obtain⟨g,cap,hv,h1,h2,h3,h4,h5⟩:=Ye h hn;simp only[Value.slice.injEq] at hv;obtain⟨rfl,-,rfl⟩:=hv;exact⟨g,rfl,h1,h2,h3,fun j hj=>by rw[h4 j (by omega),Zaf l j hj],h5⟩
theorem Zcu.store{w:World}{B n c g:Nat}{l:List Int}(h:Zcu w B (some ⟨g,0,none⟩) n c l)(j:Nat)(x:Int):
  Zcu (w.setCell ⟨g,j,none⟩ (.int .i64 x)) B (some ⟨g,0,none⟩) n c (l.set j x):=by
 have:=(World.ownsRow.stored h j (.int .i64 x)).1
 rw[Zy8] at this;exact this
def arr (l:List Int):Array Value:=(Qw l).toArray
theorem Qcz(l:List Int)(j:Nat)(h:j<l.length):(arr l)[j]?=some (.int .i64 l[j]):=by simp[arr,Qw,h]
theorem Qcy(l:List Int)(j:Nat)(x:Int):(arr l).setIfInBounds j (.int .i64 x)=arr (l.set j x):=by
 simp[arr,Qw,List.map_set]
def Znz (w:World) (g:Nat) (T:TypeId) (l:List Int):Prop:=w.heap[g]?=some (.cells (arr l) T (0,0))
theorem Znz.cell{w:World}{g:Nat}{T:TypeId}{l:List Int}(h:Znz w g T l)(j:Nat)(hj:j<l.length):w.cell? ⟨g,j,none⟩=some (.int .i64 l[j]):=by
 rw[cell_of_row w g j _ T (0,0) h,Qcz l j hj]
theorem Znz.frozen{w:World}{g:Nat}{T:TypeId}{l:List Int}(h:Znz w g T l)(j:Nat):w.frozen? ⟨g,j,none⟩=false:=frozen_of_row w g j _ T h
theorem Znz.store{w:World}{g:Nat}{T:TypeId}{l:List Int}(h:Znz w g T l)(j:Nat)(x:Int):Znz (w.setCell ⟨g,j,none⟩ (.int .i64 x)) g T (l.set j x):=by
 unfold Znz;rw[heap_setCell_same w g j _ T _ h,Qcy]
def Wit (w wr:World):Prop:=wr.heap[w.heap.size]?=some (.cells #[.int .i64 0,.int .i64 0,.int .i64 0,.string ⟨#[]⟩] 136 (0,0))/\Bw_ w wr/\w.heap.size+1<=wr.heap.size
theorem Wit.step{w wr wr':World}(h:Wit w wr)(hb:Bw_ wr wr'):Wit w wr' :=
 ⟨by rw[hb.block _ (by have:=h.2.2;omega)];exact h.1,h.2.1.trans (hb.mono (by have:=h.2.2;omega)),Nat.le_trans h.2.2 hb.size⟩
def lt4 (few x:UInt8):Nat:=x.toNat%(1+few.toNat%4)
def Qgz (l:List UInt8) (few:UInt8) (k:Nat):List UInt8:=(l.take k).map fun x=>(97+lt4 few x).toUInt8
def mk (l:List UInt8) (few:UInt8):List UInt8:=if l=[] then [97] else Qgz l few 14
theorem Zz3(w:World)(L:Qg w):Kc Tryz.prog 127 #[.string (dec 2)] w (.int .i64 2):=by
 unfold Kc;have h:=Ze3 w 2 (by rw[show (dec 2).size=1 by decide +kernel];decide) L;rw[if_pos (by decide)] at h;have H:=hd_ h;have Hl:Hid (∀ W:World,Calls Tryz.prog 212 #[.int .u64 2] W fun e w'=>e = .returned (.int .i64 2)/\w'=W):=fun W=>by
  have:=Tryz.bits_Len64 2 W (by decide) (by decide)
  rw[show ((Lib.bitLen ((2:Int).toNat):Nat):Int)=2 by decide +kernel] at this;exact this
 clear L h;generalize dec 2=s at *;go_enter Tryz.func127,Tryz.ntmps127;go_wp2_with fail;refine cm_ H.o ?_;rintro e w1 ⟨rfl,HU⟩;have B1:=hd_ HU;clear HU H;go_wp2_with fail;refine cm_ (Hl.o _) ?_;rintro e w2 ⟨rfl,rfl⟩;clear Hl;go_wp2_with fail;go_ret;exact⟨rfl,B1.o⟩
theorem Zs2{w:World}{g:Nat}{t:TypeId}(h:w.heap[g]?=some (.cells #[.int .u64 1] t (0,0))):Qq w (some ⟨g,0,none⟩) (Kf 1):=by
 have e:Kf 1=[1]:=by decide +kernel
 rw[e];refine .inr ⟨g,0,rfl,(Array.getElem?_eq_some_iff.1 h).1,fun i hi=>?_⟩;have:i=0:=by simp at hi;exact hi
 subst this;rw[cell_of_row w g 0 _ t (0,0) h];rfl
theorem Zqs(D y:Nat)(h:y<D):(dec (2^y)).size<=D:=by
 rw[Yz _ _ (by omega)];exact Nat.lt_of_le_of_lt (Nat.pow_le_pow_left (by decide) y) (Nat.pow_lt_pow_right (by decide) h)
theorem Zhi(n y:Nat)(hn:n<=4000)(hy:y<=n):(Kf (2^y)).length<=10000 :=
 Vq _ 10000 (by decide) (Zqs 10000 y (by omega))
theorem Zye(n:Nat)(hn:n<=4000):(dec (2^n)).size<=4001:=Zqs 4001 n (by omega)
theorem Zzd(n:Int):bits .and .i64 n 1=n%2:=by
 have h1:(BitVec.ofInt 64 1).toNat=2^1-1:=by decide
 have Ge:(BitVec.ofInt 64 n &&& BitVec.ofInt 64 1).toNat=(n%((2^64:Nat):Int)).toNat%2^1:=by
  rw[BitVec.toNat_and,BitVec.toNat_ofInt,h1,Nat.and_two_pow_sub_one_eq_mod]
 show IntKind.i64.wrap ((BitVec.ofInt 64 n &&& BitVec.ofInt 64 1).toNat:Nat)=n%2
 rw[Ge,IntKind.wrap_i64];omega
theorem Qc1(k:Nat)(_:k<4001):(bits BinOp.and IntKind.i64 (k:Nat) 1==1)=decide (k%2=1):=by
 rw[Zzd]
 by_cases h:k%2=1
 ·rw[decide_eq_true h,beq_iff_eq];omega
 ·rw[decide_eq_false h,beq_eq_false_iff_ne];omega
theorem Zgx(W:World)(n x y:Nat)(hn:n<=4000)(hx:x<=n)(hy:y<=n)(a1 a2:OA_)(c1 c2:Nat)(h1:Qq W a1 (Kf (2^x)))(h2:Qq W a2 (Kf (2^y))):
  Calls Tryz.prog 129 #[.slice a1 (Kf (2^x)).length c1,.slice a2 (Kf (2^y)).length c2] W fun e w'=>∃ a c,e = .returned (.slice a (Kf (2^(x+y))).length c)/\Qq w' a (Kf (2^(x+y)))/\Bw_ W w':=by
 have l1:=Zhi n x hn hx;have l2:=Zhi n y hn hy;refine cm_ (Zgy W a1 a2 c1 c2 _ _ h1 h2 (Kn _) (Kn _) (by omega) (by omega)) ?_;rintro e w' ⟨a,c,rfl,ho,hb⟩;rw[Kp,Kp,<- Nat.pow_add] at *
 exact⟨a,c,rfl,ho.reads,hb⟩
theorem Zs5(w:World)(n:Nat)(hn:n<=4000)(L:Qg w):Kc Tryz.prog 51 #[.string (dec 2),.int .i64 n] w (.tuple #[.string (dec (2^n)),.int .i64 0]):=by
 unfold Kc;have hz:=Zd 2;have ho:=Zjp 2;rw[decide_eq_false (by decide)] at hz ho;have Hb:Hid (∀ W,Bw_ w W->Kc Tryz.prog 127 #[.string (dec 2)] W (.int .i64 2)):=fun W hW=>Zz3 W (L.below hW)
 have Hc:Hid (∀ W,Zew 128 #[.string (dec 2)] W 2):=fun W=>Zzv W 2 (by unfold Num;rw[show (dec 2).size=1 by decide +kernel];decide)
 have Hs:=hd_ (Zye n hn);clear L
 by_cases h0:n=0
 ·subst h0;have Hv:Hid (dec (2^0)=⟨#[49]⟩):=by show _=_;rw[Nat.pow_zero,Yo]
  generalize dec (2^0)=vv at *;clear Hb Hc hn;generalize dec 2=s at *;go_enter Tryz.func51,Tryz.ntmps51;go_wp2_with fail
  go_ret2
  exact⟨by rw[Hv.o];rfl,Below.refl _ _⟩
 ·have e9:((n:Int)==0)=false:=by rw[beq_eq_false_iff_ne];omega
  have EC:¬ (n:Int)<0:=by omega
  have jt:¬ (66439:Int)<n:=by omega
  unfold Zew at Hc;obtain⟨vv,Ex⟩:∃ s,dec (2^n)=s:=⟨_,rfl⟩;have Fe:=hd_ Ex;rw[Ex] at Hs ⊢;clear Ex;generalize dec 2=s at *;go_enter Tryz.func51,Tryz.ntmps51;go_wp2_with fail;refine cm_ (Hb.o _ (Below.refl _ _)) ?_;rintro e w1 ⟨rfl,HU⟩;have B1:=hd_ HU;clear HU Hb;go_wp2_with fail;have B2:=hd_ (B1.o.alloc B1.o.size (.cells #[.int .u64 1] 204));have R1:Hid (Qq (w1.alloc (.cells #[.int .u64 1] 204)) (some ⟨w1.heap.size,0,none⟩) (Kf 1)):=Zs2 (Go.heap_alloc_new w1 _);generalize w1.alloc (.cells #[.int .u64 1] 204)=w2 at *;clear B1;refine cm_ (Hc.o _) ?_;rintro e w3 ⟨a3,c3,rfl,ho,hb⟩;have B3:=bt_ B2 hb;have R2:=hd_ ho.reads;replace R1:=hd_ (R1.o.below hb nr_);clear hb ho Hc B2;have gE:Hid ((Kf 1).length=1):=hd_ (by decide +kernel);go_wp2_with fail
  go_loopw [1,7,8] (fun m o q wr=>∃ (k x y:Nat) (a1 a2:OA_) (c1 c2:Nat),m = .int .i64 k/\k<=n/\o = .slice a1 (Kf (2^x)).length c1/\q = .slice a2 (Kf (2^y)).length c2/\Hid (x+y*k=n)/\Hid (y<=n)/\Hid (Qq wr a1 (Kf (2^x)))/\Hid (Qq wr a2 (Kf (2^y)))/\Hid (Bw_ w wr)) (fun m _ _ _=>(intOf m).toNat)
  case atStart =>
   refine⟨n,0,1,some ⟨w1.heap.size,0,none⟩,a3,1,c3,rfl,Nat.le_refl _,by rw[Nat.pow_zero,gE.o],rfl,?_,?_,R1,R2,B3⟩
   ·show _=_;omega
   ·show _<=_;omega
  case round =>
   clear R1 R2 B3;obtain⟨k,x,y,a1,a2,c1,c2,rfl,hk,rfl,rfl,Hxy,Hy,R1,R2,B⟩:=hrel;have Hx:Hid (x<=n):=by show _<=_;have:=Hxy.o;omega
   by_cases EF:k=0
   ·subst EF;have EN:¬ (0:Int)<((0:Nat):Int):=by omega
    have bc:Hid (x=n):=by show _=_;have:=Hxy.o;omega
    rw[bc.o] at R1 ⊢;have LQ:Hid (Kc Tryz.prog 130 #[.slice a1 (Kf (2^n)).length c1] wr (.string vv)):=by
     have:=Zbh wr a1 c1 (2^n) R1.o (by have:=Zhi n n hn nr_;omega)
     rw[Fe.o] at this;exact this
    have GM:¬ (20000:Int)<vv.size:=by have:=Hs.o;omega
    go_wp2_with fail;refine cm_ LQ.o ?_;rintro e w9 ⟨rfl,hb⟩;have B9:=bt_ B hb;clear hb LQ;go_wp2_with fail
    go_ret2
    exact⟨rfl,B9.o⟩
   ·have EN:(0:Int)<k:=by omega
    have hb:=Qc1 k (by omega)
    by_cases Fa:k%2=1
    ·rw[decide_eq_true Fa] at hb;have Ht:Hid (Calls Tryz.prog 129 #[.slice a1 (Kf (2^x)).length c1,.slice a2 (Kf (2^y)).length c2] wr fun e w'=>∃ a c,e = .returned (.slice a (Kf (2^(x+y))).length c)/\Qq w' a (Kf (2^(x+y)))/\Bw_ wr w'):=Zgx wr n x y hn Hx.o Hy.o a1 a2 c1 c2 R1.o R2.o;go_wp2_with fail;refine cm_ Ht.o ?_;rintro e w5 ⟨a5,c5,rfl,r5,hb5⟩;have B5:=bt_ B hb5;replace R1:=hd_ r5;replace R2:=hd_ (R2.o.below hb5 nr_);clear hb5 r5 B Ht
     by_cases fX:1<k
     ·have DH:(1:Int)<k:=by omega
      have EV:Hid (x+y+(y+y)*(k/2)=n):=by
       show _=_
       have h1:=Hxy.o;obtain⟨h,rfl⟩:∃ h,k=2*h+1:=⟨k/2,by omega⟩;rw[show (2*h+1)/2=h by omega,Nat.add_mul];rw[Nat.mul_add,Nat.mul_left_comm] at h1;omega
      have Ht:Hid (Calls Tryz.prog 129 #[.slice a2 (Kf (2^y)).length c2,.slice a2 (Kf (2^y)).length c2] w5 fun e w'=>∃ a c,e = .returned (.slice a (Kf (2^(y+y))).length c)/\Qq w' a (Kf (2^(y+y)))/\Bw_ w5 w'):=Zgx w5 n y y hn Hy.o Hy.o a2 a2 c2 c2 R2.o R2.o;go_wp2_with fail;refine cm_ Ht.o ?_;rintro e w6 ⟨a6,c6,rfl,r6,hb6⟩;have B6:=bt_ B5 hb6;replace R2:=hd_ r6;replace R1:=hd_ (R1.o.below hb6 nr_);clear hb6 r6 B5 Ht;go_wp2_with fail
      go_roundw
      case rel =>
       refine⟨k/2,x+y,y+y,_,_,_,_,by go_num,by omega,rfl,rfl,EV,?_,R1,R2,B6⟩
       show _<=_
       have:=Hxy.o
       have h2:y*2<=y*k:=Nat.mul_le_mul_left _ (by omega);omega
      case measure=>simp[intOf];omega
     ·have DH:¬ (1:Int)<k:=by omega
      go_wp2_with fail
      go_roundw
      case rel =>
       refine⟨k/2,x+y,y,_,_,_,_,by go_num,by omega,rfl,rfl,?_,Hy,R1,R2,B5⟩
       show _=_
       have:=Hxy.o
       have e1:k=1:=by omega
       subst e1;have e2:(1/2:Nat)=0:=rfl;rw[e2];omega
      case measure=>simp[intOf];omega
    ·rw[decide_eq_false Fa] at hb
     by_cases fX:1<k
     ·have DH:(1:Int)<k:=by omega
      have EV:Hid (x+(y+y)*(k/2)=n):=by
       show _=_
       have h1:=Hxy.o;obtain⟨h,rfl⟩:∃ h,k=2*h:=⟨k/2,by omega⟩;rw[show (2*h)/2=h by omega,Nat.add_mul];rw[Nat.mul_left_comm] at h1;omega
      have Ht:Hid (Calls Tryz.prog 129 #[.slice a2 (Kf (2^y)).length c2,.slice a2 (Kf (2^y)).length c2] wr fun e w'=>∃ a c,e = .returned (.slice a (Kf (2^(y+y))).length c)/\Qq w' a (Kf (2^(y+y)))/\Bw_ wr w'):=Zgx wr n y y hn Hy.o Hy.o a2 a2 c2 c2 R2.o R2.o;go_wp2_with fail;refine cm_ Ht.o ?_;rintro e w6 ⟨a6,c6,rfl,r6,hb6⟩;have B6:=bt_ B hb6;replace R2:=hd_ r6;replace R1:=hd_ (R1.o.below hb6 nr_);clear hb6 r6 B Ht;go_wp2_with fail
      go_roundw
      case rel =>
       refine⟨k/2,x,y+y,_,_,_,_,by go_num,by omega,rfl,rfl,EV,?_,R1,R2,B6⟩
       show _<=_
       have:=Hxy.o
       have h2:y*2<=y*k:=Nat.mul_le_mul_left _ (by omega);omega
      case measure=>simp[intOf];omega
     ·omega
theorem p2:True:=trivial
end Go.Proofs.YtbielfplgbammaaGreatDoor

namespace Go.Proofs.YtbielfplgbammaaGreatDoor.LN
def lgGo (unit:Nat):Nat->Nat->Nat->Nat->Option Nat
 | 0,_,_,out=>some out
 | n+1,lo,hi,out =>
  if 2*unit<=lo*lo/unit then lgGo unit n (lo*lo/unit/2) ((hi*hi/unit+1)/2+1) (2*out+1)
  else if 2*unit<=hi*hi/unit+1 then none
  else lgGo unit n (lo*lo/unit) (hi*hi/unit+1) (2*out)
def lg (p k n more:Nat):Option Nat:=lgGo (2^more) n (p*2^(more-k)) (p*2^(more-k)) k
def dotI:List Int->List Int->Int
 | a::l,b::m=>a*b+dotI l m
 | _,_=>0
def Zdr (l:List Int):Nat:=(l.map Int.natAbs).sum
def comb (x:Int) (u:List Int) (y:Int) (v:List Int):List Int:=List.zipWith (fun a b=>x*a-y*b) u v
theorem Zeo(x y:Int):∀ (u v k:List Int),u.length=v.length->dotI (comb x u y v) k=x*dotI u k-y*dotI v k
 | [],[],_,_=>by simp[comb,dotI]
 | a::u,b::v,[],_=>by simp[comb,dotI]
 | a::u,b::v,c::k,h=>by
  have ih:=Zeo x y u v k (by simpa using h);have e:comb x (a::u) y (b::v)=(x*a-y*b)::comb x u y v:=rfl;rw[e];simp only[dotI];rw[ih]
  grind
 | [],_::_,_,h=>by simp at h
 | _::_,[],_,h=>by simp at h
theorem Zps(K:Nat):∀ (u k:List Int),(∀ x∈k,x.natAbs<=K)->(dotI u k).natAbs<=Zdr u*K
 | [],_,_=>by simp[dotI]
 | _::_,[],_=>by simp[dotI]
 | a::u,b::k,h=>by
  have ih:=Zps K u k fun x hx=>h x (List.mem_cons_of_mem _ hx)
  have hb:=h b List.mem_cons_self;have e:Zdr (a::u)=a.natAbs+Zdr u:=by simp[Zdr]
  rw[e,Nat.add_mul];simp only[dotI];have h1:=Int.natAbs_add_le (a*b) (dotI u k);rw[Int.natAbs_mul] at h1;have h2:a.natAbs*b.natAbs<=a.natAbs*K:=Nat.mul_le_mul_left _ hb;omega
def Ze0 (m i:Nat) (d:Int):List Int:=(List.range m).map fun j=>if j=i then d else 0
def Zet (m:Nat):List Int->List (List Int)->List Int
 | x::l,u::ls=>comb x u (-1) (Zet m l ls)
 | _,_=>List.replicate m 0
theorem Zfy(m:Nat):∀ (l:List Int) (U:List (List Int)),(∀ u∈U,u.length=m)->(Zet m l U).length=m
 | [],_,_=>by simp[Zet]
 | _::_,[],_=>by simp[Zet]
 | x::l,u::U,h=>by
  have ih:=Zfy m l U fun v hv=>h v (List.mem_cons_of_mem _ hv)
  simp only[Zet,comb,List.length_zipWith,ih,h u List.mem_cons_self,Nat.min_self]
theorem Zne(m:Nat)(k:List Int):dotI (List.replicate m 0) k=0:=by
 induction m generalizing k with
 | zero=>rfl
 | succ m ih =>
  cases k with
  | nil=>rfl
  | cons b k=>rw[List.replicate_succ,dotI,ih];simp
theorem Zfe(m:Nat)(k:List Int):∀ (l:List Int) (U:List (List Int)),(∀ u∈U,u.length=m)->(∀ u∈U,dotI u k=0)->dotI (Zet m l U) k=0
 | [],_,_,_=>by rw[Zet];exact Zne m k;simp
 | _::_,[],_,_=>by rw[Zet];exact Zne m k;simp
 | x::l,u::U,h,h0=>by
  rw[Zet,Zeo _ _ _ _ _ (by rw[Zfy m l U fun v hv=>h v (List.mem_cons_of_mem _ hv)];exact h u List.mem_cons_self),h0 u List.mem_cons_self,
   Zfe m k l U (fun v hv=>h v (List.mem_cons_of_mem _ hv)) (fun v hv=>h0 v (List.mem_cons_of_mem _ hv))]
  simp
theorem Zhp(d:Int):∀ (m i s:Nat) (k:List Int),dotI ((List.range' s m).map fun j=>if j=i then d else 0) k=if s<=i/\i<s+m then d*k.getD (i-s) 0 else 0
 | 0,i,s,k=>by
  rw[if_neg (by omega)];rfl
 | m+1,i,s,[]=>by simp[List.range'_succ,dotI]
 | m+1,i,s,b::k=>by
  rw[List.range'_succ,List.map_cons,dotI,Zhp d m i (s+1) k]
  by_cases h:s=i
  ·subst h;rw[if_pos rfl,if_neg (by omega),if_pos (by omega)];simp
  ·rw[if_neg h]
   by_cases h2:s+1<=i/\i<s+1+m
   ·rw[if_pos h2,if_pos (by omega)];have e:i-s=(i-(s+1))+1:=by omega
    rw[e];simp
   ·rw[if_neg h2,if_neg (by omega)];simp
def certOk (a:Int) (L:List Int) (U V:List (List Int)) (d:Int) (K S:Nat):Bool :=
 decide (0<a)&&decide (d≠0) &&
 U.all (fun u=>decide (u.length=L.length)&&decide (Zdr (comb a u (u.headD 0) L)*K+(u.headD 0).natAbs*S<a.natAbs)) &&
 decide (V.length=L.length)&&(List.range L.length).all (fun i=>decide (Zet L.length (V.getD i []) U=Ze0 L.length i d))
theorem cert_zero{a:Int}{L:List Int}{U V:List (List Int)}{d:Int}{K S:Nat}(h:certOk a L U V d K S=true)(k:List Int)(hk:k.length=L.length)(hK:∀ x∈k,x.natAbs<=K)(hS:(dotI L k).natAbs<S):
  ∀ x∈k,x=0:=by
 unfold certOk at h;simp only[Bool.and_eq_true,decide_eq_true_eq,List.all_eq_true,List.mem_range] at h;obtain⟨⟨⟨⟨ha,hd⟩,hU⟩,hV⟩,hI⟩:=h;have h0:∀ u∈U,dotI u k=0:=by
  intro u hu;obtain⟨h1,h2⟩:=hU u hu;have e:=Zeo a (u.headD 0) u L k h1;have b:=Zps K (comb a u (u.headD 0) L) k hK;generalize u.headD 0=q at *;generalize dotI u k=f at *;generalize dotI L k=T at *;generalize Zdr (comb a u q L)*K=A at *;rw[e] at b;have h3:(a*f).natAbs<=(a*f-q*T).natAbs+(q*T).natAbs:=by omega
  rw[Int.natAbs_mul,Int.natAbs_mul q T] at h3;have h5:q.natAbs*T.natAbs<=q.natAbs*S:=Nat.mul_le_mul_left _ (by omega);have h6:a.natAbs*f.natAbs<a.natAbs*1:=by omega
  have h7:f.natAbs<1:=Nat.lt_of_mul_lt_mul_left h6;omega
 intro x hx;obtain⟨i,hi,rfl⟩:=List.mem_iff_getElem.1 hx;have h1:=hI i (by omega);have h2:=Zfe L.length k (V.getD i []) U (fun u hu=>(hU u hu).1) h0;rw[h1,Ze0,List.range_eq_range',Zhp d _ i 0 k,if_pos (by omega)] at h2;rw[Nat.sub_zero,List.getD_eq_getElem?_getD,List.getElem?_eq_getElem hi,Option.getD_some] at h2;rcases Int.mul_eq_zero.1 h2 with h3|h3
 ·exact absurd h3 hd
 ·exact h3
def upT:List (Int×Int)->Nat
 | []=>1
 | x::l=>x.1.toNat^x.2.toNat*upT l
def negT (l:List (Int×Int)):List (Int×Int):=l.map fun x=>(x.1,-x.2)
theorem negT_negT(l:List (Int×Int)):negT (negT l)=l:=by
 unfold negT;rw[List.map_map]
 conv=>rhs;rw[<- List.map_id l]
 refine List.map_congr_left fun x _=>?_
 simp
def signT (l:List (Int×Int)):Int:=if upT (negT l)<upT l then 1 else if upT l<upT (negT l) then -1 else 0
structure LogAt (n:Nat) (p:Int) (L:Nat):Prop where
 le:2^L<=p.toNat^(2^n)
 lt:p.toNat^(2^n)<2^(L+1)
 two:p=2->L=2^n
 odd:p≠2->2^L<p.toNat^(2^n)
def hiL (f:Int->Nat) (p:Int):Nat:=if p=2 then f p else f p+1
def loS (f:Int->Nat):List (Int×Int)->Nat
 | []=>0
 | x::l=>x.2.toNat*f x.1+loS f l
def hiS (f:Int->Nat):List (Int×Int)->Nat
 | []=>0
 | x::l=>x.2.toNat*hiL f x.1+hiS f l
theorem Zb0(n:Nat)(f:Int->Nat):∀ l:List (Int×Int),(∀ x∈l,LogAt n x.1 (f x.1))->2^loS f l<=upT l^(2^n)
 | [],_=>by simp[loS,upT]
 | x::l,h=>by
  have ih:=Zb0 n f l fun y hy=>h y (List.mem_cons_of_mem _ hy)
  have hx:=(h x List.mem_cons_self).le;rw[loS,upT,Nat.pow_add,Nat.mul_pow];refine Nat.mul_le_mul ?_ ih;rw[<- Nat.pow_mul,Nat.mul_comm x.2.toNat,Nat.mul_comm x.2.toNat,Nat.pow_mul,Nat.pow_mul];exact Nat.pow_le_pow_left hx _
theorem Qdl(n:Nat)(f:Int->Nat)(l:List (Int×Int))(h:∀ x∈l,LogAt n x.1 (f x.1)):0<upT l:=by
 have:=Zb0 n f l h
 by_cases h0:upT l=0
 ·rw[h0,Nat.zero_pow (Nat.two_pow_pos _)] at this;have:=Nat.two_pow_pos (loS f l)
  omega
 ·omega
theorem Zc4(n:Nat)(f:Int->Nat):∀ l:List (Int×Int),(∀ x∈l,LogAt n x.1 (f x.1))->upT l^(2^n)<=2^hiS f l
 | [],_=>by simp[hiS,upT]
 | x::l,h=>by
  have ih:=Zc4 n f l fun y hy=>h y (List.mem_cons_of_mem _ hy)
  have hx:=h x List.mem_cons_self;have hh:x.1.toNat^(2^n)<=2^hiL f x.1:=by
   unfold hiL;split
   ·rename_i e;rw[hx.two e,e];exact Nat.le_refl _
   ·exact Nat.le_of_lt hx.lt
  rw[hiS,upT,Nat.pow_add,Nat.mul_pow];refine Nat.mul_le_mul ?_ ih;rw[<- Nat.pow_mul,Nat.mul_comm x.2.toNat,Nat.pow_mul,Nat.mul_comm x.2.toNat,Nat.pow_mul 2];exact Nat.pow_le_pow_left hh _
theorem Zhd{a b c d:Nat}(h:a<b)(h2:c<=d)(hd:0<d):a*c<b*d:=Nat.lt_of_le_of_lt (Nat.mul_le_mul_left _ h2) (Nat.mul_lt_mul_of_pos_right h hd)
theorem Zfr{a b c d:Nat}(h:a<=b)(h2:c<d)(hb:0<b):a*c<b*d:=Nat.lt_of_le_of_lt (Nat.mul_le_mul_right _ h) (Nat.mul_lt_mul_of_pos_left h2 hb)
theorem Zmq(n:Nat)(f:Int->Nat):∀ l:List (Int×Int),(∀ x∈l,LogAt n x.1 (f x.1))->(∃ x∈l,x.1≠2/\0<x.2)->2^loS f l<upT l^(2^n)
 | [],_,h=>by obtain⟨_,h,_⟩:=h;cases h
 | x::l,h,h2=>by
  have hl:∀ y∈l,LogAt n y.1 (f y.1):=fun y hy=>h y (List.mem_cons_of_mem _ hy)
  have IY:=Zb0 n f l hl;have hx:=h x List.mem_cons_self;have f9:=Nat.pow_pos (n:=2^n) (Qdl n f l hl);rw[loS,upT,Nat.pow_add,Nat.mul_pow];have e1:2^(x.2.toNat*f x.1)=(2^f x.1)^x.2.toNat:=by rw[Nat.mul_comm,Nat.pow_mul]
  have e2:(x.1.toNat^x.2.toNat)^(2^n)=(x.1.toNat^(2^n))^x.2.toNat:=by rw[<- Nat.pow_mul,Nat.mul_comm,Nat.pow_mul]
  rw[e1,e2];obtain⟨y,hy,dB,hy0⟩:=h2;rcases List.mem_cons.1 hy with rfl|hy
  ·exact Zhd (Nat.pow_lt_pow_left (hx.odd dB) (by omega)) IY f9
  ·have ih:=Zmq n f l hl ⟨y,hy,dB,hy0⟩;exact Zfr (Nat.pow_le_pow_left hx.le _) ih (Nat.pow_pos (Nat.lt_of_lt_of_le (Nat.two_pow_pos _) hx.le))
theorem Zl2(n:Nat)(f:Int->Nat):∀ l:List (Int×Int),(∀ x∈l,LogAt n x.1 (f x.1))->(∃ x∈l,x.1≠2/\0<x.2)->upT l^(2^n)<2^hiS f l
 | [],_,h=>by obtain⟨_,h,_⟩:=h;cases h
 | x::l,h,h2=>by
  have hl:∀ y∈l,LogAt n y.1 (f y.1):=fun y hy=>h y (List.mem_cons_of_mem _ hy)
  have IY:=Zc4 n f l hl;have hx:=h x List.mem_cons_self;have hh:x.1.toNat^(2^n)<=2^hiL f x.1:=by
   unfold hiL;split
   ·rename_i e;rw[hx.two e,e];exact Nat.le_refl _
   ·exact Nat.le_of_lt hx.lt
  rw[hiS,upT,Nat.pow_add,Nat.mul_pow];have e1:2^(x.2.toNat*hiL f x.1)=(2^hiL f x.1)^x.2.toNat:=by rw[Nat.mul_comm,Nat.pow_mul]
  have e2:(x.1.toNat^x.2.toNat)^(2^n)=(x.1.toNat^(2^n))^x.2.toNat:=by rw[<- Nat.pow_mul,Nat.mul_comm,Nat.pow_mul]
  rw[e1,e2];obtain⟨y,hy,dB,hy0⟩:=h2;rcases List.mem_cons.1 hy with rfl|hy
  ·refine Zhd (Nat.pow_lt_pow_left ?_ (by omega)) IY (Nat.two_pow_pos _);unfold hiL;rw[if_neg dB];exact hx.lt
  ·have ih:=Zl2 n f l hl ⟨y,hy,dB,hy0⟩;exact Zfr (Nat.pow_le_pow_left hh _) ih (Nat.pow_pos (Nat.two_pow_pos _))
theorem Zkv{n:Nat}{f:Int->Nat}{l:List (Int×Int)}(h:∀ x∈l,LogAt n x.1 (f x.1)):∀ x∈negT l,LogAt n x.1 (f x.1):=by
 intro x hx;obtain⟨y,hy,rfl⟩:=List.mem_map.1 hx;exact h y hy
theorem Zyz(n:Nat)(f:Int->Nat)(l:List (Int×Int))(h:∀ x∈l,LogAt n x.1 (f x.1))(h0:∀ x∈l,x.2≠0)(gm:l≠[])(hd:(l.map Prod.fst).Nodup)(Gn:hiS f (negT l)<=loS f l):
  upT (negT l)<upT l:=by
 have hn:∀ x∈negT l,LogAt n x.1 (f x.1):=Zkv h;have c1:=Zc4 n f (negT l) hn;have c2:=Zb0 n f l h;have c3:2^hiS f (negT l)<=2^loS f l:=Nat.pow_le_pow_right (by decide) Gn;have Ge:upT (negT l)^(2^n)<upT l^(2^n)->upT (negT l)<upT l:=fun hk=>(Nat.pow_lt_pow_iff_left (Nat.ne_of_gt (Nat.two_pow_pos n))).1 hk
 by_cases Fa:∃ x∈l,x.1≠2
 ·obtain⟨x,hx,fh⟩:=Fa;have Ia:=h0 x hx
  by_cases hp:0<x.2
  ·have:=Zmq n f l h ⟨x,hx,fh,hp⟩
   exact Ge (by omega)
  ·have:=Zl2 n f (negT l) hn ⟨(x.1,-x.2),List.mem_map.2 ⟨x,hx,rfl⟩,fh,by show 0 < -x.2;omega⟩
   exact Ge (by omega)
 ·have h2:∀ x∈l,x.1=2:=fun x hx=>Classical.byContradiction fun hh=>Fa ⟨x,hx,hh⟩
  match l,gm,hd,h2,h0,Gn with
  | [x],_,_,h2,h0,Gn =>
   have e:=h2 x List.mem_cons_self;have Ia:=h0 x List.mem_cons_self;have hf:=(h x List.mem_cons_self).two e;have ft:=Nat.two_pow_pos n;simp only[negT,List.map_cons,List.map_nil,hiS,loS,hiL,if_pos e,upT,Nat.add_zero,Nat.mul_one] at Gn ⊢;rw[hf] at Gn;have h3:(-x.2).toNat<=x.2.toNat:=Nat.le_of_mul_le_mul_right Gn ft;have h4:0<x.2:=by omega
   have h5:(-x.2).toNat=0:=by omega
   rw[h5,e];exact Nat.one_lt_two_pow (by omega)
  | x::y::r,_,hd,h2,_,_ =>
   exfalso;have e1:=h2 x List.mem_cons_self;have e2:=h2 y (List.mem_cons_of_mem _ List.mem_cons_self);simp only[List.map_cons,List.nodup_cons,List.mem_cons] at hd;exact hd.1 (.inl (by rw[e1,e2]))
theorem sign_low(n:Nat)(f:Int->Nat)(l:List (Int×Int))(h:∀ x∈l,LogAt n x.1 (f x.1))(h0:∀ x∈l,x.2≠0)(gm:l≠[])(hd:(l.map Prod.fst).Nodup)(Gn:hiS f (negT l)<=loS f l):signT l=1:=by
 unfold signT;rw[if_pos (Zyz n f l h h0 gm hd Gn)]
theorem Zuz(l:List (Int×Int)):signT (negT l) = - signT l:=by
 unfold signT;rw[negT_negT]
 by_cases h:upT (negT l)<upT l
 ·rw[if_pos h,if_neg (by omega),if_pos h]
 ·rw[if_neg h]
  by_cases h2:upT l<upT (negT l)
  ·rw[if_pos h2,if_neg h,if_pos h2];rfl
  ·rw[if_neg h2,if_neg h,if_neg h2];rfl
theorem sign_high(n:Nat)(f:Int->Nat)(l:List (Int×Int))(h:∀ x∈l,LogAt n x.1 (f x.1))(h0:∀ x∈l,x.2≠0)(gm:l≠[])(hd:(l.map Prod.fst).Nodup)(fY:hiS f l<=loS f (negT l)):signT l = -1:=by
 have:=sign_low n f (negT l) (Zkv h) (by
  intro x hx;obtain⟨y,hy,rfl⟩:=List.mem_map.1 hx;have:=h0 y hy
  show -y.2≠0
  omega) (by simpa [negT] using gm) (by
  have e:(negT l).map Prod.fst=l.map Prod.fst:=by simp[negT]
  rw[e];exact hd) (by rw[negT_negT];exact fY)
 rw[Zuz] at this;omega
def coefP (p:Int):List (Int×Int)->Int
 | []=>0
 | x::l=>(if x.1=p then x.2 else 0)+coefP p l
theorem Zr2(a b:List Int):∀ (u:List Int) (pr:List Int) (g h:Int->Int),dotI u (pr.map fun p=>g p+h p)=dotI u (pr.map g)+dotI u (pr.map h)
 | [],_,_,_=>by simp[dotI]
 | _::_,[],_,_=>by simp[dotI]
 | c::u,p::pr,g,h=>by
  have ih:=Zr2 a b u pr g h;simp only[List.map_cons,dotI];rw[ih,Int.mul_add];omega
theorem Znf(f:Int->Int)(c q:Int):∀ pr:List Int,q ∉ pr->dotI (pr.map f) (pr.map fun p=>if q=p then c else 0)=0
 | [],_=>by simp[dotI]
 | p::pr,h=>by
  simp only[List.mem_cons,not_or] at h;simp only[List.map_cons,dotI];rw[if_neg h.1,Znf f c q pr h.2];simp
theorem Zwz(f:Int->Int)(c q:Int):∀ pr:List Int,pr.Nodup->q∈pr->dotI (pr.map f) (pr.map fun p=>if q=p then c else 0)=c*f q
 | [],_,h=>by simp at h
 | p::pr,hd,h=>by
  simp only[List.nodup_cons] at hd;simp only[List.map_cons,dotI]
  by_cases e:q=p
  ·rw[if_pos e,e,Znf f c p pr hd.1,Int.mul_comm];omega
  ·rw[if_neg e,Zwz f c q pr hd.2 (by simpa [e] using h)];omega
def sumT (f:Int->Nat):List (Int×Int)->Int
 | []=>0
 | x::l=>x.2*f x.1+sumT f l
theorem dotI_coef(f:Int->Nat)(pr:List Int)(hd:pr.Nodup):∀ l:List (Int×Int),(∀ x∈l,x.1∈pr)->dotI (pr.map fun p=>(f p:Int)) (pr.map fun p=>coefP p l)=sumT f l
 | [],_=>by
  simp only[coefP,sumT];have e:∀ u v:List Int,dotI u (v.map fun _=>0)=0:=by
   intro u
   induction u with
   | nil=>intro v;cases v<;>rfl
   | cons a u ih =>
    intro v;cases v with
    | nil=>rfl
    | cons b v=>simp only[List.map_cons,dotI];rw[ih];simp
  exact e _ _
 | x::l,h=>by
  have ih:=dotI_coef f pr hd l fun y hy=>h y (List.mem_cons_of_mem _ hy)
  simp only[coefP,sumT];rw[Zr2 [] [],ih,Zwz _ _ _ pr hd (h x List.mem_cons_self)]
theorem coefP_none(p:Int):∀ l:List (Int×Int),p ∉ l.map Prod.fst->coefP p l=0
 | [],_=>rfl
 | x::l,h=>by
  simp only[List.map_cons,List.mem_cons,not_or] at h;rw[coefP,if_neg (fun e=>h.1 e.symm),coefP_none p l h.2];rfl
theorem coefP_mem:∀ l:List (Int×Int),(l.map Prod.fst).Nodup->∀ x∈l,coefP x.1 l=x.2
 | [],_,_,h=>by cases h
 | y::l,hd,x,h=>by
  simp only[List.map_cons,List.nodup_cons] at hd;rcases List.mem_cons.1 h with rfl|h
  ·rw[coefP,if_pos rfl,coefP_none _ l hd.1];omega
  ·rw[coefP,if_neg (fun e=>hd.1 (by rw[e];exact List.mem_map.2 ⟨x,h,rfl⟩)),coefP_mem l hd.2 x h];omega
theorem coefP_le(K:Nat)(l:List (Int×Int))(hd:(l.map Prod.fst).Nodup)(hK:∀ x∈l,x.2.natAbs<=K)(p:Int):(coefP p l).natAbs<=K:=by
 by_cases h:p∈l.map Prod.fst
 ·obtain⟨x,hx,rfl⟩:=List.mem_map.1 h;rw[coefP_mem l hd x hx];exact hK x hx
 ·rw[coefP_none p l h];simp
theorem hiS_le(f:Int->Nat)(K:Nat):∀ l:List (Int×Int),(∀ x∈l,x.2.natAbs<=K)->hiS f l<=loS f l+l.length*K
 | [],_=>by simp[hiS,loS]
 | x::l,h=>by
  have ih:=hiS_le f K l fun y hy=>h y (List.mem_cons_of_mem _ hy)
  have hx:=h x List.mem_cons_self;have e:hiL f x.1<=f x.1+1:=by unfold hiL;split<;>omega
  have e2:x.2.toNat*hiL f x.1<=x.2.toNat*(f x.1+1):=Nat.mul_le_mul_left _ e;rw[Nat.mul_add] at e2;rw[hiS,loS,List.length_cons,Nat.add_mul];omega
theorem sumT_eq(f:Int->Nat):∀ l:List (Int×Int),sumT f l=(loS f l:Int)-(loS f (negT l):Int)
 | []=>rfl
 | x::l=>by
  have ih:=sumT_eq f l;have e:negT (x::l)=(x.1,-x.2)::negT l:=rfl;rw[sumT,ih,e,loS,loS];rw[Int.natCast_add,Int.natCast_add,Int.natCast_mul,Int.natCast_mul];have h:x.2=(x.2.toNat:Int)-((-x.2).toNat:Int):=by omega
  generalize (x.2.toNat:Int)=a at *;generalize ((-x.2).toNat:Int)=b at *;rw[h]
  grind
theorem ends_decide{a d:Int}{pr:List Int}{f:Int->Nat}{U V:List (List Int)}{K S:Nat}(hc:certOk a (pr.map fun p=>(f p:Int)) U V d K S=true)(hp:pr.Nodup)(l:List (Int×Int))(hl:l.length*K<=S)(gm:l≠[])
  (hm:∀ x∈l,x.1∈pr/\x.2≠0/\x.2.natAbs<=K) (hd:(l.map Prod.fst).Nodup):hiS f (negT l)<=loS f l\/hiS f l<=loS f (negT l):=by
 have h1:=hiS_le f K l fun x hx=>(hm x hx).2.2
 have h2:=hiS_le f K (negT l) (by
  intro x hx;obtain⟨y,hy,rfl⟩:=List.mem_map.1 hx;have:=(hm y hy).2.2
  show (-y.2).natAbs<=K
  omega)
 have e:(negT l).length=l.length:=by simp[negT]
 rw[e] at h2;have h3:=sumT_eq f l
 by_cases hT:(sumT f l).natAbs<S
 ·exfalso;rw[<- dotI_coef f pr hp l fun x hx=>(hm x hx).1] at hT;have h4:=cert_zero hc (pr.map fun p=>coefP p l) (by simp) (by
   intro x hx;obtain⟨p,_,rfl⟩:=List.mem_map.1 hx;exact coefP_le K l hd (fun y hy=>(hm y hy).2.2) p) hT
  match l,gm with
  | x::r,_ =>
   have h5:=h4 _ (List.mem_map.2 ⟨x.1,(hm x List.mem_cons_self).1,rfl⟩);rw[coefP_mem _ hd x List.mem_cons_self] at h5;exact(hm x List.mem_cons_self).2.1 h5
 ·omega
def certL:List Int:=[179769313486231590772930519078902473361797697894230657273430081157732675805500963132708477322407536021120113879871393357658789768814416622492847430639474124377767893424865485276302219601246094119453082952085005768838150682342462881473913110540827237163350510684586298239947245938479716304835356329624224137216,284927620656063089346731796384423062894173922742544388268143673752537756183546571537032060353371466816773127126641744722713352439279873718317761842880439823388246733129821933154999969794940367169528507713597703293501225656468836512330451109106556546484957172329017475735990380315252547391823925065085415830706,417411419582294732896156489886154238448013320157255640262591015340590871398055171674354685851436277043969488387805834784269416499993679630854470083136767565961762416444355884854643698642680661331046329726609798457044907851814692689997919935740891485193992980213442174017676677705033790300799565328174789721477,504676267050488686437106225422580597666894180115835423443227083307798182118129470961836692572602004275197053008847790122226159407050037386686227374490996006831065115100048654528796805287857493370208467706711144940390867662095296958256666553836865344662997681178618211252555414200909783814338893188237609625780,621899647134989863023931440843230302890983592943748869067988172264563165309608343386292530753941856327296297447054373896510077744639892806611394391743834589735893855764598242929310750820193556622274206181954361442867402987237247717098957447016989915817775870019501087911877572648074267091007255239964369023968,665225507727408465455298695894691710776360314087386563812869573730968267223165639273012984180830913649657093046906068992579944353826624953775464535759564037586356204133016200974813196209296864512605219833214582093815415417608006173877679388939375373503941628536552970450384072436140060704944322076520073283839]
def Qf9:List (List Int):=[[1361033472052420067100991309064931182091716853391540550899091113545676748165654069454734507830540625923066749738613742662526501494649565328672781710912470855,2157187015429401542138602315378835738079865318741913695197763694877679196962452355322909935492129080345135728398755778866915216677702864904886518349498144093,3160221856840607851781685108452959817026979136557082784519095198183545416828782748691856911460833185893891199012493182590421586823167653542796686423181411803,3820904016851512035743762372109566630477041885378486680143976467669200300212202542157276498189701081899028256409122481989077119745557940859571796331901780602,4708402227241844230881350710329385429292965180311929874646927949603148181156687490795565250855988629463347595457426767248645121403373850130316622376205655824,5036422317702249347264984242308634347603162440235819245412201338095351364705523284785619822633893970185542775747311911336783041820236677902723153542003541995],
 [299687973565947336953693908348658651332127021025370730890883623972659747075648952750207292919729408951165823130818603758290601433328042680561826125489066428,474994200019139640690896719015381054735292729699790408945830646826654284457084852625941217336849063751168404185314953447875618807762968794960545658399964795,695853925522634307249243517247788056805708280722354982344522670436784936810433857855919843198532036588375876439367016064304325129116049564645826288286436995,841330507671831406218103970697802099080070115711533135025373126392723083358858942563189157022256615979955037365105244659930907228808843221236499661374110289,1036750051479376748850033988793626597154995220661079736838726668451637290619206291200505783075082688000877676034076233903503798073310428799011686117489740735,1108977280432649241595140457724586490268455016437124571879230895310093956060594635296497046358777904624265570982229960398488559448522718359131628436452776618],
 [2001432095227681370883033031250657280124239008502396240436193329269779899751073734437881335263033118934661407649401662184445142860843476241971244864603027187,3172194818675649062031549948976346458446291575480633127138527180430090144149945657870703384176547217957998590193298519253946520383353142275844076215046404066,4647181411918432184657996063106137228541057445042859272797028758732513247711022952874593278003645411586711998681909461184937906440067320029532798507864848774,5618730243701494716647491390234016366368147732801005815257985401286419595231562467358169747618992550500502402060613155528580022043540105943291290066113212642,6923817472786135026020292681272359069572685393380617174853881444661977508302607758245986734774019457876979478431489431680461110991886850855640535885324347296,7406178818342856776067456999577349708314416427421774025318657928833991150289316239750934511444397348343774950016253631819156198089215566095848780701490864144],
 [528536423608438686412855271308878199418637088432614320111589911024224382198177128949494362669026076740489188478845726431331723513448155828996706397443325180,837710411684647310522312564104097923139117177113334471362723484405395424151008043983617035281865417395962957088666166267423693251318731944589703713618244329,1227223571147721963246630617648243717815284933494361643201768985968400112439714151460557394407565771139456530795453357502363423731760793034538519393449417404,1483789330303873215968878480452065504812046379488041405674753539793795422454494893163083848604039861079831537330639296756576330493295598940741832154454008688,1828435615432509255958100752235191297210724831090028852837000190432020360373150501910418670178265213952829967280722348250891518419506460528213470146761147669,1955817174404911741025196141353996465572258277146385975044836535532311654150798060211842806764077658974214099154631403207719281988005843100572202176183955081],
 [-1468711569869691212917947732134083722669835323809775214024289413578456753408037268869249086956462231433613497000907220577351639694601234134310649204034172316,-2327852762618760886438615551826346136370330168494265847894449738559028087832799593039841031943095790346604355658488125946578561954780542160298345901268352557,-3410242657366559293362990450499318662931329652440687467996352748484304130112546146565531321508257651827946757887834523977466162302035935620424198790339117028,-4123194654756628344277387666377040541457073401299737549360184284561605431593927292627723203544564083235736204424728469325429173003124213574712357752737593408,-5080907243465631775491331725106607667567794020555851403113895506647993464455619343303375350433823317991140303009422864311178241460123997725934828520026953170,-5434878627639161137069877451178110586761807883549011422834890840123801581219167459321135220817687924522379993148257513492372263375648300907571638870552930820],
 [-2527278727899951042357277652887687714676139814654455825895183801797394312577171470996587787488447973546590744938596754242248050652665729495409064860168750388,-4005642012591688830853788306767450225437525695850649207367482469960977507820045796608400918880715182390339297186644147711819811945556751576743803637464260210,-5868159481922089932185961686356109783421000151793657433855863935794100273872111461436697788866984813598223636272238364084392763747068349791942404099818116664,-7094968376181407917698486220318039050815038790087114445294460660285453776174777870811938078891803417542019334178004801170201148860672020225345222745338937759,-8742947940406537175524478993752549231321711125631551583381469936189250544112233396909737085879577827848253228263908699479854100689968661105092076296067226517,-9352042583534072783038683109624319367784842669410329692573031045141955386391775295867783423242100705425423420660519481116735025587912157359844666391581864370]]
def Qf8:List (List Int):=[[-5056625427619646027375557688934,22492767048728521515228088672644,100757843318868131663255231251409,-109175424216025810518427626349458,43791622722594357708666376464250,31456010246780842523074201168758],
 [14843321736870989170892935211302,-1566413707272055504716434875294,-13231873144781301898553196621410,-4473938268507226690064737724278,-7234649816335129238870443013471,597916375160099280812978039558],
 [-10106195131634014064109565408074,-23752526617964760938273316614011,-2161618493810056733233408947394,11217398622667791280982723293654,-1919025075220832533891098335435,-6509868020063796828750396523277],
 [6851462341036060952856831869449,6038656074418965050194601037329,-11645716143813286921558515426769,2256681498008609696986867869759,5109170126994287454266492989097,-7313988198921797883712129588856],
 [-20280857652371422586076982416269,3240353442599273281533504304323,-6207198472621478050629739916295,10933570427373787624652298476831,-12444462319387663796445073593709,-5934842575408006771328159897859],
 [15112292982976400489100645344947,1886037157824657007738630660331,-5566814279214676496689364407767,12447496499081282177953624596476,226561372143848006543391518164,6425156145734365554949928231685]]
theorem cert_ok:certOk (2^1024) certL Qf9 Qf8 1 (2^100) (2^503)=true:=by decide +kernel
end Go.Proofs.YtbielfplgbammaaGreatDoor.LN

namespace Go.Proofs.YtbielfplgbammaaGreatDoor
def Zhs (unit:Nat):Nat->Nat×Nat×Nat->Option (Nat×Nat×Nat)
 | 0,s=>some s
 | n+1,s=>(Ve unit s).bind (Zhs unit n)
theorem Zju(unit:Nat):∀ (n:Nat) (s:Nat×Nat×Nat),Zhs unit (n+1) s=(Zhs unit n s).bind (Ve unit)
 | 0,s=>by simp[Zhs]
 | n+1,s=>by
  show (Ve unit s).bind (Zhs unit (n+1))=((Ve unit s).bind (Zhs unit n)).bind (Ve unit)
  cases Ve unit s with
  | none=>rfl
  | some t=>exact Zju unit n t
theorem Zpv(p more:Nat):∀ n,Vr p more n=Zhs (2^more) n (p*2^(more-p.log2),p*2^(more-p.log2),p.log2)
 | 0=>rfl
 | n+1=>by rw[Zju,<- Zpv p more n];rfl
theorem Zo9(unit:Nat):∀ (n lo hi out:Nat),LN.lgGo unit n lo hi out=(Zhs unit n (lo,hi,out)).map fun s=>s.2.2
 | 0,_,_,_=>rfl
 | n+1,lo,hi,out=>by
  unfold LN.lgGo Zhs Ve;simp only;split
  ·rw[Zo9 unit n];rfl
  ·split
   ·rfl
   ·rw[Zo9 unit n];rfl
theorem Zv6(p n more:Nat):LN.lg p p.log2 n more=(Vr p more n).map fun s=>s.2.2:=by
 rw[Zpv];exact Zo9 _ _ _ _ _
structure Qac (u:Nat) (s t:Nat×Nat×Nat):Prop where
 lo:s.1*u<=t.1
 hi:t.2.1<=s.2.1*u
 o:t.2.2=s.2.2
 le:t.1<=t.2.1
theorem Ztz{unit u:Nat}(hu:0<u)(h0:0<unit){s t s':Nat×Nat×Nat}(h:Qac u s t)(hs:Ve unit s=some s'):∃ t',Ve (unit*u) t=some t'/\Qac u s' t':=by
 obtain⟨l,g,o⟩:=s;obtain⟨l2,g2,o2⟩:=t;obtain⟨hl,hg,ho,fO⟩:=h;simp only at hl hg ho fO;subst ho;have q1:l*l/unit*u<=l2*l2/(unit*u):=by
  rw[Nat.le_div_iff_mul_le (Nat.mul_pos h0 hu)];have a:=Nat.div_mul_le_self (l*l) unit
  calc l*l/unit*u*(unit*u)=(l*l/unit*unit)*(u*u):=by ac_rfl
   _<=l*l*(u*u):=Nat.mul_le_mul_right _ a
   _=(l*u)*(l*u):=by ac_rfl
   _<=_:=Nat.mul_le_mul hl hl
 have q2:g2*g2/(unit*u)+1<=(g*g/unit+1)*u:=by
  rw[Nat.add_one_le_iff,Nat.div_lt_iff_lt_mul (Nat.mul_pos h0 hu)];have a:=Nat.lt_div_mul_add (a:=g*g) h0;have b:g*g<(g*g/unit+1)*unit:=by rw[Nat.add_mul,Nat.one_mul];exact a
  calc g2*g2<=(g*u)*(g*u):=Nat.mul_le_mul hg hg
   _=g*g*(u*u):=by ac_rfl
   _<(g*g/unit+1)*unit*(u*u):=Nat.mul_lt_mul_of_pos_right b (Nat.mul_pos hu hu)
   _=_:=by ac_rfl
 have q3:l2*l2/(unit*u)<=g2*g2/(unit*u)+1:=Nat.le_succ_of_le (Nat.div_le_div_right (Nat.mul_le_mul fO fO));have e2:2*(unit*u)=2*unit*u:=by rw[Nat.mul_assoc]
 simp only[Ve] at hs ⊢;generalize l*l/unit=A at *;generalize g*g/unit+1=B at *;generalize l2*l2/(unit*u)=A2 at *;generalize g2*g2/(unit*u)+1=B2 at *
 by_cases h1:2*unit<=A
 ·rw[if_pos h1] at hs;cases hs
  have h2:2*(unit*u)<=A2:=by rw[e2];exact Nat.le_trans (Nat.mul_le_mul_right _ h1) q1
  rw[if_pos h2];refine⟨_,rfl,?_,?_,rfl,by simp only;omega⟩
  ·show A/2*u<=A2/2
   rw[Nat.le_div_iff_mul_le (by decide)]
   calc A/2*u*2=A/2*2*u:=by ac_rfl
    _<=A*u:=Nat.mul_le_mul_right _ (Nat.div_mul_le_self _ _)
    _<=_:=q1
  ·show B2/2+1<=(B/2+1)*u
   have h3:B2/2<(B/2+1)*u:=by
    rw[Nat.div_lt_iff_lt_mul (by decide)];have h4:B+1<=(B/2+1)*2:=by omega
    have h5:(B+1)*u<=(B/2+1)*2*u:=Nat.mul_le_mul_right _ h4;have h6:(B/2+1)*2*u=(B/2+1)*u*2:=by ac_rfl
    rw[Nat.add_mul] at h5;omega
   exact h3
 ·rw[if_neg h1] at hs
  by_cases h2:2*unit<=B
  ·rw[if_pos h2] at hs;cases hs
  ·rw[if_neg h2] at hs;cases hs
   have h3:B2<2*(unit*u):=by
    rw[e2];exact Nat.lt_of_le_of_lt q2 (Nat.mul_lt_mul_of_pos_right (by omega) hu)
   rw[if_neg (by omega),if_neg (by omega)];exact⟨_,rfl,q1,q2,rfl,q3⟩
theorem Zrq{unit u:Nat}(hu:0<u)(h0:0<unit):∀ (n:Nat) {s t s':Nat×Nat×Nat},Qac u s t->Zhs unit n s=some s'->∃ t',Zhs (unit*u) n t=some t'/\Qac u s' t'
 | 0,s,t,s',h,hs=>by cases hs;exact⟨t,rfl,h⟩
 | n+1,s,t,s',h,hs=>by
  obtain⟨m,h1,h2⟩:=Option.bind_eq_some_iff.1 hs;obtain⟨m',h3,h4⟩:=Ztz hu h0 h h1;obtain⟨t',h5,h6⟩:=Zrq hu h0 n h4 h2;exact⟨t',by show (Ve (unit*u) t).bind _=_;rw[h3];exact h5,h6⟩
theorem Zw1{p more m2 n:Nat}(hp:p.log2<=more)(hm:more<=m2){s:Nat×Nat×Nat}(h:Vr p more n=some s):∃ t,Vr p m2 n=some t/\t.2.2=s.2.2:=by
 rw[Zpv] at h ⊢;have e:(2:Nat)^m2=2^more*2^(m2-more):=by rw[<- Nat.pow_add];congr 1;omega
 have e2:p*2^(m2-p.log2)=p*2^(more-p.log2)*2^(m2-more):=by rw[Nat.mul_assoc,<- Nat.pow_add];congr 2;omega
 obtain⟨t,h1,h2⟩:=Zrq (Nat.two_pow_pos (m2-more)) (Nat.two_pow_pos more) n (s:=(p*2^(more-p.log2),p*2^(more-p.log2),p.log2)) (t:=(p*2^(m2-p.log2),p*2^(m2-p.log2),p.log2)) ⟨by rw[e2];exact Nat.le_refl _,by rw[e2];exact Nat.le_refl _,rfl,Nat.le_refl _⟩ h;rw[e];exact⟨t,h1,h2.o⟩
theorem Zay{p more:Nat}:∀ {n m:Nat},m<=n->(Vr p more n).isSome=true->(Vr p more m).isSome=true
 | 0,m,h,hs=>by rw[Nat.le_zero.1 h];exact hs
 | n+1,m,h,hs=>by
  rcases Nat.lt_or_eq_of_le h with h|h
  ·refine Zay (Nat.lt_succ_iff.1 h) ?_;cases hd:Vr p more n with
   | none=>rw[Vr,hd] at hs;cases hs
   | some s=>rfl
  ·rw[h];exact hs
theorem Zhr{p n more:Nat}(h:(LN.lg p p.log2 n more).isSome=true):(Vr p more n).isSome=true:=by
 rw[Zv6] at h
 simpa using h
def Za4:List Nat:=[3,5,7,11,13,17,19,23,29,31,37,41,43,47,53,59,61,67,71,73,79,83,89,97]
theorem Qd7:Za4.all (fun p=>(LN.lg p p.log2 1056 1120).isSome)=true:=by decide +kernel
theorem Zgc{p:Nat}(h:p∈Za4):p.log2<=6:=by
 have:∀ q∈Za4,q.log2<=6:=by decide
 exact this p h
theorem Zas{p:Nat}(h:p∈Za4):p%2=1/\3<=p/\p<=97:=by
 have:∀ q∈Za4,q%2=1/\3<=q/\q<=97:=by decide
 exact this p h
theorem Zlj{p n more:Nat}(hp:p∈Za4)(hn:n<=1056)(hm:1120<=more):(Vr p more n).isSome=true:=by
 have h:=Qd7;rw[List.all_eq_true] at h;have h1:=Zay (m:=n) hn (Zhr (h p hp));have hl:=Zgc hp;obtain⟨s,hs⟩:=Option.isSome_iff_exists.1 h1;obtain⟨t,ht,_⟩:=Zw1 (m2:=more) (by omega) (by omega) hs;rw[ht];rfl
theorem Zrk{p N a b:Nat}(h1:Qc8 p N a)(h2:Qc8 p N b):a=b:=by
 have e1:2^a<2^(b+1):=Nat.lt_of_le_of_lt h1.1 h2.2;have e2:2^b<2^(a+1):=Nat.lt_of_le_of_lt h2.1 h1.2;have f1:=(Nat.pow_lt_pow_iff_right (by decide)).1 e1;have f2:=(Nat.pow_lt_pow_iff_right (by decide)).1 e2;omega
def lgN (p:Int) (n:Nat):Nat:=if p=2 then 2^n else match Vr p.toNat 1120 n with
 | some s=>s.2.2
 | none=>0
theorem Zep{p n more:Nat}(hp:p∈Za4)(hn:n<=1056)(hm:6<=more){s:Nat×Nat×Nat}(h:Vr p more n=some s):s.2.2=lgN p n:=by
 have hl:=Zgc hp;have ho:=Zas hp;have h1:=(Zeq p more (by omega) (by omega) n s h).lg;obtain⟨t,ht⟩:=Option.isSome_iff_exists.1 (Zlj hp hn (Nat.le_refl 1120));have h2:=(Zeq p 1120 (by omega) (by omega) n t ht).lg;have e:lgN p n=t.2.2:=by
  unfold lgN;rw[if_neg (by omega),Int.toNat_natCast,ht]
 rw[e];exact Zrk h1 h2
theorem Zrg{p n:Nat}(hp:p∈Za4)(hn:n<=1056):Qc8 p (2^n) (lgN p n):=by
 have hl:=Zgc hp;have ho:=Zas hp;obtain⟨t,ht⟩:=Option.isSome_iff_exists.1 (Zlj hp hn (Nat.le_refl 1120));have h2:=(Zeq p 1120 (by omega) (by omega) n t ht).lg;rw[Zep hp hn (by decide) ht] at h2;exact h2
theorem Zq(n:Nat):lgN 2 n=2^n:=by unfold lgN;rw[if_pos rfl]
theorem Zv7{p n:Nat}(hp:p=2\/p∈Za4)(hn:n<=1056):lgN p n<7*2^n:=by
 rcases hp with rfl|hp
 ·have:=Nat.two_pow_pos n
  rw[show ((2:Nat):Int)=2 from rfl,Zq];omega
 ·have ho:=Zas hp;have h:=(Zrg hp hn).1;have h1:p^(2^n)<(2^7)^(2^n):=Nat.pow_lt_pow_left (by omega) (Nat.ne_of_gt (Nat.two_pow_pos n));rw[<- Nat.pow_mul] at h1;have h2:=Nat.lt_of_le_of_lt h h1;exact(Nat.pow_lt_pow_iff_right (by decide)).1 h2
theorem Qb1(p:Nat)(h:p%2=1)(m:Nat):p^m%2=1:=by
 induction m with
 | zero=>rfl
 | succ m ih=>rw[Nat.pow_succ,Nat.mul_mod,ih,h]
theorem Zv8{p n:Nat}(hp:p=2\/p∈Za4)(hn:n<=1056):LN.LogAt n (p:Int) (lgN p n):=by
 rcases hp with rfl|hp
 ·rw[show ((2:Nat):Int)=2 from rfl,Zq];exact⟨Nat.le_refl _,Nat.pow_lt_pow_right (by decide) (by omega),fun _=>rfl,fun h=>absurd rfl h⟩
 ·have ho:=Zas hp;obtain⟨h1,h2⟩:=Zrg hp hn;refine⟨by rw[Int.toNat_natCast];exact h1,by rw[Int.toNat_natCast];exact h2,fun h=>by omega,fun _=>?_⟩;rw[Int.toNat_natCast];refine Nat.lt_of_le_of_ne h1 fun e=>?_
  have h3:=Qb1 p ho.1 (2^n);rw[<- e] at h3
  by_cases h0:lgN p n=0
  ·rw[h0] at h2;have:p^1<=p^(2^n):=Nat.pow_le_pow_right (by omega) (Nat.two_pow_pos n)
   rw[Nat.pow_one] at this;omega
  ·obtain⟨k,hk⟩:=Nat.exists_eq_succ_of_ne_zero h0;rw[hk,Nat.pow_succ] at h3;omega
end Go.Proofs.YtbielfplgbammaaGreatDoor

namespace Go.Proofs.YtbielfplgbammaaGreatDoor
open Go.RowKit
theorem Zll:dec 2=⟨#[50]⟩:=by
 have:(dec 2).data = #[50]:=by decide +kernel
 exact ByteArray.ext this
theorem Va{x K:Nat}(h:x<2^K)(hK:K<100000):Num x:=by
 unfold Num;have h1:(dec x).size<=K+1:=by
  rw[Yz _ _ (by omega)];exact Nat.lt_of_lt_of_le h (Nat.le_trans (Nat.pow_le_pow_left (by decide) K) (Nat.pow_le_pow_right (by decide) (by omega)))
 omega
theorem Zx1(w:World)(n:Nat)(hn:n<=4000)(L:Qg w):Kc Tryz.prog 12 #[.string ⟨#[50]⟩,.int .i64 n] w (.tuple #[.string (dec (2^n)),.int .i64 0]):=by
 unfold Kc;have hs:=Ya w 2;rw[show itx 2=dec 2 by exact Kg 2,show ((2:Int).natAbs)=2 from rfl,Zll,decide_eq_false (by decide)] at hs;have Hs:=hd_ hs;have Hp:Hid (∀ W,Bw_ w W->Kc Tryz.prog 51 #[.string ⟨#[50]⟩,.int .i64 n] W (.tuple #[.string (dec (2^n)),.int .i64 0])):=fun W hW=>by
  have:=Zs5 W n hn (L.below hW)
  rw[Zll] at this;exact this
 have hN:Num (2^n):=Va (K:=n+1) (Nat.pow_lt_pow_right (by decide) (by omega)) (by omega);have Hj:Hid (∀ W,Kc Tryz.prog 52 #[.bool false,.string (dec (2^n))] W (.string (dec (2^n)))):=fun W=>by
  have:=Vl W false (2^n) hN
  rw[show jz false (2^n)=((2^n:Nat):Int) from rfl,Kg] at this;exact this
 clear hs L hN;generalize dec (2^n)=s at *;have h0:¬ (n:Int)<0:=by omega
 have h1:¬ (4000:Int)<n:=by omega
 have GM:((⟨#[50]⟩:ByteArray).size:Int)=1:=rfl;go_enter Tryz.func12,Tryz.ntmps12;go_wp2_with fail;refine cm_ Hs.o ?_;rintro e w1 ⟨rfl,hb⟩;have B1:=hd_ hb;clear hb Hs;go_wp2_with fail;refine cm_ (Hp.o _ B1.o) ?_;rintro e w2 ⟨rfl,hb⟩;have B2:=bt_ B1 hb;clear hb Hp B1;go_wp2_with fail;refine cm_ (Hj.o _) ?_;rintro e w3 ⟨rfl,hb⟩;have B3:=bt_ B2 hb;clear hb Hj B2;go_wp2_with fail
 go_ret2
 exact⟨rfl,B3.o⟩
theorem Zz7(w:World)(a b K:Nat)(hK:K<90000)(ha:a<2^K)(hb:b<2^K)(L:Qg w):Kc Tryz.prog 205 #[.string (dec a),.string (dec b)] w (.string (dec (a+b))):=by
 have hn:=Va ha (by omega);have hm:=Va hb (by omega);have hs:Num (a+b):=Va (K:=K+1) (by rw[Nat.pow_succ];omega) (by omega);have:=Zgl w (a:Int) (b:Int) hn hm hs L
 rw[<- Int.natCast_add,Kg,Kg,Kg] at this;exact this
theorem Qfk(w:World)(a b K:Nat)(hK:K<40000)(ha:a<2^K)(hb:b<2^K)(L:Qg w):Kc Tryz.prog 14 #[.string (dec a),.string (dec b)] w (.string (dec (a*b))):=by
 have hn:=Va ha (by omega);have hm:=Va hb (by omega);have hs:Zbo ((a:Int)*b):=Va (K:=K+K) (by rw[<- Int.natCast_mul,Int.natAbs_natCast,Nat.pow_add];exact Nat.mul_lt_mul'' ha hb) (by omega);have:=Yv w (a:Int) (b:Int) hn hm hs L
 rw[<- Int.natCast_mul,Kg,Kg,Kg] at this;exact this
theorem Qey(w:World)(a b K:Nat)(hK:K<90000)(ha:a<2^K)(hb:b<2^K)(h0:0<b)(L:Qg w):Kc Tryz.prog 163 #[.string (dec a),.string (dec b)] w (.tuple #[.string (dec (a/b)),.string (dec (a%b)),.int .i64 0]):=by
 have hn:=Va ha (by omega);have hm:=Va hb (by omega);have hs:Num ((a:Int).natAbs+1):=Va (K:=K+1) (by rw[Int.natAbs_natCast,Nat.pow_succ];omega) (by omega);have:=Yj w (a:Int) b hn hm h0 hs L
 rw[(Zlh a b).1,(Zlh a b).2,Kg,Kg,Kg] at this;exact this
theorem Qe0(_w:World)(a b K:Nat)(hK:K<90000)(ha:a<2^K)(hb:b<2^K):∃ c:Int,(c = -1\/c=0\/c=1)/\(0<=c↔b<=a)/\∀ W,Kc Tryz.prog 17 #[.string (dec a),.string (dec b)] W (.int .i64 c):=by
 have hn:=Va ha (by omega);have hm:=Va hb (by omega);refine⟨Zey a b,?_,?_,fun W=>?_⟩
 ·unfold Zey;split
  ·exact .inl rfl
  ·split
   ·exact .inr (.inl rfl)
   ·exact .inr (.inr rfl)
 ·unfold Zey;split
  ·constructor<;>omega
  ·split
   ·constructor<;>omega
   ·constructor<;>omega
 ·have:=Zde W (a:Int) (b:Int) hn hm
  rw[Kg,Kg] at this;exact this
structure Qg8 (more n:Nat) (s:Nat×Nat×Nat):Prop where
 lo:s.1<2*2^more
 hi:s.2.1<2*2^more
 o:s.2.2<2^(n+3)
theorem Zo7(p:Nat)(hp:2<=p)(gM:p<=97):p.log2<=6:=by
 have:=(Nat.log2_lt (n:=p) (k:=7) (by omega)).2 (by omega)
 omega
theorem Zw2(p more:Nat)(hp:2<=p)(gM:p<=97)(hm:64<=more):∀ n s,Vr p more n=some s->Qg8 more n s
 | 0,s,h=>by
  simp only[Vr,Option.some.injEq] at h;subst h;have h1:p<2^(p.log2+1):=Nat.lt_log2_self;have h2:=Zo7 p hp gM;have h3:p*2^(more-p.log2)<2^(p.log2+1)*2^(more-p.log2):=Nat.mul_lt_mul_of_pos_right h1 (Nat.two_pow_pos _);rw[<- Nat.pow_add,show p.log2+1+(more-p.log2)=1+more by omega,Nat.pow_add,Nat.pow_one] at h3;exact⟨h3,h3,by show p.log2<2^3;omega⟩
 | n+1,s,h=>by
  simp only[Vr] at h;obtain⟨t,ht,hs⟩:=Option.bind_eq_some_iff.1 h;obtain⟨f1,f2,f3⟩:=Zw2 p more hp gM hm n t ht;obtain⟨l,g,o⟩:=t;simp only at f1 f2 f3;simp only[Ve] at hs;have hu:=Nat.two_pow_pos more;have jf:2^1<=2^more:=Nat.pow_le_pow_right (by decide) (by omega);obtain⟨u,eu⟩:∃ u,2^more=u:=⟨_,rfl⟩;rw[eu] at hu jf f1 f2 hs;have q1:l*l/u<4*u:=by
   rw[Nat.div_lt_iff_lt_mul hu]
   calc l*l<2*u*(2*u):=Nat.mul_lt_mul'' f1 f1
    _=4*u*u:=by grind
  have q2:g*g/u+1<=4*u-3:=by
   have h1:g*g<=(2*u-1)*(2*u-1):=Nat.mul_le_mul (by omega) (by omega);have h2:g*g/u<4*u-3:=by
    rw[Nat.div_lt_iff_lt_mul hu];obtain⟨v,rfl⟩:∃ v,u=v+1:=⟨u-1,by omega⟩;have e1:2*(v+1)-1=2*v+1:=by omega
    have e2:4*(v+1)-3=4*v+1:=by omega
    rw[e1] at h1;rw[e2];have e3:(2*v+1)*(2*v+1)=4*(v*v)+4*v+1:=by grind
    have e4:(4*v+1)*(v+1)=4*(v*v)+5*v+1:=by grind
    rw[e3] at h1;rw[e4];omega
   omega
  have eo:2^(n+1+3)=2*2^(n+3):=by rw[show n+1+3=n+3+1 by omega,Nat.pow_succ];omega
  by_cases h1:2*u<=l*l/u
  ·rw[if_pos h1] at hs;cases hs
   exact⟨by simp only;rw[eu];omega,by simp only;rw[eu];omega,by simp only;omega⟩
  ·rw[if_neg h1] at hs
   by_cases h2:2*u<=g*g/u+1
   ·rw[if_pos h2] at hs;cases hs
   ·rw[if_neg h2] at hs;cases hs
    exact⟨by simp only;rw[eu];omega,by simp only;rw[eu];omega,by simp only;omega⟩
def Zcq (p n more:Nat):Value:=match Vr p more n with
 | some s => .tuple #[.string (dec s.2.2),.bool true]
 | none => .tuple #[.string ⟨#[]⟩,.bool false]
theorem Zng{p more j n:Nat}(h:Vr p more j=none)(hj:j<=n):Vr p more n=none:=by
 cases hd:Vr p more n with
 | none=>rfl
 | some s =>
  have:=Zay (m:=j) hj (show (Vr p more n).isSome=true by rw[hd];rfl)
  rw[h] at this;cases this
theorem Zof(w:World)(p n more:Nat)(hp:2<=p)(gM:p<=97)(hn:n<=4000)(hm:64<=more)(dY:more<=4000)(L:Qg w):
  Kc Tryz.prog 283 #[.int .i64 p,.int .i64 n,.int .i64 more] w (Zcq p n more):=by
 unfold Kc;have hl:=Zo7 p hp gM;have eQ:=hd_ (Tryz.bits_Len p w (by omega) (by omega));rw[show ((p:Nat):Int).toNat=p from rfl,Zfj p (by omega) gM] at eQ;have fH:IntKind.i64.wrap (((p.log2+1:Nat):Int)-1)=(p.log2:Int):=by rw[show ((p.log2+1:Nat):Int)-1=(p.log2:Int) by omega];exact iw_ _ (by omega)
 have fM:IntKind.u64.wrap (p:Int)=p:=IntWalk.u64_in _ (by omega);have dX:IntKind.i64.wrap ((more:Int)-(p.log2:Int))=((more-p.log2:Nat):Int):=by rw[show (more:Int)-(p.log2:Int)=((more-p.log2:Nat):Int) by omega];exact iw_ _ (by omega)
 have HL:=hd_ L;clear L;obtain⟨K,hK⟩:∃ K:Nat,K=4050:=⟨_,rfl⟩;have HK:=hd_ hK;have GJ:=hd_ dY;have Hn:=hd_ hn;have JH:Hid (∀ j lo hi o,Vr p more j=some (lo,hi,o)->lo<2*2^more/\hi<2*2^more/\o<2^(j+3)):=fun j lo hi o h=>by
  have:=Zw2 p more hp gM hm j _ h
  exact⟨this.lo,this.hi,this.o⟩
 have fm:Hid (∀ j s,Vr p more j=some s->Vr p more (j+1)=Ve (2^more) s):=fun j s h=>by
  simp only[Vr,h,Option.bind_some]
 have LM:Hid (0<2^more):=Nat.two_pow_pos more;have Hu:Hid (2^more<2^K):=Nat.pow_lt_pow_right (by decide) (by omega);have nX:Hid (2^more+2^more=2*2^more):=(Nat.two_mul _).symm;have Jf:Hid (2*2^more<2^K):=by
  show _<_
  rw[Nat.mul_comm,<- Nat.pow_succ];exact Nat.pow_lt_pow_right (by decide) (by omega)
 have Fq:Hid (∀ W,Bw_ w W->Kc Tryz.prog 12 #[.string ⟨#[50]⟩,.int .i64 more] W (.tuple #[.string (dec (2^more)),.int .i64 0])):=fun W hW=>Zx1 W more dY (HL.o.below hW)
 have Js:Hid (∀ W,Bw_ w W->Kc Tryz.prog 12 #[.string ⟨#[50]⟩,.int .i64 (more-p.log2:Nat)] W (.tuple #[.string (dec (2^(more-p.log2))),.int .i64 0])):=fun W hW=>Zx1 W (more-p.log2) (by omega) (HL.o.below hW)
 have H0:Hid (Vr p more 0=some (p*2^(more-p.log2),p*2^(more-p.log2),p.log2)):=rfl;have A7:Hid (∀ W,Bw_ w W->Kc Tryz.prog 13 #[.int .i64 p] W (.string (dec p))):=fun W hW=>by
  have:=Zam W p (by omega) (by omega) (HL.o.below hW)
  rw[Kg] at this;exact this
 have A6:Hid (∀ W,Bw_ w W->Kc Tryz.prog 13 #[.int .i64 p.log2] W (.string (dec p.log2))):=fun W hW=>by
  have:=Zam W p.log2 (by omega) (by omega) (HL.o.below hW)
  rw[Kg] at this;exact this
 have FW:Hid (∀ W,Bw_ w W->Kc Tryz.prog 205 #[.string (dec (2^more)),.string (dec (2^more))] W (.string (dec (2*2^more)))):=fun W hW=>by
  have:=Zz7 W (2^more) (2^more) K (by have:=HK.o;omega) Hu.o Hu.o (HL.o.below hW)
  rw[nX.o] at this;exact this
 have ie:Hid (∀ W,Bw_ w W->Kc Tryz.prog 14 #[.string (dec p),.string (dec (2^(more-p.log2)))] W (.string (dec (p*2^(more-p.log2))))):=fun W hW =>
  Qfk W p (2^(more-p.log2)) (K+K) (by have:=HK.o;omega) (Nat.lt_of_lt_of_le (show p<2^7 by omega) (Nat.pow_le_pow_right (by decide) (by have:=HK.o;omega))) (Nat.pow_lt_pow_right (by decide) (by omega)) (HL.o.below hW)
 have B0:=hd_ (Below.refl w.heap.size w);have EC:(n:Int)<=4000:=by omega
 rw[show ((more-p.log2:Nat):Int)=(more:Int)-(p.log2:Int) by omega] at Js;clear hp gM hK dX;have FH:=hd_ Yo;have ek:=hd_ Zll;generalize hlp:p.log2=lp at *;clear hlp;generalize 2^more=unit at *;generalize Ex:Zcq p n more=vv at *;have Fe:=hd_ Ex;clear Ex;go_enter Tryz.func283,Tryz.ntmps283;go_wp2_with fail;refine cm_ eQ.o ?_;rintro e w1 ⟨rfl,rfl⟩;clear eQ;go_wp2_with fail;refine cm_ (Fq.o _ B0.o) ?_;rintro e w2 ⟨rfl,hb⟩;have B2:=bt_ B0 hb;clear hb B0;go_wp2_with fail;refine cm_ (FW.o _ B2.o) ?_;rintro e w3 ⟨rfl,hb⟩;have B3:=bt_ B2 hb;clear hb B2;go_wp2_with fail;refine cm_ (Js.o _ B3.o) ?_;rintro e w4 ⟨rfl,hb⟩;have B4:=bt_ B3 hb;clear hb B3;go_wp2_with fail;refine cm_ (A7.o _ B4.o) ?_;rintro e w5 ⟨rfl,hb⟩;have B5:=bt_ B4 hb;clear hb B4;go_wp2_with fail;refine cm_ (ie.o _ B5.o) ?_;rintro e w6 ⟨rfl,hb⟩;have B6:=bt_ B5 hb;clear hb B5;go_wp2_with fail;refine cm_ (A6.o _ B6.o) ?_;rintro e w7 ⟨rfl,hb⟩;have B7:=bt_ B6 hb;clear hb B6;go_wp2_with fail;clear Fq FW Js A7 ie A6;generalize p*2^(more-lp)=st at *
 go_loopw [14,15,16,50] (fun a b c i wr=>∃ (j lo hi o:Nat),j<=n/\Hid (Vr p more j=some (lo,hi,o))/\a = .string (dec lo)/\b = .string (dec hi)/\c = .string (dec o)/\i = .int .i64 j/\Hid (Bw_ w1 wr)) (fun _ _ _ i _=>n-(intOf i).toNat)
 case atStart=>exact⟨0,_,_,_,by omega,H0,rfl,rfl,rfl,rfl,B7⟩
 case round =>
  clear B7 H0;obtain⟨j,lo,hi,o,hj,Hd,rfl,rfl,rfl,rfl,B1⟩:=hrel
  by_cases gd:j<n
  ·have gu:(j:Int)<n:=by omega
   obtain⟨f1,f2,f3⟩:=JH.o j _ _ _ Hd.o;have g1:lo<2^K:=Nat.lt_trans f1 Jf.o;have g2:hi<2^K:=Nat.lt_trans f2 Jf.o;have g3:o<2^K:=Nat.lt_of_lt_of_le f3 (Nat.pow_le_pow_right (by decide) (by have:=Hn.o;have:=HK.o;omega));clear f1 f2 f3;have k1:lo*lo<2^(K+K):=by rw[Nat.pow_add];exact Nat.mul_lt_mul'' g1 g1
   have k2:hi*hi<2^(K+K):=by rw[Nat.pow_add];exact Nat.mul_lt_mul'' g2 g2
   have k3:unit<2^(K+K):=Nat.lt_trans Hu.o (Nat.pow_lt_pow_right (by decide) (by have:=HK.o;omega));have k4:2*unit<2^(K+K+1):=Nat.lt_trans Jf.o (Nat.pow_lt_pow_right (by decide) (by have:=HK.o;omega));have k5:lo*lo/unit<2^(K+K):=Nat.lt_of_le_of_lt (Nat.div_le_self _ _) k1;have k6:hi*hi/unit<2^(K+K):=Nat.lt_of_le_of_lt (Nat.div_le_self _ _) k2;have one:1<2^(K+K):=Nat.one_lt_two_pow (by have:=HK.o;omega);have k7:hi*hi/unit+1<2^(K+K+1):=by rw[Nat.pow_succ 2 (K+K)];omega
   have k8:lo*lo/unit<2^(K+K+1):=Nat.lt_trans k5 (Nat.pow_lt_pow_right (by decide) (by have:=HK.o;omega));have k9:(hi*hi/unit+1)/2<2^(K+K+1):=Nat.lt_of_le_of_lt (Nat.div_le_self _ _) k7;have bF:1<2^(K+K+1):=Nat.one_lt_two_pow (by have:=HK.o;omega);have bE:2<2^(K+K+1):=by
    have:2^2<=2^(K+K+1):=Nat.pow_le_pow_right (by decide) (by have:=HK.o;omega)
    omega
   have nF:o<2^(K+K):=Nat.lt_trans g3 (Nat.pow_lt_pow_right (by decide) (by have:=HK.o;omega));have k10:o+o<2^(K+K+1):=by rw[Nat.pow_succ 2 (K+K)];omega
   have BL:=fun W (hW:Bw_ wr W)=>HL.o.below (bu_ B1 hW)
   have M1:Hid (∀ W,Bw_ wr W->Kc Tryz.prog 14 #[.string (dec lo),.string (dec lo)] W (.string (dec (lo*lo)))):=fun W hW=>Qfk W lo lo K (by have:=HK.o;omega) g1 g1 (BL W hW)
   have M2:Hid (∀ W,Bw_ wr W->Kc Tryz.prog 14 #[.string (dec hi),.string (dec hi)] W (.string (dec (hi*hi)))):=fun W hW=>Qfk W hi hi K (by have:=HK.o;omega) g2 g2 (BL W hW)
   have D1:Hid (∀ W,Bw_ wr W->Kc Tryz.prog 163 #[.string (dec (lo*lo)),.string (dec unit)] W (.tuple #[.string (dec (lo*lo/unit)),.string (dec (lo*lo%unit)),.int .i64 0])):=fun W hW=>Qey W _ unit (K+K) (by have:=HK.o;omega) k1 k3 LM.o (BL W hW)
   have D2:Hid (∀ W,Bw_ wr W->Kc Tryz.prog 163 #[.string (dec (hi*hi)),.string (dec unit)] W (.tuple #[.string (dec (hi*hi/unit)),.string (dec (hi*hi%unit)),.int .i64 0])):=fun W hW=>Qey W _ unit (K+K) (by have:=HK.o;omega) k2 k3 LM.o (BL W hW)
   have A1:Hid (∀ W,Bw_ wr W->Kc Tryz.prog 205 #[.string (dec (hi*hi/unit)),.string ⟨#[49]⟩] W (.string (dec (hi*hi/unit+1)))):=fun W hW=>by
    have:=Zz7 W _ 1 (K+K) (by have:=HK.o;omega) k6 one (BL W hW)
    rw[FH.o] at this;exact this
   have A2:Hid (∀ W,Bw_ wr W->Kc Tryz.prog 205 #[.string (dec o),.string (dec o)] W (.string (dec (o+o)))):=fun W hW=>Zz7 W o o K (by have:=HK.o;omega) g3 g3 (BL W hW)
   have A3:Hid (∀ W,Bw_ wr W->Kc Tryz.prog 205 #[.string (dec (o+o)),.string ⟨#[49]⟩] W (.string (dec (o+o+1)))):=fun W hW=>by
    have:=Zz7 W _ 1 (K+K+1) (by have:=HK.o;omega) k10 bF (BL W hW)
    rw[FH.o] at this;exact this
   have D3:Hid (∀ W,Bw_ wr W->Kc Tryz.prog 163 #[.string (dec (lo*lo/unit)),.string ⟨#[50]⟩] W (.tuple #[.string (dec (lo*lo/unit/2)),.string (dec (lo*lo/unit%2)),.int .i64 0])):=fun W hW=>by
    have:=Qey W _ 2 (K+K+1) (by have:=HK.o;omega) k8 bE (by decide) (BL W hW)
    rw[ek.o] at this;exact this
   have D4:Hid (∀ W,Bw_ wr W->Kc Tryz.prog 163 #[.string (dec (hi*hi/unit+1)),.string ⟨#[50]⟩] W (.tuple #[.string (dec ((hi*hi/unit+1)/2)),.string (dec ((hi*hi/unit+1)%2)),.int .i64 0])):=fun W hW=>by
    have:=Qey W _ 2 (K+K+1) (by have:=HK.o;omega) k7 bE (by decide) (BL W hW)
    rw[ek.o] at this;exact this
   have A4:Hid (∀ W,Bw_ wr W->Kc Tryz.prog 205 #[.string (dec ((hi*hi/unit+1)/2)),.string ⟨#[49]⟩] W (.string (dec ((hi*hi/unit+1)/2+1)))):=fun W hW=>by
    have:=Zz7 W _ 1 (K+K+1) (by have:=HK.o;omega) k9 bF (BL W hW)
    rw[FH.o] at this;exact this
   obtain⟨c1,Ga,hc1',C1⟩:=Qe0 wr (lo*lo/unit) (2*unit) (K+K+1) (by have:=HK.o;omega) k8 k4;obtain⟨c2,Gp,hc2',C2⟩:=Qe0 wr (hi*hi/unit+1) (2*unit) (K+K+1) (by have:=HK.o;omega) k7 k4;have FR:=hd_ C1;have fD:=hd_ C2;have gF:=hd_ hc1';have gP:=hd_ hc2';have Gv:=hd_ (fm.o j _ Hd.o);simp only[Ve] at Gv;have me:Hid (2*o=o+o):=Nat.two_mul o;rw[me.o] at Gv;clear C1 C2 hc1' hc2' BL k1 k2 k3 k4 k5 k6 k7 k8 k9 k10 one bF bE g1 g2 g3 nF me;generalize lo*lo/unit=X1 at *;generalize hi*hi/unit=X2 at *;generalize lo*lo%unit=r1 at *;generalize hi*hi%unit=r2 at *;generalize lo*lo=q1 at *;generalize hi*hi=q2 at *;generalize X1%2=r3 at *;generalize (X2+1)%2=r4 at *;obtain⟨Y1,hY1⟩:∃ y,X1/2=y:=⟨_,rfl⟩;obtain⟨Y2,hY2⟩:∃ y,(X2+1)/2+1=y:=⟨_,rfl⟩;obtain⟨Y3,hY3⟩:∃ y,X2+1=y:=⟨_,rfl⟩;rw[hY1] at D3 Gv;rw[hY2] at A4 Gv;rw[hY3] at D4 A1 fD Gv gP A4;clear hY1 hY2 hY3;generalize Y3/2=Y4 at *;generalize dec lo=slo at *;generalize dec hi=shi at *;generalize dec o=so at *;generalize o+o=oo at *;have P0:=hd_ (Below.refl wr.heap.size wr);clear fm JH
   by_cases h1:0<=c1
   ·have D9:Hid (Vr p more (j+1)=some (Y1,Y2,oo+1)):=by
     show _=_
     rw[Gv.o,if_pos (gF.o.1 h1)]
    clear Gv gF gP fD;go_wp2_with fail;refine cm_ (M1.o _ P0.o) ?_;rintro e w1 ⟨rfl,hb⟩;have P1:=bt_ P0 hb;clear hb P0 M1;go_wp2_with fail;refine cm_ (D1.o _ P1.o) ?_;rintro e w2 ⟨rfl,hb⟩;have P2:=bt_ P1 hb;clear hb P1 D1;go_wp2_with fail;refine cm_ (M2.o _ P2.o) ?_;rintro e w3 ⟨rfl,hb⟩;have P3:=bt_ P2 hb;clear hb P2 M2;go_wp2_with fail;refine cm_ (D2.o _ P3.o) ?_;rintro e w4 ⟨rfl,hb⟩;have P4:=bt_ P3 hb;clear hb P3 D2;go_wp2_with fail;refine cm_ (A1.o _ P4.o) ?_;rintro e w5 ⟨rfl,hb⟩;have P5:=bt_ P4 hb;clear hb P4 A1;go_wp2_with fail;refine cm_ (A2.o _ P5.o) ?_;rintro e w6 ⟨rfl,hb⟩;have P6:=bt_ P5 hb;clear hb P5 A2;go_wp2_with fail;refine cm_ (FR.o _) ?_;rintro e w7 ⟨rfl,hb⟩;have P7:=bt_ P6 hb;clear hb P6 FR;go_wp2_with fail;refine cm_ (A3.o _ P7.o) ?_;rintro e w8 ⟨rfl,hb⟩;have P8:=bt_ P7 hb;clear hb P7 A3;go_wp2_with fail;refine cm_ (D3.o _ P8.o) ?_;rintro e w9 ⟨rfl,hb⟩;have P9:=bt_ P8 hb;clear hb P8 D3;go_wp2_with fail;refine cm_ (D4.o _ P9.o) ?_;rintro e w10 ⟨rfl,hb⟩;have Jb:=bt_ P9 hb;clear hb P9 D4;go_wp2_with fail;refine cm_ (A4.o _ Jb.o) ?_;rintro e w11 ⟨rfl,hb⟩;have nP:=bt_ Jb hb;clear hb Jb A4;go_wp2_with fail;have B9:=bt_ B1 nP.o
    go_roundw
    case rel=>exact⟨j+1,Y1,Y2,oo+1,by omega,D9,rfl,rfl,rfl,by go_num,B9⟩
    case measure=>simp[intOf];omega
   ·have FV:c1<0:=by omega
    by_cases h2:0<=c2
    ·have D9:Hid (Vr p more (j+1)=none):=by
      show _=_
      rw[Gv.o,if_neg (fun h=>h1 (gF.o.2 h)),if_pos (gP.o.1 h2)]
     have Je:Hid (vv = .tuple #[.string ⟨#[]⟩,.bool false]):=by
      show _=_
      rw[<- Fe.o];unfold Zcq;rw[Zng D9.o (by omega)]
     clear Gv gF gP A3 D3 D4 A4;go_wp2_with fail;refine cm_ (M1.o _ P0.o) ?_;rintro e w1 ⟨rfl,hb⟩;have P1:=bt_ P0 hb;clear hb P0 M1;go_wp2_with fail;refine cm_ (D1.o _ P1.o) ?_;rintro e w2 ⟨rfl,hb⟩;have P2:=bt_ P1 hb;clear hb P1 D1;go_wp2_with fail;refine cm_ (M2.o _ P2.o) ?_;rintro e w3 ⟨rfl,hb⟩;have P3:=bt_ P2 hb;clear hb P2 M2;go_wp2_with fail;refine cm_ (D2.o _ P3.o) ?_;rintro e w4 ⟨rfl,hb⟩;have P4:=bt_ P3 hb;clear hb P3 D2;go_wp2_with fail;refine cm_ (A1.o _ P4.o) ?_;rintro e w5 ⟨rfl,hb⟩;have P5:=bt_ P4 hb;clear hb P4 A1;go_wp2_with fail;refine cm_ (A2.o _ P5.o) ?_;rintro e w6 ⟨rfl,hb⟩;have P6:=bt_ P5 hb;clear hb P5 A2;go_wp2_with fail;refine cm_ (FR.o _) ?_;rintro e w7 ⟨rfl,hb⟩;have P7:=bt_ P6 hb;clear hb P6 FR;go_wp2_with fail;refine cm_ (fD.o _) ?_;rintro e w8 ⟨rfl,hb⟩;have P8:=bt_ P7 hb;clear hb P7 fD;go_wp2_with fail;have B9:=bt_ B1 P8.o
     go_ret2
     exact⟨by rw[Je.o];rfl,B9.o⟩
    ·have Ei:c2<0:=by omega
     have D9:Hid (Vr p more (j+1)=some (X1,Y3,oo)):=by
      show _=_
      rw[Gv.o,if_neg (fun h=>h1 (gF.o.2 h)),if_neg (fun h=>h2 (gP.o.2 h))]
     clear Gv gF gP A3 D3 D4 A4;go_wp2_with fail;refine cm_ (M1.o _ P0.o) ?_;rintro e w1 ⟨rfl,hb⟩;have P1:=bt_ P0 hb;clear hb P0 M1;go_wp2_with fail;refine cm_ (D1.o _ P1.o) ?_;rintro e w2 ⟨rfl,hb⟩;have P2:=bt_ P1 hb;clear hb P1 D1;go_wp2_with fail;refine cm_ (M2.o _ P2.o) ?_;rintro e w3 ⟨rfl,hb⟩;have P3:=bt_ P2 hb;clear hb P2 M2;go_wp2_with fail;refine cm_ (D2.o _ P3.o) ?_;rintro e w4 ⟨rfl,hb⟩;have P4:=bt_ P3 hb;clear hb P3 D2;go_wp2_with fail;refine cm_ (A1.o _ P4.o) ?_;rintro e w5 ⟨rfl,hb⟩;have P5:=bt_ P4 hb;clear hb P4 A1;go_wp2_with fail;refine cm_ (A2.o _ P5.o) ?_;rintro e w6 ⟨rfl,hb⟩;have P6:=bt_ P5 hb;clear hb P5 A2;go_wp2_with fail;refine cm_ (FR.o _) ?_;rintro e w7 ⟨rfl,hb⟩;have P7:=bt_ P6 hb;clear hb P6 FR;go_wp2_with fail;refine cm_ (fD.o _) ?_;rintro e w8 ⟨rfl,hb⟩;have P8:=bt_ P7 hb;clear hb P7 fD;go_wp2_with fail;have B9:=bt_ B1 P8.o
     go_roundw
     case rel=>exact⟨j+1,X1,Y3,oo,by omega,D9,rfl,rfl,rfl,by go_num,B9⟩
     case measure=>simp[intOf];omega
  ·have gu:¬ (j:Int)<n:=by omega
   have Cx:j=n:=by omega
   subst Cx;have Je:Hid (vv = .tuple #[.string (dec o),.bool true]):=by
    show _=_
    rw[<- Fe.o];unfold Zcq;rw[Hd.o]
   clear fm JH;go_wp2_with fail
   go_ret2
   exact⟨by rw[Je.o];rfl,B1.o⟩
theorem Zpt{p n:Nat}(ho:p∈Za4)(hn:n<=1056):∀ more,1120<=more->(Vr p more n).isSome=true:=by
 intro more hm;exact Zlj (p:=p) (n:=n) (more:=more) ho hn hm
theorem Qco{p n:Nat}(ho:p∈Za4)(hn:n<=1056):∀ more s,64<=more->Vr p more n=some s->dec (lgN p n)=dec s.2.2:=by
 intro more s hm h;have h1:6<=more:=Nat.le_trans (by decide) hm;have:=Zep (p:=p) (n:=n) (more:=more) ho hn h1 h
 rw[this]
theorem Qb8(w:World)(p n:Nat)(hp:p=2\/p∈Za4)(hn:n<=1056)(L:Qg w):Kc Tryz.prog 232 #[.int .i64 p,.int .i64 n] w (.string (dec (lgN p n))):=by
 unfold Kc
 by_cases h2:p=2
 ·subst h2;have Hp:=hd_ (Zx1 w n (by omega) L);rw[show ((2:Nat):Int)=2 from rfl,Zq];clear L hp;generalize dec (2^n)=s at *;go_enter Tryz.func232,Tryz.ntmps232;go_wp2_with fail;refine cm_ Hp.o ?_;rintro e w1 ⟨rfl,hb⟩;have B1:=hd_ hb;clear hb Hp;go_wp2_with fail;go_ret;exact⟨rfl,B1.o⟩
 ·have ho:=hp.resolve_left h2;have Fa:=Zas ho;have Ei:((p:Int)==2)=false:=by rw[beq_eq_false_iff_ne];omega
  have HL:=hd_ L;have BF:Hid (∀ (more:Nat) W,64<=more->more<=4000->Bw_ w W->Kc Tryz.prog 283 #[.int .i64 p,.int .i64 n,.int .i64 more] W (Zcq p n more)):=fun more W h1 h2 hW =>
   Zof W p n more (by omega) (by omega) (by omega) h1 h2 (HL.o.below hW)
  have Ck:Hid (∀ more:Nat,1120<=more->(Vr p more n).isSome=true):=hd_ (Zpt ho hn);have Dl:Hid (∀ (more:Nat) s,64<=more->Vr p more n=some s->dec (lgN p n)=dec s.2.2):=hd_ (Qco ho hn);have fH:IntKind.i64.wrap ((n:Int)+64)=((n+64:Nat):Int):=by rw[show (n:Int)+64=((n+64:Nat):Int) by omega];exact iw_ _ (by omega)
  have B0:=hd_ (Below.refl w.heap.size w);clear L hp ho h2 Fa;generalize dec (lgN p n)=vv at *;go_enter Tryz.func232,Tryz.ntmps232;go_wp2_with fail
  go_loopw [7] (fun a wr=>∃ (more:Nat),Hid (64<=more)/\more<=4000/\a = .int .i64 more/\Hid (Bw_ w wr)) (fun a _=>4000-(intOf a).toNat)
  case atStart=>exact⟨n+64,by show _<=_;omega,by omega,rfl,B0⟩
  case round =>
   clear B0;obtain⟨more,H64,h4000,rfl,B1⟩:=hrel;have Hd:=hd_ (BF.o more wr H64.o h4000 B1.o);cases hd:Vr p more n with
   | some s =>
    have Hs:Hid (Zcq p n more = .tuple #[.string (dec s.2.2),.bool true]):=by show _=_;unfold Zcq;rw[hd]
    have Hv:Hid (vv=dec s.2.2):=Dl.o more s H64.o hd;rw[Hs.o] at Hd;clear hd Hs Dl Ck BF;go_wp2_with fail;refine cm_ Hd.o ?_;rintro e w1 ⟨rfl,hb⟩;have B2:=bt_ B1 hb;clear hb Hd;go_wp2_with fail;go_ret;exact⟨by rw[Hv.o];rfl,B2.o⟩
   | none =>
    have Hs:Hid (Zcq p n more = .tuple #[.string ⟨#[]⟩,.bool false]):=by show _=_;unfold Zcq;rw[hd]
    rw[Hs.o] at Hd;have gd:more<1120:=by
     refine Nat.lt_of_not_le fun h=>?_
     have:=Ck.o more h
     rw[hd] at this;cases this
    have fM:IntKind.i64.wrap ((more:Int)*2)=((more*2:Nat):Int):=by rw[show (more:Int)*2=((more*2:Nat):Int) by omega];exact iw_ _ (by omega)
    clear hd Hs Dl Ck BF;go_wp2_with fail;refine cm_ Hd.o ?_;rintro e w1 ⟨rfl,hb⟩;have B2:=bt_ B1 hb;clear hb Hd;go_wp2_with fail
    go_roundw
    case rel=>exact⟨more*2,by have:=H64.o;show _<=_;omega,by omega,rfl,B2⟩
    case measure=>have:=H64.o;simp[intOf];omega
end Go.Proofs.YtbielfplgbammaaGreatDoor

namespace Go.Proofs.YtbielfplgbammaaGreatDoor.LN
def sg (x:Rat):Int:=if 1<x then 1 else if x<1 then -1 else 0
theorem Zqu:sg 1=0:=by decide
theorem sg_pos{x:Rat}:sg x=1↔1<x:=by
 unfold sg
 by_cases h:1<x
 ·simp[h]
 ·rw[if_neg h];split<;>simp[h]
theorem sg_low{x:Rat}:sg x = -1↔x<1:=by
 unfold sg
 by_cases h:1<x
 ·rw[if_pos h];constructor
  ·intro h2;cases h2
  ·intro h2;exact absurd h2 (by grind)
 ·rw[if_neg h];split<;>simp_all
theorem sg_ge{x:Rat}:0<=sg x↔1<=x:=by
 constructor
 ·intro h;refine Rat.not_lt.1 fun h2=>?_
  rw[sg_low.2 h2] at h;omega
 ·intro h;unfold sg;split
  ·decide
  ·split
   ·rename_i h2;exact absurd h (Rat.not_le.2 h2)
   ·decide
theorem sg_le{x:Rat}:sg x<=0↔x<=1:=by
 constructor
 ·intro h;refine Rat.not_lt.1 fun h2=>?_
  rw[sg_pos.2 h2] at h;omega
 ·intro h;unfold sg;split
  ·rename_i h2;exact absurd h (Rat.not_le.2 h2)
  ·split<;>decide
theorem Zu4{x:Rat}:sg x=0↔x=1:=by
 constructor
 ·intro h;exact Rat.le_antisymm (sg_le.1 (by omega)) (sg_ge.1 (by omega))
 ·rintro rfl;exact Zqu
theorem sg_cases(x:Rat):sg x=1\/sg x=0\/sg x = -1:=by
 unfold sg;split
 ·exact .inl rfl
 ·split
  ·exact .inr (.inr rfl)
  ·exact .inr (.inl rfl)
theorem Zji{x y:Rat}(hx:1<=x)(hy:1<=y):1<=x*y:=by
 have h:=Rat.mul_le_mul_of_nonneg_left hy (show 0<=x by grind);rw[Rat.mul_one] at h;exact Rat.le_trans hx h
theorem one_lt_mul{x y:Rat}(hx:1<x)(hy:1<=y):1<x*y:=by
 have h:=Rat.mul_le_mul_of_nonneg_left hy (show 0<=x by grind);rw[Rat.mul_one] at h
 grind
theorem Zjk{x y:Rat}(h0:0<x)(hx:x<=1)(hy:y<=1):x*y<=1:=by
 have h:=Rat.mul_le_mul_of_nonneg_left hy (show 0<=x by grind);rw[Rat.mul_one] at h
 grind
theorem mul_lt_one{x y:Rat}(h0:0<x)(hx:x<1)(hy:y<=1):x*y<1:=by
 have h:=Rat.mul_le_mul_of_nonneg_left hy (show 0<=x by grind);rw[Rat.mul_one] at h
 grind
theorem Ze6{x:Rat}(hx:1<=x):∀ m:Nat,1<=x^m
 | 0=>by rw[Rat.pow_zero];exact Rat.le_refl
 | m+1=>by rw[Rat.pow_succ];exact Zji (Ze6 hx m) hx
theorem Zjd{x:Rat}(hx:1<x)(m:Nat)(hm:0<m):1<x^m:=by
 obtain⟨k,rfl⟩:=Nat.exists_eq_succ_of_ne_zero (by omega:m≠0);rw[Rat.pow_succ,Rat.mul_comm];exact one_lt_mul hx (Ze6 (by grind) k)
theorem Zje{x:Rat}(h0:0<x)(hx:x<=1):∀ m:Nat,x^m<=1
 | 0=>by rw[Rat.pow_zero];exact Rat.le_refl
 | m+1=>by rw[Rat.pow_succ];exact Zjk (Rat.pow_pos h0) (Zje h0 hx m) hx
theorem Zs6{x:Rat}(h0:0<x)(hx:x<1)(m:Nat)(hm:0<m):x^m<1:=by
 obtain⟨k,rfl⟩:=Nat.exists_eq_succ_of_ne_zero (by omega:m≠0);rw[Rat.pow_succ,Rat.mul_comm];exact mul_lt_one h0 hx (Zje h0 (by grind) k)
theorem Zu5{x:Rat}(h0:0<x){m:Nat}(hm:0<m):sg (x^m)=sg x:=by
 rcases sg_cases x with h|h|h
 ·rw[h];exact sg_pos.2 (Zjd (sg_pos.1 h) m hm)
 ·rw[h];rw[Zu4.1 h];have:(1:Rat)^m=1:=by
   clear hm
   induction m with
   | zero=>rfl
   | succ m ih=>rw[Rat.pow_succ,ih,Rat.mul_one]
  rw[this];exact Zqu
 ·rw[h];exact sg_low.2 (Zs6 h0 (sg_low.1 h) m hm)
theorem Qak{x:Rat}(h0:0<x):sg x⁻¹ = - sg x:=by
 have h1:=Rat.inv_pos.2 h0;have e:=Rat.mul_inv_cancel x (by grind);rcases sg_cases x with h|h|h
 ·rw[h];have hx:=sg_pos.1 h;refine sg_low.2 (Rat.not_le.1 fun h2=>?_);have:=one_lt_mul hx h2
  rw[e] at this;exact Rat.lt_irrefl this
 ·rw[h,Zu4.1 h,Rat.inv_eq_of_mul_eq_one (Rat.mul_one 1),Zqu];rfl
 ·rw[h];have hx:=sg_low.1 h;refine sg_pos.2 (Rat.not_le.1 fun h2=>?_);have:=mul_lt_one h0 hx h2
  rw[e] at this;exact Rat.lt_irrefl this
theorem Zu7{x y:Rat}(hx:0<=sg x)(hy:0<=sg y):0<=sg (x*y):=sg_ge.2 (Zji (sg_ge.1 hx) (sg_ge.1 hy))
theorem Zu6{x y:Rat}(h0:0<x)(hx:sg x<=0)(hy:sg y<=0):sg (x*y)<=0:=sg_le.2 (Zjk h0 (sg_le.1 hx) (sg_le.1 hy))
def vp:List Int->List Int->Rat
 | p::ps,k::ks=>(p:Rat)^k*vp ps ks
 | _,_=>1
theorem Ziq:∀ (ps ks:List Int),(∀ p∈ps,0<p)->0<vp ps ks
 | [],_,_=>by simp only[vp];decide
 | _::_,[],_=>by simp only[vp];decide
 | p::ps,k::ks,h=>by
  simp only[vp];exact Rat.mul_pos (Rat.zpow_pos (by have:=h p List.mem_cons_self;exact Rat.intCast_pos.2 this)) (Ziq ps ks fun q hq=>h q (List.mem_cons_of_mem _ hq))
theorem Zl0:∀ (ps ks ms:List Int),(∀ p∈ps,0<p)->ks.length=ms.length->vp ps (List.zipWith (· + ·) ks ms)=vp ps ks*vp ps ms
 | [],_,_,_,_=>by simp only[vp];rw[Rat.mul_one]
 | _::_,[],[],_,_=>by simp[vp]
 | p::ps,k::ks,m::ms,h,hl=>by
  have ih:=Zl0 ps ks ms (fun q hq=>h q (List.mem_cons_of_mem _ hq)) (by simpa using hl);have hp:=h p List.mem_cons_self;have f9:(p:Rat)≠0:=by have:=Rat.intCast_pos.2 hp;grind
  simp only[List.zipWith_cons_cons,vp];rw[ih,Rat.zpow_add f9]
  grind
theorem Zj3:∀ (ps ks:List Int),(∀ k∈ks,k=0)->vp ps ks=1
 | [],_,_=>rfl
 | _::_,[],_=>rfl
 | p::ps,k::ks,h=>by
  simp only[vp];rw[h k List.mem_cons_self,Zj3 ps ks fun x hx=>h x (List.mem_cons_of_mem _ hx),Rat.zpow_zero,Rat.mul_one]
theorem Qae(ps ks:List Int)(h:∀ p∈ps,0<p):vp ps (ks.map fun k => -k)=(vp ps ks)⁻¹:=by
 have e:=Zl0 ps ks (ks.map fun k => -k) h (by simp);have z:vp ps (List.zipWith (· + ·) ks (ks.map fun k => -k))=1:=by
  refine Zj3 _ _ fun k hk=>?_
  rw[List.zipWith_map_right] at hk;rw[List.mem_iff_getElem] at hk;obtain⟨i,hi,rfl⟩:=hk;simp;omega
 rw[z] at e;exact(Rat.inv_eq_of_mul_eq_one e.symm).symm
theorem Zd5(ps ks:List Int)(h:∀ p∈ps,0<p):∀ m:Nat,vp ps (ks.map fun k=>(m:Int)*k)=vp ps ks^m
 | 0=>by
  rw[Rat.pow_zero];refine Zj3 _ _ fun k hk=>?_
  obtain⟨x,_,rfl⟩:=List.mem_map.1 hk;simp
 | m+1=>by
  have ih:=Zd5 ps ks h m;have e:=Zl0 ps (ks.map fun k=>(m:Int)*k) ks h (by simp);rw[Rat.pow_succ,<- ih,<- e];congr 1;rw[List.zipWith_map_left];refine List.ext_getElem (by simp) fun i h1 h2=>?_
  simp;rw[Int.add_mul,Int.one_mul]
def vt:List (Int×Int)->Rat
 | []=>1
 | x::l=>(x.1:Rat)^x.2*vt l
theorem natCast_pow(a n:Nat):((a^n:Nat):Rat)=(a:Rat)^n:=by
 induction n with
 | zero=>rw[Nat.pow_zero,Rat.pow_zero];rfl
 | succ n ih=>rw[Nat.pow_succ,Rat.pow_succ,Rat.natCast_mul,ih]
theorem Qbd:∀ l:List (Int×Int),(∀ x∈l,0<x.1)->((upT l:Nat):Rat)=vt l*((upT (negT l):Nat):Rat)
 | [],_=>by simp[upT,negT,vt]
 | x::l,h=>by
  have ih:=Qbd l fun y hy=>h y (List.mem_cons_of_mem _ hy)
  have hx:=h x List.mem_cons_self;have e:negT (x::l)=(x.1,-x.2)::negT l:=rfl;rw[e];simp only[upT,vt];rw[Rat.natCast_mul,Rat.natCast_mul,ih,natCast_pow,natCast_pow];have hp:((x.1.toNat:Nat):Rat)=(x.1:Rat):=by
   rw[<- Rat.intCast_natCast,Int.toNat_of_nonneg (by omega)]
  rw[hp];have f9:(x.1:Rat)≠0:=by have:=Rat.intCast_pos.2 hx;grind
  have Ge:(x.1:Rat)^x.2.toNat=(x.1:Rat)^x.2*(x.1:Rat)^(-x.2).toNat:=by
   rw[<- Rat.zpow_natCast,<- Rat.zpow_natCast,<- Rat.zpow_add f9];congr 1;omega
  rw[Ge]
  grind
theorem Zn4:∀ l:List (Int×Int),(∀ x∈l,0<x.1)->0<upT l
 | [],_=>by simp[upT]
 | x::l,h=>by
  have hx:=h x List.mem_cons_self;exact Nat.mul_pos (Nat.pow_pos (by omega)) (Zn4 l fun y hy=>h y (List.mem_cons_of_mem _ hy))
theorem Zqt(l:List (Int×Int))(h:∀ x∈l,0<x.1):signT l=sg (vt l):=by
 have e:=Qbd l h;have hd:(0:Rat)<((upT (negT l):Nat):Rat):=by
  have:=Zn4 (negT l) (by
   intro x hx;obtain⟨y,hy,rfl⟩:=List.mem_map.1 hx;exact h y hy)
  exact Rat.natCast_pos.2 this
 have c1:upT (negT l)<upT l↔1<vt l:=by
  rw[<- Rat.natCast_lt_natCast,e];constructor
  ·intro h1;refine Rat.lt_of_mul_lt_mul_right (c:=((upT (negT l):Nat):Rat)) ?_ (Rat.le_of_lt hd);rw[Rat.one_mul];exact h1
  ·intro h1;have:=Rat.mul_lt_mul_of_pos_right h1 hd
   rw[Rat.one_mul] at this;exact this
 have c2:upT l<upT (negT l)↔vt l<1:=by
  rw[<- Rat.natCast_lt_natCast,e];constructor
  ·intro h1;refine Rat.lt_of_mul_lt_mul_right (c:=((upT (negT l):Nat):Rat)) ?_ (Rat.le_of_lt hd);rw[Rat.one_mul];exact h1
  ·intro h1;have:=Rat.mul_lt_mul_of_pos_right h1 hd
   rw[Rat.one_mul] at this;exact this
 unfold signT sg;simp only[c1,c2]
theorem mkRat_den'(n:Int)(d:Nat)(h:d≠0):(mkRat n d).den=d/Nat.gcd n.natAbs d:=by
 rw[<- Rat.normalize_eq_mkRat h,Rat.den_normalize]
theorem Zku{q:Rat}:0<q.num↔0<q:=by
 have h1:=@Rat.num_nonneg q;have h2:=@Rat.num_eq_zero q;constructor
 ·intro h;have:=h1.1 (by omega)
  have h3:q≠0:=fun e=>by have:=h2.2 e;omega
  grind
 ·intro h;have:=h1.2 (by grind)
  have h3:q.num≠0:=fun e=>by have:=h2.1 e;grind
  omega
theorem Zq7{q:Rat}:q.num<0↔q<0:=by
 have h1:=@Zku (-q);rw[Rat.neg_num] at h1;constructor
 ·intro h;have:=h1.1 (by omega)
  grind
 ·intro h;have:=h1.2 (by grind)
  omega
theorem Qbz(q:Rat):q<0\/q=0\/0<q:=by grind
theorem Zrb(q:Rat):q*(q.den:Rat)=(q.num:Rat):=by
 have h:mkRat q.num q.den=(q.num:Rat)/((q.den:Nat):Rat):=Rat.mkRat_eq_div _ _;rw[Rat.mkRat_self] at h;have h2:((q.den:Nat):Rat)≠0:=by have:=Rat.natCast_pos.2 q.den_pos;grind
 have h3:=Rat.div_mul_cancel (a:=(q.num:Rat)) h2;rw[<- h] at h3;exact h3
def ex (D:Nat) (q:Rat):Int:=q.num*((D/q.den:Nat):Int)
theorem ex_eq{D:Nat}{q:Rat}(h:q.den ∣ D):(ex D q:Rat)=q*(D:Rat):=by
 obtain⟨m,rfl⟩:=h;unfold ex;rw[Nat.mul_div_cancel_left _ q.den_pos,Rat.intCast_mul,Rat.intCast_natCast,Rat.natCast_mul];have h1:=Zrb q
 grind
theorem Qet{D:Nat}{a b:Rat}(ha:a.den ∣ D)(hb:b.den ∣ D)(hc:(a+b).den ∣ D):ex D (a+b)=ex D a+ex D b:=by
 rw[<- Rat.intCast_inj,Rat.intCast_add,ex_eq ha,ex_eq hb,ex_eq hc]
 grind
theorem Qes{D:Nat}{a:Rat}:ex D (-a) = - ex D a:=by
 unfold ex;rw[Rat.neg_num,Rat.neg_den]
 grind
theorem ex_mul{D m:Nat}{a:Rat}(ha:a.den ∣ D):ex (m*D) a=(m:Int)*ex D a:=by
 have:a.den ∣ m*D:=Nat.dvd_trans ha (Nat.dvd_mul_left ..)
 rw[<- Rat.intCast_inj,Rat.intCast_mul,ex_eq ha,ex_eq this,Rat.natCast_mul,Rat.intCast_natCast]
 grind
theorem ex_zero{D:Nat}(a:Rat)(h:a.num=0):ex D a=0:=by unfold ex;rw[h];simp
theorem Zf7(D:Nat):∀ (ps:List Int) (l:List Rat),vt (Kr D ps l)=vp ps (l.map (ex D))
 | [],_=>rfl
 | _::_,[]=>rfl
 | p::ps,q::l=>by
  have ih:=Zf7 D ps l;unfold Kr at ih ⊢;rw[List.zip_cons_cons,List.filterMap_cons]
  by_cases h:q.num=0
  ·simp only[h,if_true,List.map_cons,vp];rw[ih,ex_zero q h,Rat.zpow_zero,Rat.one_mul]
  ·simp only[h,if_false,List.map_cons,vp,vt];rw[ih];rfl
theorem Qbj(l:List Rat):∀ d:Nat,d ∣ l.foldl (fun d q=>Nat.lcm d q.den) d/\∀ q∈l,q.den ∣ l.foldl (fun d q=>Nat.lcm d q.den) d:=by
 induction l with
 | nil=>intro d;exact⟨Nat.dvd_refl _,by simp⟩
 | cons a l ih =>
  intro d;obtain⟨h1,h2⟩:=ih (Nat.lcm d a.den);refine⟨Nat.dvd_trans (Nat.dvd_lcm_left ..) h1,fun q hq=>?_⟩;rcases List.mem_cons.1 hq with rfl|hq
  ·exact Nat.dvd_trans (Nat.dvd_lcm_right ..) h1
  ·exact h2 q hq
theorem tden_dvd{l:List Rat}{q:Rat}(h:q∈l):q.den ∣ Ko l:=(Qbj l 1).2 q h
theorem Zsr(l:List Rat):∀ (D d:Nat),d ∣ D->(∀ q∈l,q.den ∣ D)->l.foldl (fun d q=>Nat.lcm d q.den) d ∣ D:=by
 induction l with
 | nil=>intro D d h _;exact h
 | cons a l ih =>
  intro D d h h2;exact ih D _ (Nat.lcm_dvd h (h2 a List.mem_cons_self)) fun q hq=>h2 q (List.mem_cons_of_mem _ hq)
theorem tden_min{l:List Rat}{D:Nat}(h:∀ q∈l,q.den ∣ D):Ko l ∣ D:=Zsr l D 1 (Nat.one_dvd _) h
theorem tden_pos'(l:List Rat):0<Ko l:=by
 have:∀ (l:List Rat) (d:Nat),0<d->0<l.foldl (fun d q=>Nat.lcm d q.den) d:=by
  intro l
  induction l with
  | nil=>intro d h;exact h
  | cons a l ih=>intro d h;exact ih _ (Nat.lcm_pos h a.den_pos)
 exact this l 1 Nat.one_pos
def sz (ps:List Int) (l:List Rat):Int:=signT (Kr (Ko l) ps l)
theorem Yp{D:Nat}{ps:List Int}{l:List Rat}(hp:∀ p∈ps,0<p):∀ x∈Kr D ps l,0<x.1:=by
 intro x hx;unfold Kr at hx;obtain⟨y,hy,he⟩:=List.mem_filterMap.1 hx;have h1:=(List.of_mem_zip hy).1;split at he
 ·cases he
 ·cases he;exact hp _ h1
theorem Zkb{ps:List Int}{l:List Rat}{D:Nat}(hp:∀ p∈ps,0<p)(hD:0<D)(h:∀ q∈l,q.den ∣ D):sz ps l=sg (vp ps (l.map (ex D))):=by
 unfold sz;rw[Zqt _ (Yp hp),Zf7];obtain⟨m,rfl⟩:=tden_min h;have hm:0<m:=Nat.pos_of_mul_pos_left hD;have e:l.map (ex (Ko l*m))=(l.map (ex (Ko l))).map fun k=>(m:Int)*k:=by
  rw[List.map_map];refine List.map_congr_left fun q hq=>?_
  rw[Nat.mul_comm,ex_mul (tden_dvd hq)];rfl
 rw[e,Zd5 _ _ hp,Zu5 (Ziq _ _ hp) hm]
theorem sz_neg{ps:List Int}{l:List Rat}(hp:∀ p∈ps,0<p):sz ps (l.map fun q => -q) = - sz ps l:=by
 have h1:∀ q∈l.map (fun q:Rat => -q),q.den ∣ Ko l:=by
  intro q hq;obtain⟨x,hx,rfl⟩:=List.mem_map.1 hq;rw[Rat.neg_den];exact tden_dvd hx
 rw[Zkb hp (tden_pos' l) h1,Zkb hp (tden_pos' l) fun q hq=>tden_dvd hq,<- Qak (Ziq _ _ hp),<- Qae _ _ hp];congr 2;rw[List.map_map,List.map_map];exact List.map_congr_left fun q _=>Qes
theorem sz_sum{ps:List Int}{a b c:List Rat}(hp:∀ p∈ps,0<p)(G2:a.length=b.length)(hc:c=List.zipWith (· + ·) a b):
  ∃ x y:Rat,0<x/\0<y/\sz ps a=sg x/\sz ps b=sg y/\sz ps c=sg (x*y):=by
 obtain⟨D,hD⟩:∃ D,D=Ko a*Ko b*Ko c:=⟨_,rfl⟩;have ha:∀ q∈a,q.den ∣ D:=fun q hq=>Nat.dvd_trans (tden_dvd hq) (by rw[hD];exact Nat.dvd_trans (Nat.dvd_mul_right _ _) (Nat.dvd_mul_right _ _))
 have hb:∀ q∈b,q.den ∣ D:=fun q hq=>Nat.dvd_trans (tden_dvd hq) (by rw[hD];exact Nat.dvd_trans (Nat.dvd_mul_left _ _) (Nat.dvd_mul_right _ _))
 have FO:∀ q∈c,q.den ∣ D:=fun q hq=>Nat.dvd_trans (tden_dvd hq) (by rw[hD];exact Nat.dvd_mul_left _ _)
 have h0:0<D:=by rw[hD];exact Nat.mul_pos (Nat.mul_pos (tden_pos' _) (tden_pos' _)) (tden_pos' _)
 refine⟨vp ps (a.map (ex D)),vp ps (b.map (ex D)),Ziq _ _ hp,Ziq _ _ hp,Zkb hp h0 ha,Zkb hp h0 hb,?_⟩;rw[Zkb hp h0 FO,<- Zl0 _ _ _ hp (by simp[G2])];congr 2;refine List.ext_getElem (by rw[hc];simp) fun i h1 h2=>?_
 have i1:i<a.length:=by simp at h2;omega
 have i2:i<b.length:=by omega
 have i3:i<c.length:=by simpa using h1
 have e:c[i]=a[i]+b[i]:=by simp only[hc,List.getElem_zipWith]
 simp only[List.getElem_map,List.getElem_zipWith];have h3:=FO c[i] (List.getElem_mem i3);rw[e] at h3 ⊢;exact Qet (ha _ (List.getElem_mem i1)) (hb _ (List.getElem_mem i2)) h3
theorem sz_add_ge{ps:List Int}{a b c:List Rat}(hp:∀ p∈ps,0<p)(G2:a.length=b.length)(hc:c=List.zipWith (· + ·) a b)(h1:0<=sz ps a)(h2:0<=sz ps b):0<=sz ps c:=by
 obtain⟨x,y,_,_,e1,e2,e3⟩:=sz_sum hp G2 hc;rw[e1] at h1;rw[e2] at h2;rw[e3];exact Zu7 h1 h2
theorem sz_add_le{ps:List Int}{a b c:List Rat}(hp:∀ p∈ps,0<p)(G2:a.length=b.length)(hc:c=List.zipWith (· + ·) a b)(h1:sz ps a<=0)(h2:sz ps b<=0):sz ps c<=0:=by
 obtain⟨x,y,hx,_,e1,e2,e3⟩:=sz_sum hp G2 hc;rw[e1] at h1;rw[e2] at h2;rw[e3];exact Zu6 hx h1 h2
theorem Qbk{ps:List Int}{l:List Rat}(hp:∀ p∈ps,0<p)(h:∀ q∈l,q=0):sz ps l=0:=by
 rw[Zkb hp (tden_pos' l) fun q hq=>tden_dvd hq,Zj3,Zqu];intro k hk;obtain⟨q,hq,rfl⟩:=List.mem_map.1 hk;exact ex_zero q (by rw[h q hq];rfl)
theorem Ziv{ps:List Int}{l:List Rat}(hp:∀ p∈ps,0<p)(k:Rat)(hk:0<k):sz ps (l.map fun q=>k*q)=sz ps l:=by
 have hn:0<k.num:=Zku.2 hk;obtain⟨n,dH⟩:∃ n:Nat,k.num=n:=⟨k.num.toNat,by omega⟩;have e9:0<n:=by omega
 have h1:∀ q∈l,q.den ∣ Ko l:=fun q hq=>tden_dvd hq
 have hm:∀ q∈l,(k*q).den ∣ k.den*Ko l:=by
  intro q hq;refine Nat.dvd_trans ?_ (Nat.mul_dvd_mul (Nat.dvd_refl _) (h1 q hq));rw[Rat.mul_def',mkRat_den' _ _ (Nat.mul_ne_zero k.den_nz q.den_nz)];exact Nat.div_dvd_of_dvd (Nat.gcd_dvd_right _ _)
 have h2:∀ q∈l.map (fun q=>k*q),q.den ∣ k.den*Ko l:=by
  intro q hq;obtain⟨x,hx,rfl⟩:=List.mem_map.1 hq;exact hm x hx
 rw[Zkb hp (Nat.mul_pos k.den_pos (tden_pos' l)) h2,Zkb hp (tden_pos' l) h1];have e:(l.map fun q=>k*q).map (ex (k.den*Ko l))=(l.map (ex (Ko l))).map fun z=>(n:Int)*z:=by
  rw[List.map_map,List.map_map];refine List.map_congr_left fun q hq=>?_
  show ex _ (k*q)=(n:Int)*ex (Ko l) q
  rw[<- Rat.intCast_inj,ex_eq (hm q hq),Rat.intCast_mul,ex_eq (h1 q hq),Rat.natCast_mul,<- dH];have h3:=Zrb k;rw[<- h3]
  grind
 rw[e,Zd5 _ _ hp,Zu5 (Ziq _ _ hp) e9]
theorem sz_mul{ps:List Int}{l:List Rat}(hp:∀ p∈ps,0<p)(k:Rat):sz ps (l.map fun q=>k*q)=k.num.sign*sz ps l:=by
 rcases Qbz k with h|h|h
 ·have e:(l.map fun q=>k*q)=(l.map fun q=>(-k)*q).map fun q => -q:=by
   rw[List.map_map];refine List.map_congr_left fun q _=>?_
   show k*q = -(-k*q)
   grind
  rw[e,sz_neg hp,Ziv hp _ (by grind),Int.sign_eq_neg_one_of_neg (Zq7.2 h)];omega
 ·rw[h,Qbk hp]
  ·simp
  ·intro q hq;obtain⟨x,_,rfl⟩:=List.mem_map.1 hq
   grind
 ·rw[Ziv hp k h,Int.sign_eq_one_of_pos (Zku.2 h)];omega
end Go.Proofs.YtbielfplgbammaaGreatDoor.LN

namespace Go.Proofs.YtbielfplgbammaaGreatDoor.LN
theorem Zbe{x:Rat}(hx:x≠0)(a:Int):∀ n:Nat,(x^a)^n=x^(a*n)
 | 0=>by simp
 | n+1=>by
  rw[Rat.pow_succ,Zbe hx a n,<- Rat.zpow_add hx];congr 1;rw[Int.natCast_add,Int.mul_add];simp
theorem Zby{x:Rat}(hx:x≠0)(a b:Int):(x^a)^b=x^(a*b):=by
 rcases Int.eq_nat_or_neg b with⟨n,rfl|rfl⟩
 ·rw[Rat.zpow_natCast,Zbe hx]
 ·rw[Rat.zpow_neg,Rat.zpow_natCast,Zbe hx,<- Rat.zpow_neg];congr 1;rw[Int.mul_neg]
theorem Zd8:(2:Rat)≠0:=by decide
theorem Zgs{a:Int}(h:0<=a):(1:Rat)<=2^a:=by
 obtain⟨n,rfl⟩:=Int.eq_ofNat_of_zero_le h;rw[Rat.zpow_natCast];exact Ze6 (by decide) n
theorem Zc5{a:Int}(h:0<a):(1:Rat)<2^a:=by
 obtain⟨n,rfl⟩:=Int.eq_ofNat_of_zero_le (Int.le_of_lt h);rw[Rat.zpow_natCast];exact Zjd (by decide) n (by omega)
theorem Zgt{a:Int}(h:a<0):(2:Rat)^a<1:=by
 have h1:=Zc5 (a := -a) (by omega);have h2:(2:Rat)^a*2^(-a)=1:=by rw[<- Rat.zpow_add Zd8];simp[Int.add_right_neg]
 have h3:(0:Rat)<2^a:=Rat.zpow_pos (by decide);refine Rat.not_le.1 fun h4=>?_
 have h5:=Rat.mul_le_mul_of_nonneg_right h4 (c:=2^(-a)) (by grind)
 grind
theorem Zdv{x y:Rat}(h0:0<x)(h:x<=y):∀ n:Nat,x^n<=y^n
 | 0=>by rw[Rat.pow_zero,Rat.pow_zero];exact Rat.le_refl
 | n+1=>by
  have ih:=Zdv h0 h n;rw[Rat.pow_succ,Rat.pow_succ];have h1:=Rat.mul_le_mul_of_nonneg_right ih (c:=x) (by grind);have h2:=Rat.mul_le_mul_of_nonneg_left h (c:=y^n) (Rat.le_of_lt (Rat.pow_pos (by grind)));exact Rat.le_trans h1 h2
theorem Zfc{x y:Rat}(h0:0<x)(h:x<=y):y⁻¹<=x⁻¹:=by
 have hy:0<y:=by grind
 have h1:=Rat.inv_pos.2 h0;have h2:=Rat.inv_pos.2 hy;have e1:=Rat.mul_inv_cancel x (by grind);have e2:=Rat.mul_inv_cancel y (by grind);have h3:=Rat.mul_le_mul_of_nonneg_right h (c:=x⁻¹ * y⁻¹) (Rat.le_of_lt (Rat.mul_pos h1 h2));have e3:x*(x⁻¹ * y⁻¹)=y⁻¹:=by rw[<- Rat.mul_assoc,e1,Rat.one_mul]
 have e4:y*(x⁻¹ * y⁻¹)=x⁻¹:=by rw[Rat.mul_comm x⁻¹,<- Rat.mul_assoc,e2,Rat.one_mul]
 rw[e3,e4] at h3;exact h3
theorem Zfm{x y:Rat}(h0:0<x)(h:x<=y){j:Int}(hj:0<=j):x^j<=y^j:=by
 obtain⟨n,rfl⟩:=Int.eq_ofNat_of_zero_le hj;rw[Rat.zpow_natCast,Rat.zpow_natCast];exact Zdv h0 h n
theorem Zcw{x y:Rat}(h0:0<x)(h:x<=y){j:Int}(hj:j<=0):y^j<=x^j:=by
 obtain⟨n,hn⟩:=Int.eq_ofNat_of_zero_le (a := -j) (by omega);have e:j = -(n:Int):=by omega
 rw[e,Rat.zpow_neg,Rat.zpow_neg,Rat.zpow_natCast,Rat.zpow_natCast];exact Zfc (Rat.pow_pos h0) (Zdv h0 h n)
structure Btw (v:Rat) (a b:Int):Prop where
 pos:0<v
 lo:2^a<=v
 hi:v<=2^b
theorem Btw.inv{v:Rat}{a b:Int}(h:Btw v a b):Btw v⁻¹ (-b) (-a):=by
 refine⟨Rat.inv_pos.2 h.pos,?_,?_⟩
 ·rw[Rat.zpow_neg];exact Zfc h.pos h.hi
 ·rw[Rat.zpow_neg];exact Zfc (Rat.zpow_pos (by decide)) h.lo
theorem Btw.zpow{v:Rat}{a b:Int}(h:Btw v a b){j:Int}(hj:0<=j):Btw (v^j) (j*a) (j*b):=by
 refine⟨Rat.zpow_pos h.pos,?_,?_⟩
 ·rw[Int.mul_comm,<- Zby Zd8];exact Zfm (Rat.zpow_pos (by decide)) h.lo hj
 ·rw[Int.mul_comm,<- Zby Zd8];exact Zfm h.pos h.hi hj
theorem Btw.zpow_neg{v:Rat}{a b:Int}(h:Btw v a b){j:Int}(hj:j<=0):Btw (v^j) (j*b) (j*a):=by
 refine⟨Rat.zpow_pos h.pos,?_,?_⟩
 ·rw[Int.mul_comm,<- Zby Zd8];exact Zcw h.pos h.hi hj
 ·rw[Int.mul_comm,<- Zby Zd8];exact Zcw (Rat.zpow_pos (by decide)) h.lo hj
theorem Btw.mul{v u:Rat}{a b c d:Int}(h:Btw v a b)(k:Btw u c d):Btw (v*u) (a+c) (b+d):=by
 refine⟨Rat.mul_pos h.pos k.pos,?_,?_⟩
 ·rw[Rat.zpow_add Zd8];have h1:=Rat.mul_le_mul_of_nonneg_right h.lo (c:=2^c) (Rat.le_of_lt (Rat.zpow_pos (by decide)));have h2:=Rat.mul_le_mul_of_nonneg_left k.lo (c:=v) (Rat.le_of_lt h.pos);exact Rat.le_trans h1 h2
 ·rw[Rat.zpow_add Zd8];have h1:=Rat.mul_le_mul_of_nonneg_right h.hi (c:=u) (Rat.le_of_lt k.pos);have h2:=Rat.mul_le_mul_of_nonneg_left k.hi (c:=2^b) (Rat.le_of_lt (Rat.zpow_pos (by decide)));exact Rat.le_trans h1 h2
theorem Btw.ge{v:Rat}{a b:Int}(h:Btw v a b)(ha:0<=a):1<=v:=Rat.le_trans (Zgs ha) h.lo
theorem Btw.lt{v:Rat}{a b:Int}(h:Btw v a b)(hb:b<0):v<1:=by
 have:=Zgt hb
 have:=h.hi
 grind
theorem Btw.gt{v:Rat}{a b:Int}(h:Btw v a b)(ha:0<a):1<v:=by
 have:=Zc5 ha
 have:=h.lo
 grind
def eLo (f:Int->Nat) (l:List (Int×Int)):Int:=(l.map fun x=>if x.2<0 then x.2*(hiL f x.1:Int) else x.2*(f x.1:Int)).sum
def eHi (f:Int->Nat) (l:List (Int×Int)):Int:=(l.map fun x=>if x.2<0 then x.2*(f x.1:Int) else x.2*(hiL f x.1:Int)).sum
theorem Ziu(k:Int)(a b:Nat):(if k<0 then k*(b:Int) else k*(a:Int))=((k.toNat*a:Nat):Int)-(((-k).toNat*b:Nat):Int):=by
 by_cases h:k<0
 ·rw[if_pos h,show k.toNat=0 by omega];have e:((-k).toNat:Int) = -k:=Int.toNat_of_nonneg (by omega);rw[Int.natCast_mul,Int.natCast_mul,e]
  grind
 ·rw[if_neg h,show (-k).toNat=0 by omega];have e:(k.toNat:Int)=k:=Int.toNat_of_nonneg (by omega);rw[Int.natCast_mul,Int.natCast_mul,e]
  grind
theorem eLo_eq(f:Int->Nat):∀ l:List (Int×Int),eLo f l=(loS f l:Int)-(hiS f (negT l):Int)
 | []=>rfl
 | x::l=>by
  have ih:=eLo_eq f l;unfold eLo at ih ⊢;have e:negT (x::l)=(x.1,-x.2)::negT l:=rfl;rw[List.map_cons,List.sum_cons,ih,e,loS,hiS,Ziu]
  dsimp only
  omega
theorem eHi_eq(f:Int->Nat):∀ l:List (Int×Int),eHi f l=(hiS f l:Int)-(loS f (negT l):Int)
 | []=>rfl
 | x::l=>by
  have ih:=eHi_eq f l;unfold eHi at ih ⊢;have e:negT (x::l)=(x.1,-x.2)::negT l:=rfl;rw[List.map_cons,List.sum_cons,ih,e,hiS,loS,Ziu]
  dsimp only
  omega
theorem Zip:∀ l:List (Int×Int),(∀ x∈l,0<x.1)->0<vt l
 | [],_=>by simp only[vt];decide
 | x::l,h=>Rat.mul_pos (Rat.zpow_pos (Rat.intCast_pos.2 (h x List.mem_cons_self))) (Zip l fun y hy=>h y (List.mem_cons_of_mem _ hy))
theorem Zgf(a b:Rat):∀ n:Nat,(a*b)^n=a^n*b^n
 | 0=>by simp[Rat.mul_one]
 | n+1=>by rw[Rat.pow_succ,Rat.pow_succ,Rat.pow_succ,Zgf a b n];grind
theorem Zgg(n:Nat)(f:Int->Nat)(l:List (Int×Int))(hp:∀ x∈l,0<x.1)(h:∀ x∈l,LogAt n x.1 (f x.1)):Btw (vt l^(2^n)) (eLo f l) (eHi f l):=by
 have hn:=Zkv h;have Dz:∀ x∈negT l,0<x.1:=by
  intro x hx;obtain⟨y,hy,rfl⟩:=List.mem_map.1 hx;exact hp y hy
 have a1:=Zb0 n f l h;have a2:=Zc4 n f l h;have b1:=Zb0 n f (negT l) hn;have b2:=Zc4 n f (negT l) hn;have e:=Qbd l hp;have hv:=Zip l hp;have Ge:((upT l:Nat):Rat)^(2^n)=vt l^(2^n)*((upT (negT l):Nat):Rat)^(2^n):=by rw[e,Zgf]
 have hd:(0:Rat)<((upT (negT l):Nat):Rat)^(2^n):=Rat.pow_pos (Rat.natCast_pos.2 (Zn4 _ Dz));have c:∀ a b:Nat,a<=b->(a:Rat)<=(b:Rat):=fun a b h=>Rat.natCast_le_natCast.2 h
 have c1:=c _ _ a1;have c2:=c _ _ a2;have c3:=c _ _ b1;have c4:=c _ _ b2;rw[natCast_pow,natCast_pow] at c1 c2 c3 c4;rw[show ((2:Nat):Rat)=2 from rfl] at c1 c2 c3 c4;rw[Ge] at c1 c2;have je:0<vt l^(2^n):=Rat.pow_pos hv;generalize vt l^(2^n)=V at *;generalize ((upT (negT l):Nat):Rat)^(2^n)=U at *;refine⟨je,?_,?_⟩
 ·rw[eLo_eq];have e1:(2:Rat)^((loS f l:Int)-(hiS f (negT l):Int))*2^(hiS f (negT l))=2^(loS f l):=by
   rw[<- Rat.zpow_natCast,<- Rat.zpow_natCast,<- Rat.zpow_add Zd8];congr 1;omega
  have h1:2^(loS f l)<=V*2^(hiS f (negT l)):=Rat.le_trans c1 (Rat.mul_le_mul_of_nonneg_left c4 (Rat.le_of_lt je));rw[<- e1] at h1;exact Rat.le_of_mul_le_mul_right h1 (Rat.pow_pos (by decide))
 ·rw[eHi_eq];have e1:(2:Rat)^((hiS f l:Int)-(loS f (negT l):Int))*2^(loS f (negT l))=2^(hiS f l):=by
   rw[<- Rat.zpow_natCast,<- Rat.zpow_natCast,<- Rat.zpow_add Zd8];congr 1;omega
  have h1:V*2^(loS f (negT l))<=2^(hiS f l):=Rat.le_trans (Rat.mul_le_mul_of_nonneg_left c3 (Rat.le_of_lt je)) c2;rw[<- e1] at h1;exact Rat.le_of_mul_le_mul_right h1 (Rat.pow_pos (by decide))
theorem Zeb{u:Rat}(h0:0<u)(n:Nat):sg (u^(2^n))=sg u:=Zu5 h0 (Nat.two_pow_pos n)
theorem Zl{x:Rat}(hx:x≠0)(j:Int)(m:Nat):(x^j)^m=(x^m)^j:=by
 rw[Zbe hx,<- Rat.zpow_natCast x m,Zby hx,Int.mul_comm]
theorem Zvj{X Y:Rat}{n:Nat}{xl xh yl yh:Int}(hX:0<X)(hY:0<Y)(bx:Btw (X^(2^n)) xl xh)(by':Btw (Y^(2^n)) yl yh){d g:Int}(hd:0<=d)(hg:0<=g){q low:Int}
  (hq:0<=q/\low=yh\/q<=0/\low=yl) (fO:q*(low*d)<=xl*g):0<=sg (X^g*Y^(-(q*d))):=by
 have hu:0<X^g*Y^(-(q*d)):=Rat.mul_pos (Rat.zpow_pos hX) (Rat.zpow_pos hY);rw[<- Zeb hu n,Zgf,Zl (by grind),Zl (by grind)];have b1:=bx.zpow hg;rcases hq with⟨h1,rfl⟩|⟨h1,rfl⟩
 ·have h2 : -(q*d)<=0:=by have:=Int.mul_nonneg h1 hd;omega
  have b:=b1.mul (by'.zpow_neg h2);refine sg_ge.2 (b.ge ?_);have e:g*xl + -(q*d)*low=xl*g-q*(low*d):=by grind
  omega
 ·have h2:0 <= -(q*d):=by
   have:=Int.mul_nonneg (show 0 <= -q by omega) hd
   rw[Int.neg_mul] at this;omega
  have b:=b1.mul (by'.zpow h2);refine sg_ge.2 (b.ge ?_);have e:g*xl + -(q*d)*low=xl*g-q*(low*d):=by grind
  omega
theorem Zqw{X Y:Rat}{n:Nat}{xl xh yl yh:Int}(hX:0<X)(hY:0<Y)(bx:Btw (X^(2^n)) xl xh)(by':Btw (Y^(2^n)) yl yh){d g:Int}(hd:0<=d)(hg:0<=g){q high:Int}
  (hq:0<=q/\high=yl\/q<=0/\high=yh) (gd:xh*g<q*(high*d)):sg (X^g*Y^(-(q*d))) = -1:=by
 have hu:0<X^g*Y^(-(q*d)):=Rat.mul_pos (Rat.zpow_pos hX) (Rat.zpow_pos hY);rw[<- Zeb hu n,Zgf,Zl (by grind),Zl (by grind)];have b1:=bx.zpow hg;rcases hq with⟨h1,rfl⟩|⟨h1,rfl⟩
 ·have h2 : -(q*d)<=0:=by have:=Int.mul_nonneg h1 hd;omega
  have b:=b1.mul (by'.zpow_neg h2);refine sg_low.2 (b.lt ?_);have e:g*xh + -(q*d)*high=xh*g-q*(high*d):=by grind
  omega
 ·have h2:0 <= -(q*d):=by
   have:=Int.mul_nonneg (show 0 <= -q by omega) hd
   rw[Int.neg_mul] at this;omega
  have b:=b1.mul (by'.zpow h2);refine sg_low.2 (b.lt ?_);have e:g*xh + -(q*d)*high=xh*g-q*(high*d):=by grind
  omega
def quoL (xl yl yh g d:Int):Int:=xl*g/((if xl<0 then yl else yh)*d)
def quoH (xh yl yh g d:Int):Int:=xh*g/((if xh<0 then yh else yl)*d)
theorem Zqx{X Y:Rat}{n:Nat}{xl xh yl yh:Int}(hX:0<X)(hY:0<Y)(bx:Btw (X^(2^n)) xl xh)(by':Btw (Y^(2^n)) yl yh){d g:Int}(hd:0<d)(hg:0<g)(ac:0<yl)(hy:yl<=yh){q:Int}
  (h1:quoL xl yl yh g d=q) (h2:quoH xh yl yh g d=q):0<=sg (X^g*Y^(-(q*d)))/\sg (X^g*Y^(-((q+1)*d))) = -1:=by
 constructor
 ·unfold quoL at h1
  by_cases hx:xl<0
  ·rw[if_pos hx] at h1;have hp:0<yl*d:=Int.mul_pos ac hd;refine Zvj hX hY bx by' (Int.le_of_lt hd) (Int.le_of_lt hg) (.inr ⟨?_,rfl⟩) ?_
   ·rw[<- h1];have:=Int.ediv_neg_of_neg_of_pos (Int.mul_neg_of_neg_of_pos hx hg) hp
    omega
   ·rw[<- h1];exact Int.ediv_mul_le _ (by omega)
  ·rw[if_neg hx] at h1;have hp:0<yh*d:=Int.mul_pos (by omega) hd;refine Zvj hX hY bx by' (Int.le_of_lt hd) (Int.le_of_lt hg) (.inl ⟨?_,rfl⟩) ?_
   ·rw[<- h1];exact Int.ediv_nonneg (Int.mul_nonneg (by omega) (by omega)) (by omega)
   ·rw[<- h1];exact Int.ediv_mul_le _ (by omega)
 ·unfold quoH at h2
  by_cases hx:xh<0
  ·rw[if_pos hx] at h2;have hp:0<yh*d:=Int.mul_pos (by omega) hd;refine Zqw hX hY bx by' (Int.le_of_lt hd) (Int.le_of_lt hg) (.inr ⟨?_,rfl⟩) ?_
   ·rw[<- h2];have:=Int.ediv_neg_of_neg_of_pos (Int.mul_neg_of_neg_of_pos hx hg) hp
    omega
   ·rw[<- h2];exact Int.lt_ediv_add_one_mul_self _ hp
  ·rw[if_neg hx] at h2;have hp:0<yl*d:=Int.mul_pos ac hd;refine Zqw hX hY bx by' (Int.le_of_lt hd) (Int.le_of_lt hg) (.inl ⟨?_,rfl⟩) ?_
   ·rw[<- h2];have:=Int.ediv_nonneg (Int.mul_nonneg (show 0<=xh by omega) (show 0<=g by omega)) (show 0<=yl*d by omega)
    omega
   ·rw[<- h2];exact Int.lt_ediv_add_one_mul_self _ hp
end Go.Proofs.YtbielfplgbammaaGreatDoor.LN

namespace Go.Proofs.YtbielfplgbammaaGreatDoor
open Go.RowKit Go.Shelf
attribute [local go_sem] Oper.semAt_some
def lf (n:Nat):Int->Nat:=fun p=>lgN p n
structure Zsk (B:Nat) (n:Int) (slo shi:ByteArray) (W:World):Prop where
 c3:W.cell? ⟨B+1,0,none⟩=some (.int .i64 n)
 c4:W.cell? ⟨B+1+1,0,none⟩=some (.string slo)
 c5:W.cell? ⟨B+1+1+1,0,none⟩=some (.string shi)
 f4:W.frozen? ⟨B+1+1,0,none⟩=false
 f5:W.frozen? ⟨B+1+1+1,0,none⟩=false
 sz:B+4<W.heap.size
theorem Zsk.below{B:Nat}{n:Int}{slo shi:ByteArray}{W W':World}(h:Zsk B n slo shi W)(hb:Bw_ W W'):Zsk B n slo shi W' :=
 ⟨(hb.cell (block_lt_of_cell h.c3)).trans h.c3,(hb.cell (block_lt_of_cell h.c4)).trans h.c4,(hb.cell (block_lt_of_cell h.c5)).trans h.c5,
  (hb.frozen (block_lt_of_cell h.c4)).trans h.f4,(hb.frozen (block_lt_of_cell h.c5)).trans h.f5,Nat.lt_of_lt_of_le h.sz hb.size⟩
theorem Zsk.kept{B:Nat}{n:Int}{slo shi:ByteArray}{W W':World}{row:Option Nat}(h:Zsk B n slo shi W)(hg:W.grownBy W' row)(hr:∀ r,row=some r->∃ o:Obj,W.heap[r]?=some o/\o.isCells=false):Zsk B n slo shi W' :=
 ⟨cell_kept h.c3 hg hr,cell_kept h.c4 hg hr,cell_kept h.c5 hg hr,(frozen_kept h.c4 hg hr).trans h.f4,(frozen_kept h.c5 hg hr).trans h.f5,Nat.lt_of_lt_of_le h.sz hg.size⟩
theorem Zsk.stored{B:Nat}{n:Int}{slo shi:ByteArray}{W:World}(h:Zsk B n slo shi W)(s t:ByteArray):
  Zsk B n s t ((W.setCell ⟨B+1+1,0,none⟩ (.string s)).setCell ⟨B+1+1+1,0,none⟩ (.string t)):=by
 refine⟨?_,?_,?_,?_,?_,?_⟩
 ·rw[World.cell?_setCell_other _ _ _ _ (by simp),World.cell?_setCell_other _ _ _ _ (by simp)];exact h.c3
 ·rw[World.cell?_setCell_other _ _ _ _ (by simp),World.cell?_setCell_same _ _ _ h.c4]
 ·rw[World.cell?_setCell_same _ _ _ (by rw[World.cell?_setCell_other _ _ _ _ (by simp)];exact h.c5)]
 ·rw[World.frozen?_setCell,World.frozen?_setCell];exact h.f4
 ·rw[World.frozen?_setCell,World.frozen?_setCell];exact h.f5
 ·rw[World.size_setCell,World.size_setCell];exact h.sz
theorem Zlf{B:Nat}{W0 W W4:World}(hB:W0.heap.size=B)(hb:Bw_ W0 W)(GM:B+4<W.heap.size)(h:Bw_ W W4)(v5 v6:Value):
  KT B (B+4) W ((W4.setCell ⟨B+1+1,0,none⟩ v5).setCell ⟨B+1+1+1,0,none⟩ v6):=by
 subst hB;refine⟨((h.mono hb.size).setCell (p:=⟨W0.heap.size+1+1,0,none⟩) (by show _<=W0.heap.size+1+1;omega) _).setCell (p:=⟨W0.heap.size+1+1+1,0,none⟩) (by show _<=W0.heap.size+1+1+1;omega) _,?_⟩;rw[Zp (g:=W0.heap.size+1+1+1) (k:=W0.heap.size+4) (by omega),Zp (g:=W0.heap.size+1+1) (k:=W0.heap.size+4) (by omega),h.block _ GM]
theorem Qe8(w:World)(o1:Obj)(v2 v3 v4:Value)(t2 t3 t4:TypeId)(W:World)(hW:(((w.alloc o1).alloc (.cells #[v2] t2)).alloc (.cells #[v3] t3)).alloc (.cells #[v4] t4)=W):
  W.heap[w.heap.size+1]?=some (.cells #[v2] t2 (0,0))/\W.heap[w.heap.size+1+1]?=some (.cells #[v3] t3 (0,0))/\W.heap[w.heap.size+1+1+1]?=some (.cells #[v4] t4 (0,0)):=by
 subst hW;exact⟨Kj (Kj (Qe _ _ _ _ (by simp)) _) _,Kj (Qe _ _ _ _ (by simp)) _,Qe _ _ _ _ (by simp)⟩
def PrT (tl:List (Int×Int)):Prop:=∀ x∈tl,∃ q:Nat,x.1=q/\(q=2\/q∈Za4)
theorem Zzn(f:Int->Nat)(l:List (Int×Int))(x:Int×Int):LN.eLo f (l++[x])=LN.eLo f l+(if x.2<0 then x.2*(LN.hiL f x.1:Int) else x.2*(f x.1:Int)):=by simp[LN.eLo]
theorem Zzo(f:Int->Nat)(l:List (Int×Int))(x:Int×Int):LN.eHi f (l++[x])=LN.eHi f l+(if x.2<0 then x.2*(f x.1:Int) else x.2*(LN.hiL f x.1:Int)):=by simp[LN.eHi]
theorem Qca{n:Nat}{p:Int}(hp:∃ q:Nat,p=q/\(q=2\/q∈Za4))(hn:n<=1056):lf n p<2^(n+3)/\LN.hiL (lf n) p<2^(n+3):=by
 obtain⟨q,rfl,hq⟩:=hp;have h:=Zv7 hq hn;have e:2^(n+3)=8*2^n:=by rw[Nat.pow_add,Nat.mul_comm]
 have h1:=Nat.two_pow_pos n;have h2:lf n q<7*2^n:=h;refine⟨by omega,?_⟩;unfold LN.hiL;split<;>omega
theorem Zaz{k:Int}{a E F:Nat}(hk:k.natAbs<2^E)(ha:a<2^F):(k*(a:Int)).natAbs<2^(E+F):=by
 rw[Int.natAbs_mul,Int.natAbs_natCast,Nat.pow_add];exact Nat.mul_lt_mul'' hk ha
theorem Zho{n E:Nat}(hn:n<=1056):∀ l:List (Int×Int),PrT l->(∀ x∈l,x.2.natAbs<2^E)->(LN.eLo (lf n) l).natAbs<=l.length*2^(E+(n+3))/\(LN.eHi (lf n) l).natAbs<=l.length*2^(E+(n+3))
 | [],_,_=>by simp[LN.eLo,LN.eHi]
 | x::l,hp,hk=>by
  have ih:=Zho hn l (fun y hy=>hp y (List.mem_cons_of_mem _ hy)) (fun y hy=>hk y (List.mem_cons_of_mem _ hy));obtain⟨h1,h2⟩:=Qca (hp x List.mem_cons_self) hn;have hx:=hk x List.mem_cons_self;have a1:=Zaz hx h1;have a2:=Zaz hx h2;have e1:LN.eLo (lf n) (x::l)=(if x.2<0 then x.2*(LN.hiL (lf n) x.1:Int) else x.2*(lf n x.1:Int))+LN.eLo (lf n) l:=by simp[LN.eLo]
  have e2:LN.eHi (lf n) (x::l)=(if x.2<0 then x.2*(lf n x.1:Int) else x.2*(LN.hiL (lf n) x.1:Int))+LN.eHi (lf n) l:=by simp[LN.eHi]
  rw[e1,e2,List.length_cons,Nat.add_mul,Nat.one_mul];generalize 2^(E+(n+3))=T at *;generalize l.length*T=S at *;constructor
  ·refine Nat.le_trans (Int.natAbs_add_le _ _) ?_;split<;>omega
  ·refine Nat.le_trans (Int.natAbs_add_le _ _) ?_;split<;>omega
theorem Zli{n E:Nat}(hn:n<=1056)(l:List (Int×Int))(hl:l.length<=1000)(hp:PrT l)(hk:∀ x∈l,x.2.natAbs<2^E):
  (LN.eLo (lf n) l).natAbs<2^(E+(n+3)+10)/\(LN.eHi (lf n) l).natAbs<2^(E+(n+3)+10):=by
 obtain⟨h1,h2⟩:=Zho hn l hp hk;have h3:l.length*2^(E+(n+3))<=1000*2^(E+(n+3)):=Nat.mul_le_mul_right _ hl;have e:2^(E+(n+3)+10)=1024*2^(E+(n+3)):=by rw[Nat.pow_add _ _ 10,Nat.mul_comm]
 have h4:=Nat.two_pow_pos (E+(n+3));rw[e];constructor<;>omega
theorem Zsk.cast{B:Nat}{n:Int}{s s' t t':ByteArray}{W:World}(h:Zsk B n s t W)(e1:s'=s)(e2:t'=t):Zsk B n s' t' W:=by subst e1;subst e2;exact h
theorem Qa6(w:World)(a b:Int)(K:Nat)(hK:K<90000)(ha:a.natAbs<2^K)(hb:b.natAbs<2^K)(L:Qg w):Kc Tryz.prog 205 #[.string (itx a),.string (itx b)] w (.string (itx (a+b))) :=
 Zgl w a b (Va ha (by omega)) (Va hb (by omega)) (Va (K:=K+1) (by rw[Nat.pow_succ];omega) (by omega)) L
theorem Qfj(w:World)(a b:Int)(K M:Nat)(hK:K+M<90000)(ha:a.natAbs<2^K)(hb:b.natAbs<2^M)(L:Qg w):Kc Tryz.prog 14 #[.string (itx a),.string (itx b)] w (.string (itx (a*b))) :=
 Yv w a b (Va ha (by omega)) (Va hb (by omega)) (Va (K:=K+M) (by rw[Int.natAbs_mul,Nat.pow_add];exact Nat.mul_lt_mul'' ha hb) (by omega)) L
def Zpo (w:World) (b1 b2:OA_) (d1 d2 D m:Nat) (n:Int) (p:Int) (k:ByteArray):Act:={ tmps := #[.agg (Kk b1 d1 b2 d2 m D),.int .i64 n,.pointer (some ⟨w.heap.size,0,none⟩),.pointer (some ⟨w.heap.size+1,0,none⟩),.pointer (some ⟨w.heap.size+1+1,0,none⟩),.pointer (some ⟨w.heap.size+1+1+1,0,none⟩),.int .i64 p,.string k,undef,undef,.agg #[.slice b1 m d1,.slice b2 m d2,.string (dec D)],.func (.func 282) #[] #[.pointer (some ⟨w.heap.size+1+1+1+1,0,none⟩)],.int .i64 p,.string k,undef,undef,undef,undef,undef,undef,undef,undef,undef,undef,undef,undef,undef,undef,undef,undef,undef,undef,undef,undef,undef,undef,undef,undef,undef,undef,undef],defers:=[] }
theorem Zrv(w:World)(b1 b2:OA_)(d1 d2 D n E:Nat)(tl:List (Int×Int))(T:Ym w tl b1 b2)(hP:PrT tl)(hE:E<=20000)(hK:∀ x∈tl,x.2.natAbs<2^E)(hn:n<=1056)(L:Qg w):
  Kc Tryz.prog 165 #[.agg (Kk b1 d1 b2 d2 tl.length D),.int .i64 n] w (.tuple #[.string (itx (LN.eLo (lf n) tl)),.string (itx (LN.eHi (lf n) tl))]):=by
 unfold Kc;have dE:=T.r1;have eN:=T.r2;have hl:=T.len;refine(callsIn_wide (n:=3)).1 ?_;refine callsIn_of_wp_marks Tryz.func165 rfl trivial ?_ rfl;simp only[Tryz.ntmps165,List.size_toArray,List.length_cons,List.length_nil,Nat.reduceAdd,Nat.reduceSub,Array.replicate_succ,Array.replicate_zero,List.push_toArray,List.append_toArray,List.nil_append,List.cons_append];have HT:=hd_ T;have HL:=hd_ L;have Hn:=hd_ hn;have HE:=hd_ hE;have HP:=hd_ hP;have HK:=hd_ hK;have H0:Hid (itx 0=⟨#[48]⟩):=by show _=_;rw[show (0:Int)=((0:Nat):Int) from rfl,Kg,Zdm]
 clear L T hn hE hK hP
 gi_wp2_with fail
 obtain⟨w0,EM⟩:∃ w0,(((w.alloc (Obj.cells (Kk b1 d1 b2 d2 tl.length D) 146)).alloc (Obj.cells #[Value.int IntKind.i64 n] 3)).alloc (Obj.cells #[Value.string ⟨#[48]⟩] 38)).alloc (Obj.cells #[Value.string ⟨#[48]⟩] 38)=w0:=⟨_,rfl⟩;have Ft:w0.heap.size=w.heap.size+4:=by rw[<- EM];simp
 have Az:Bw_ w w0:=by rw[<- EM];exact((((Below.refl _ w).alloc nr_ _).alloc (by simp) _).alloc (by simp;omega) _).alloc (by simp;omega) _
 have DP:=Qe8 w _ _ _ _ _ _ _ w0 EM;rw[EM];refine⟨trivial,?_⟩;refine(callsIn_wide.2 (Zxo w0 b1 b2 d1 d2 tl.length D)).mono ?_;rintro e w' ⟨rfl,rfl⟩;rw[Ft];have Be:(w0.alloc (.cells (Kk b1 d1 b2 d2 tl.length D) 146)).heap[w.heap.size+4]?=some (.cells (Kk b1 d1 b2 d2 tl.length D) 146 (0,0)):=by
  rw[<- Ft];exact Go.heap_alloc_new w0 _
 have GN:Bw_ w (w0.alloc (.cells (Kk b1 d1 b2 d2 tl.length D) 146)):=Az.alloc (by omega) _;have Gx:(w0.alloc (.cells (Kk b1 d1 b2 d2 tl.length D) 146)).heap.size=w.heap.size+5:=by rw[World.size_alloc,Ft]
 have DS:Zsk w.heap.size n (itx (LN.eLo (lf n) [])) (itx (LN.eHi (lf n) [])) (w0.alloc (.cells (Kk b1 d1 b2 d2 tl.length D) 146)):=by
  obtain⟨h1,h2,h3⟩:=DP;have h1:=Kj h1 (.cells (Kk b1 d1 b2 d2 tl.length D) 146);have h2:=Kj h2 (.cells (Kk b1 d1 b2 d2 tl.length D) 146);have h3:=Kj h3 (.cells (Kk b1 d1 b2 d2 tl.length D) 146);have e1:itx (LN.eLo (lf n) [])=⟨#[48]⟩:=H0.o;have e2:itx (LN.eHi (lf n) [])=⟨#[48]⟩:=H0.o;rw[e1,e2];exact⟨(Yu h1).1,(Yu h2).1,(Yu h3).1,(Yu h2).2,(Yu h3).2,by rw[Gx];omega⟩
 clear Az EM DP H0;generalize w0.alloc (.cells (Kk b1 d1 b2 d2 tl.length D) 146)=w1 at *
 gi_wp2_with fail
 refine wpIn_rangeFunc_ownF rfl (by decide) (gf:=282) (lb := #[.pointer (some ⟨w.heap.size+4,0,none⟩)]) rfl trivial (enters_of Tryz.func282 (by kernel_rfl) rfl)
  (Znw 2 (by decide) w w1 GN (w.heap.size+4) b1 b2 d1 d2 D tl hl Be dE eN) Qgh (Qgi (by rw[Gx];omega) (by rw[Gx];omega)) (Below.refl _ _) (fun _=>rfl)
  (fun pre W=>Zsk w.heap.size n (itx (LN.eLo (lf n) (pre.map Subtype.val))) (itx (LN.eHi (lf n) (pre.map Subtype.val))) W/\Bw_ w W)
  (fun _ _ W=>False/\Bw_ w W)
  (OwnFrom.and (Own.from (fun s A B row hs hg hr=>hs.kept hg hr) _) (ownFrom_below nr_ (by rw[Gx];omega)))
  (fun c=>OwnFrom.and (Own.from (fun s A B row hs hg hr=>hs.elim) _) (ownFrom_below nr_ (by rw[Gx];omega)))
  ⟨DS,GN⟩
  (fun x=>Zpo w b1 b2 d1 d2 D tl.length n x.1.1 (itx x.1.2)) ?assign ?body ?done ?stop
 case assign =>
  intro l x W K hK;unfold Zpo at hK
  gi_wp2
  exact hK
 case body =>
  rintro l pre ⟨⟨p,k⟩,Gq⟩ W0 ⟨hI,hB⟩ gh;have HI:=hd_ hI;have HB:=hd_ hB;have Dy:=HP.o _ Gq;have Cd:=HK.o _ Gq;simp only at Dy Cd;have hn:=Hn.o;have hE:=HE.o;obtain⟨g1,g2⟩:=Qca Dy hn;have bJ:∀ x∈pre.map Subtype.val,x∈tl:=fun x hx=>by
   obtain⟨y,_,rfl⟩:=List.mem_map.1 hx;exact y.2
  have EB:(pre.map Subtype.val).length<=1000:=by rw[List.length_map];omega
  obtain⟨s1,s2⟩:=Zli hn (pre.map Subtype.val) EB (fun x hx=>HP.o x (bJ x hx)) (fun x hx=>HK.o x (bJ x hx));have e1:LN.eLo (lf n) ((pre++[(⟨(p,k),Gq⟩:{x // x∈tl})]).map Subtype.val)=LN.eLo (lf n) (pre.map Subtype.val)+(if k<0 then (LN.hiL (lf n) p:Int)*k else (lf n p:Int)*k):=by
   rw[List.map_append];have:=Zzn (lf n) (pre.map Subtype.val) (p,k)
   simp only at this;rw[Int.mul_comm k,Int.mul_comm k] at this;exact this
  have e2:LN.eHi (lf n) ((pre++[(⟨(p,k),Gq⟩:{x // x∈tl})]).map Subtype.val)=LN.eHi (lf n) (pre.map Subtype.val)+(if k<0 then (lf n p:Int)*k else (LN.hiL (lf n) p:Int)*k):=by
   rw[List.map_append];have:=Zzo (lf n) (pre.map Subtype.val) (p,k)
   simp only at this;rw[Int.mul_comm k,Int.mul_comm k] at this;exact this
  have Et:Hid (∀ W,Bw_ w W->Kc Tryz.prog 232 #[.int .i64 p,.int .i64 n] W (.string (dec (lf n p)))):=fun W hW=>by
   obtain⟨q,rfl,hq⟩:=Dy;exact Qb8 W q n hq hn (HL.o.below hW)
  have GU:Hid (∀ W,Bw_ w W->Kc Tryz.prog 14 #[.string (dec (lf n p)),.string (itx k)] W (.string (itx ((lf n p:Int)*k)))):=fun W hW=>by
   have:=Qfj W (lf n p:Int) k (n+3) E (by omega) (by rw[Int.natAbs_natCast];exact g1) Cd (HL.o.below hW)
   rw[Kg] at this;exact this
  have GJ:Hid (∀ W,Bw_ w W->Kc Tryz.prog 14 #[.string (dec (LN.hiL (lf n) p)),.string (itx k)] W (.string (itx ((LN.hiL (lf n) p:Int)*k)))):=fun W hW=>by
   have:=Qfj W (LN.hiL (lf n) p:Int) k (n+3) E (by omega) (by rw[Int.natAbs_natCast];exact g2) Cd (HL.o.below hW)
   rw[Kg] at this;exact this
  have gI:Hid (∀ W,Bw_ w W->Kc Tryz.prog 59 #[.string (itx k)] W (.int .i64 k.sign)):=fun W _=>Ys W k
  have t1:((lf n p:Int)*k).natAbs<2^(E+(n+3)+10):=by
   have:=Zaz Cd g1
   rw[Int.mul_comm] at this;exact Nat.lt_of_lt_of_le this (Nat.pow_le_pow_right (by decide) (by omega))
  have t2:((LN.hiL (lf n) p:Int)*k).natAbs<2^(E+(n+3)+10):=by
   have:=Zaz Cd g2
   rw[Int.mul_comm] at this;exact Nat.lt_of_lt_of_le this (Nat.pow_le_pow_right (by decide) (by omega))
  have hF:E+(n+3)+10<90000:=by omega
  have one:1<2^(n+3):=Nat.one_lt_two_pow (by omega);have Gw:Hid (∀ W,Bw_ w W->Kc Tryz.prog 205 #[.string (dec (lf n p)),.string ⟨#[49]⟩] W (.string (dec (lf n p+1)))):=fun W hW=>by
   have:=Zz7 W (lf n p) 1 (n+3) (by omega) g1 one (HL.o.below hW)
   rw[Yo] at this;exact this
  generalize E+(n+3)+10=F at *;unfold Zpo;have Dm:=hd_ (Below.refl W0.heap.size W0);have Fj:=HI;have dz:=HB;have fM:(k.sign = -1/\k<0)\/(0<=k.sign/\k.sign<=1/\¬ k<0):=by
   rcases Int.lt_trichotomy k 0 with h|h|h
   ·exact .inl ⟨Int.sign_eq_neg_one_of_neg h,h⟩
   ·subst h;exact .inr ⟨by decide,by decide,by decide⟩
   ·rw[Int.sign_eq_one_of_pos h];exact .inr ⟨by decide,by decide,by omega⟩
  clear hI hB dE eN DS GN Be Dy Cd bJ g1 g2 one;have Gk:=Fj.o.c3;have gW:=Fj.o.c4;have gV:=Fj.o.c5;have gU:=Fj.o.f4;have gT:=Fj.o.f5;have Dp:Hid (∀ W,Bw_ w W->Qg W):=fun W hW=>HL.o.below hW
  by_cases gM:p=2
  ·subst gM;have hH:LN.hiL (lf n) 2=lf n 2:=by unfold LN.hiL;rw[if_pos rfl]
   rw[hH] at GJ e1 e2 t2;clear hH;rcases fM with⟨hs,hk⟩|⟨Ez,G1,hk⟩
   ·rw[if_pos hk] at e1 e2;rw[hs] at gI;clear hs;have eH:Hid (∀ W,Bw_ w W->Kc Tryz.prog 205 #[.string (itx (LN.eLo (lf n) (pre.map Subtype.val))),.string (itx ((lf n 2:Int)*k))] W (.string (itx ((LN.eLo (lf n) (pre.map Subtype.val))+(lf n 2:Int)*k)))):=fun W hW=>Qa6 W _ _ F hF s1 t2 (Dp.o W hW)
    have eG:Hid (∀ W,Bw_ w W->Kc Tryz.prog 205 #[.string (itx (LN.eHi (lf n) (pre.map Subtype.val))),.string (itx ((lf n 2:Int)*k))] W (.string (itx ((LN.eHi (lf n) (pre.map Subtype.val))+(lf n 2:Int)*k)))):=fun W hW=>Qa6 W _ _ F hF s2 t1 (Dp.o W hW)
    rw[<- e1] at eH;rw[<- e2] at eG;clear e1 e2 s1 s2 t1 t2 Dp gh EB hF;obtain⟨slo2,Gd⟩:∃ s,itx (LN.eLo (lf n) ((pre++[(⟨(2,k),Gq⟩:{x // x∈tl})]).map Subtype.val))=s:=⟨_,rfl⟩;obtain⟨shi2,gQ⟩:∃ s,itx (LN.eHi (lf n) ((pre++[(⟨(2,k),Gq⟩:{x // x∈tl})]).map Subtype.val))=s:=⟨_,rfl⟩;rw[Gd] at eH;rw[gQ] at eG;have bA:=hd_ Gd;have BE:=hd_ gQ;clear Gd gQ;generalize itx (LN.eLo (lf n) (pre.map Subtype.val))=slo at *;generalize itx (LN.eHi (lf n) (pre.map Subtype.val))=shi at *;generalize itx k=sk at *;generalize itx ((lf n 2:Int)*k)=sa at *;generalize dec (lf n 2)=sL at *;clear Gw
    gi_wp2_with fail
    refine⟨trivial,?_⟩;refine(CallsIn.inRound l (callsIn_wide.2 (Et.o W0 dz.o))).mono ?_;rintro e W1 ⟨rfl,hb⟩;have fp:=hd_ (Fj.o.below hb);have Fk:=bt_ dz hb;have Ew:=bt_ Dm hb;clear hb Gk gW gV gU gT Et Fj dz Dm;have Gk:=fp.o.c3;have gW:=fp.o.c4;have gV:=fp.o.c5;have gU:=fp.o.f4;have gT:=fp.o.f5
    gi_wp2_with fail
    refine⟨trivial,?_⟩;refine(CallsIn.inRound l (callsIn_wide.2 (GU.o W1 Fk.o))).mono ?_;rintro e W2 ⟨rfl,hb⟩;have gv:=hd_ (fp.o.below hb);have GC:=bt_ Fk hb;have FF:=bt_ Ew hb;clear hb Gk gW gV gU gT GU fp Fk Ew;have Gk:=gv.o.c3;have gW:=gv.o.c4;have gV:=gv.o.c5;have gU:=gv.o.f4;have gT:=gv.o.f5
    gi_wp2_with fail
    refine⟨trivial,?_⟩;refine(CallsIn.inRound l (callsIn_wide.2 (GJ.o W2 GC.o))).mono ?_;rintro e W3 ⟨rfl,hb⟩;have gL:=hd_ (gv.o.below hb);have fg:=bt_ GC hb;have Ev:=bt_ FF hb;clear hb Gk gW gV gU gT GJ gv GC FF;have Gk:=gL.o.c3;have gW:=gL.o.c4;have gV:=gL.o.c5;have gU:=gL.o.f4;have gT:=gL.o.f5
    gi_wp2_with fail
    refine⟨trivial,?_⟩;refine(CallsIn.inRound l (callsIn_wide.2 (gI.o W3 fg.o))).mono ?_;rintro e W4 ⟨rfl,hb⟩;have Gi:=hd_ (gL.o.below hb);have ff:=bt_ fg hb;have Eu:=bt_ Ev hb;clear hb Gk gW gV gU gT gI gL fg Ev;have Gk:=Gi.o.c3;have gW:=Gi.o.c4;have gV:=Gi.o.c5;have gU:=Gi.o.f4;have gT:=Gi.o.f5
    gi_wp2_with fail
    have q0:=@Zk.h;have q9:Nonempty (Zk ⟨w.heap.size+1+1,0,none⟩ (.string slo)):=⟨⟨W4,Gi.o.c4⟩⟩;have q8:Nonempty (Zk ⟨w.heap.size+1+1+1,0,none⟩ (.string shi)):=⟨⟨W4,Gi.o.c5⟩⟩;refine Qr [(8,0),(1,1),(9,3),(1,4),(0,2),(0,5),(0,6),(0,7)]
     [(6,fun w'=>∃ p:Zk ⟨w.heap.size+1+1,0,none⟩ (.string slo),w'=p.w),(7,fun w'=>∃ p:Zk ⟨w.heap.size+1+1+1,0,none⟩ (.string shi),w'=p.w)]
     (by kernel_rfl) (by kernel_rfl) ⟨.inr ⟨⟨{ W4 with drawn:=W4.drawn+1 },Gi.o.c4⟩,rfl⟩,.inr ⟨⟨{ W4 with drawn:=W4.drawn+1 },Gi.o.c5⟩,rfl⟩,trivial⟩ ?_
    refine Qz (s:=6) _ (List.mem_cons_self ..) rfl ?_;simp only[dz_,Zag,tz_]
    go_big_quiet_step (fail)
    refine wq_ ?_;refine Vn ?_;simp only[Za7,dz_,Zag,tz_]
    go_big_quiet_step (fail)
    refine wq_ ?_;refine Qz (s:=7) _ (List.mem_cons_of_mem _ (List.mem_cons_self ..)) rfl ?_;simp only[Za7,dz_,Zag,tz_]
    go_big_quiet_step (fail)
    refine wq_ ?_;refine Vn ?_;simp only[Za7,dz_,Zag,tz_]
    go_big_quiet_step (fail)
    refine wq_ ?_;clear q0 q8 q9 Gk gW gV gU gT;obtain⟨V0,Eh⟩:∃ V0:World,{ heap:=W4.heap,tape:=W4.tape,drawn:=W4.drawn+1,os:=W4.os,output:=W4.output }=V0:=⟨_,rfl⟩;rw[Eh];have eB:Bw_ W4 V0:=by rw[<- Eh];exact⟨rfl,rfl,rfl,Nat.le_refl _,fun _ _=>rfl⟩
    have cL:=hd_ (Gi.o.below eB);have E8:=bt_ ff eB;have cH:=bt_ Eu eB;clear Eh eB Gi ff Eu;refine Qa ?_;simp only[Za7,dz_,Zag,tz_];go_wp2_with fail;refine cm_ (eH.o V0 E8.o) ?_;rintro e V1 ⟨rfl,hb⟩;have eJ:=hd_ (cL.o.below hb);have FR:=bt_ E8 hb;have gE:=bt_ cH hb;clear hb cL E8 cH eH;go_wp2_with fail;refine⟨⟨.inr ⟨⟨V1,eJ.o.c4⟩,rfl⟩,.inr ⟨⟨V1,eJ.o.c5⟩,rfl⟩,trivial⟩,?_⟩;refine Qa ?_;simp only[Za7,dz_,Zag,tz_];go_wp2_with fail;refine cm_ (eG.o V1 FR.o) ?_;rintro e V2 ⟨rfl,hb⟩;have GL:=hd_ (eJ.o.below hb);have fD:=bt_ FR hb;have gJ:=bt_ gE hb;clear hb eJ FR gE eG;go_wp2_with fail;refine⟨⟨.inr ⟨⟨V2,GL.o.c4⟩,rfl⟩,.inr ⟨⟨V2,GL.o.c5⟩,rfl⟩,trivial⟩,?_⟩;have gW:=GL.o.c4;have gV:=GL.o.c5;have gU:=GL.o.f4;have gT:=GL.o.f5;refine Qa ?_;simp only[Za7,dz_,Zag,tz_];go_wp2_with fail;have FB:(V2.setCell ⟨w.heap.size+1+1,0,none⟩ (.string slo2)).cell? ⟨w.heap.size+1+1+1,0,none⟩=some (.string shi):=by
     rw[World.cell?_setCell_other _ _ _ _ (by simp)];exact GL.o.c5
    have DK:(V2.setCell ⟨w.heap.size+1+1,0,none⟩ (.string slo2)).frozen? ⟨w.heap.size+1+1+1,0,none⟩=false:=by rw[World.frozen?_setCell];exact GL.o.f5
    refine⟨⟨.inl rfl,.inr ⟨⟨V2.setCell ⟨w.heap.size+1+1,0,none⟩ (.string slo2),FB⟩,rfl⟩,trivial⟩,?_⟩;clear gW gV gU gT;refine Qa ?_;simp only[Za7,dz_,Zag,tz_];go_wp2_with fail;refine⟨⟨.inl rfl,.inl rfl,trivial⟩,?_⟩;simp only[Vu];exact⟨(Qk gJ.o).trans ((KeepsOthers.setCell _ _ _).trans (KeepsOthers.setCell _ _ _)),Zlf rfl HB.o HI.o.sz gJ.o _ _,(GL.o.stored _ _).cast bA.o BE.o,Zaw fD.o _ _⟩
   ·rw[if_neg hk] at e1 e2;have ed:¬ k.sign<0:=by omega
    have eH:Hid (∀ W,Bw_ w W->Kc Tryz.prog 205 #[.string (itx (LN.eLo (lf n) (pre.map Subtype.val))),.string (itx ((lf n 2:Int)*k))] W (.string (itx ((LN.eLo (lf n) (pre.map Subtype.val))+(lf n 2:Int)*k)))):=fun W hW=>Qa6 W _ _ F hF s1 t1 (Dp.o W hW)
    have eG:Hid (∀ W,Bw_ w W->Kc Tryz.prog 205 #[.string (itx (LN.eHi (lf n) (pre.map Subtype.val))),.string (itx ((lf n 2:Int)*k))] W (.string (itx ((LN.eHi (lf n) (pre.map Subtype.val))+(lf n 2:Int)*k)))):=fun W hW=>Qa6 W _ _ F hF s2 t2 (Dp.o W hW)
    generalize k.sign=sg at *;rw[<- e1] at eH;rw[<- e2] at eG;clear e1 e2 s1 s2 t1 t2 Dp gh EB hF;obtain⟨slo2,Gd⟩:∃ s,itx (LN.eLo (lf n) ((pre++[(⟨(2,k),Gq⟩:{x // x∈tl})]).map Subtype.val))=s:=⟨_,rfl⟩;obtain⟨shi2,gQ⟩:∃ s,itx (LN.eHi (lf n) ((pre++[(⟨(2,k),Gq⟩:{x // x∈tl})]).map Subtype.val))=s:=⟨_,rfl⟩;rw[Gd] at eH;rw[gQ] at eG;have bA:=hd_ Gd;have BE:=hd_ gQ;clear Gd gQ;generalize itx (LN.eLo (lf n) (pre.map Subtype.val))=slo at *;generalize itx (LN.eHi (lf n) (pre.map Subtype.val))=shi at *;generalize itx k=sk at *;generalize itx ((lf n 2:Int)*k)=sa at *;generalize dec (lf n 2)=sL at *;clear Gw
    gi_wp2_with fail
    refine⟨trivial,?_⟩;refine(CallsIn.inRound l (callsIn_wide.2 (Et.o W0 dz.o))).mono ?_;rintro e W1 ⟨rfl,hb⟩;have fp:=hd_ (Fj.o.below hb);have Fk:=bt_ dz hb;have Ew:=bt_ Dm hb;clear hb Gk gW gV gU gT Et Fj dz Dm;have Gk:=fp.o.c3;have gW:=fp.o.c4;have gV:=fp.o.c5;have gU:=fp.o.f4;have gT:=fp.o.f5
    gi_wp2_with fail
    refine⟨trivial,?_⟩;refine(CallsIn.inRound l (callsIn_wide.2 (GU.o W1 Fk.o))).mono ?_;rintro e W2 ⟨rfl,hb⟩;have gv:=hd_ (fp.o.below hb);have GC:=bt_ Fk hb;have FF:=bt_ Ew hb;clear hb Gk gW gV gU gT GU fp Fk Ew;have Gk:=gv.o.c3;have gW:=gv.o.c4;have gV:=gv.o.c5;have gU:=gv.o.f4;have gT:=gv.o.f5
    gi_wp2_with fail
    refine⟨trivial,?_⟩;refine(CallsIn.inRound l (callsIn_wide.2 (GJ.o W2 GC.o))).mono ?_;rintro e W3 ⟨rfl,hb⟩;have gL:=hd_ (gv.o.below hb);have fg:=bt_ GC hb;have Ev:=bt_ FF hb;clear hb Gk gW gV gU gT GJ gv GC FF;have Gk:=gL.o.c3;have gW:=gL.o.c4;have gV:=gL.o.c5;have gU:=gL.o.f4;have gT:=gL.o.f5
    gi_wp2_with fail
    refine⟨trivial,?_⟩;refine(CallsIn.inRound l (callsIn_wide.2 (gI.o W3 fg.o))).mono ?_;rintro e W4 ⟨rfl,hb⟩;have Gi:=hd_ (gL.o.below hb);have ff:=bt_ fg hb;have Eu:=bt_ Ev hb;clear hb Gk gW gV gU gT gI gL fg Ev;have Gk:=Gi.o.c3;have gW:=Gi.o.c4;have gV:=Gi.o.c5;have gU:=Gi.o.f4;have gT:=Gi.o.f5
    gi_wp2_with fail
    have q0:=@Zk.h;have q9:Nonempty (Zk ⟨w.heap.size+1+1,0,none⟩ (.string slo)):=⟨⟨W4,Gi.o.c4⟩⟩;have q8:Nonempty (Zk ⟨w.heap.size+1+1+1,0,none⟩ (.string shi)):=⟨⟨W4,Gi.o.c5⟩⟩;refine Qr [(8,0),(1,1),(9,3),(1,4),(0,2),(0,5),(0,6),(0,7)]
     [(6,fun w'=>∃ p:Zk ⟨w.heap.size+1+1,0,none⟩ (.string slo),w'=p.w),(7,fun w'=>∃ p:Zk ⟨w.heap.size+1+1+1,0,none⟩ (.string shi),w'=p.w)]
     (by kernel_rfl) (by kernel_rfl) ⟨.inr ⟨⟨{ W4 with drawn:=W4.drawn+1 },Gi.o.c4⟩,rfl⟩,.inr ⟨⟨{ W4 with drawn:=W4.drawn+1 },Gi.o.c5⟩,rfl⟩,trivial⟩ ?_
    refine Qz (s:=6) _ (List.mem_cons_self ..) rfl ?_;simp only[dz_,Zag,tz_]
    go_big_quiet_step (fail)
    refine wq_ ?_;refine Vn ?_;simp only[Za7,dz_,Zag,tz_]
    go_big_quiet_step (fail)
    refine wq_ ?_;refine Qz (s:=7) _ (List.mem_cons_of_mem _ (List.mem_cons_self ..)) rfl ?_;simp only[Za7,dz_,Zag,tz_]
    go_big_quiet_step (fail)
    refine wq_ ?_;refine Vn ?_;simp only[Za7,dz_,Zag,tz_]
    go_big_quiet_step (fail)
    refine wq_ ?_;clear q0 q8 q9 Gk gW gV gU gT;obtain⟨V0,Eh⟩:∃ V0:World,{ heap:=W4.heap,tape:=W4.tape,drawn:=W4.drawn+1,os:=W4.os,output:=W4.output }=V0:=⟨_,rfl⟩;rw[Eh];have eB:Bw_ W4 V0:=by rw[<- Eh];exact⟨rfl,rfl,rfl,Nat.le_refl _,fun _ _=>rfl⟩
    have cL:=hd_ (Gi.o.below eB);have E8:=bt_ ff eB;have cH:=bt_ Eu eB;clear Eh eB Gi ff Eu;refine Qa ?_;simp only[Za7,dz_,Zag,tz_];go_wp2_with fail;refine cm_ (eH.o V0 E8.o) ?_;rintro e V1 ⟨rfl,hb⟩;have eJ:=hd_ (cL.o.below hb);have FR:=bt_ E8 hb;have gE:=bt_ cH hb;clear hb cL E8 cH eH;go_wp2_with fail;refine⟨⟨.inr ⟨⟨V1,eJ.o.c4⟩,rfl⟩,.inr ⟨⟨V1,eJ.o.c5⟩,rfl⟩,trivial⟩,?_⟩;refine Qa ?_;simp only[Za7,dz_,Zag,tz_];go_wp2_with fail;refine cm_ (eG.o V1 FR.o) ?_;rintro e V2 ⟨rfl,hb⟩;have GL:=hd_ (eJ.o.below hb);have fD:=bt_ FR hb;have gJ:=bt_ gE hb;clear hb eJ FR gE eG;go_wp2_with fail;refine⟨⟨.inr ⟨⟨V2,GL.o.c4⟩,rfl⟩,.inr ⟨⟨V2,GL.o.c5⟩,rfl⟩,trivial⟩,?_⟩;have gW:=GL.o.c4;have gV:=GL.o.c5;have gU:=GL.o.f4;have gT:=GL.o.f5;refine Qa ?_;simp only[Za7,dz_,Zag,tz_];go_wp2_with fail;have FB:(V2.setCell ⟨w.heap.size+1+1,0,none⟩ (.string slo2)).cell? ⟨w.heap.size+1+1+1,0,none⟩=some (.string shi):=by
     rw[World.cell?_setCell_other _ _ _ _ (by simp)];exact GL.o.c5
    have DK:(V2.setCell ⟨w.heap.size+1+1,0,none⟩ (.string slo2)).frozen? ⟨w.heap.size+1+1+1,0,none⟩=false:=by rw[World.frozen?_setCell];exact GL.o.f5
    refine⟨⟨.inl rfl,.inr ⟨⟨V2.setCell ⟨w.heap.size+1+1,0,none⟩ (.string slo2),FB⟩,rfl⟩,trivial⟩,?_⟩;clear gW gV gU gT;refine Qa ?_;simp only[Za7,dz_,Zag,tz_];go_wp2_with fail;refine⟨⟨.inl rfl,.inl rfl,trivial⟩,?_⟩;simp only[Vu];exact⟨(Qk gJ.o).trans ((KeepsOthers.setCell _ _ _).trans (KeepsOthers.setCell _ _ _)),Zlf rfl HB.o HI.o.sz gJ.o _ _,(GL.o.stored _ _).cast bA.o BE.o,Zaw fD.o _ _⟩
  ·have hH:LN.hiL (lf n) p=lf n p+1:=by unfold LN.hiL;rw[if_neg gM]
   rw[hH] at GJ e1 e2 t2;have MD:(p==2)=false:=by rw[beq_eq_false_iff_ne];exact gM
   clear hH;rcases fM with⟨hs,hk⟩|⟨Ez,G1,hk⟩
   ·rw[if_pos hk] at e1 e2;rw[hs] at gI;clear hs;have eH:Hid (∀ W,Bw_ w W->Kc Tryz.prog 205 #[.string (itx (LN.eLo (lf n) (pre.map Subtype.val))),.string (itx (((lf n p+1:Nat):Int)*k))] W (.string (itx ((LN.eLo (lf n) (pre.map Subtype.val))+((lf n p+1:Nat):Int)*k)))):=fun W hW=>Qa6 W _ _ F hF s1 t2 (Dp.o W hW)
    have eG:Hid (∀ W,Bw_ w W->Kc Tryz.prog 205 #[.string (itx (LN.eHi (lf n) (pre.map Subtype.val))),.string (itx ((lf n p:Int)*k))] W (.string (itx ((LN.eHi (lf n) (pre.map Subtype.val))+(lf n p:Int)*k)))):=fun W hW=>Qa6 W _ _ F hF s2 t1 (Dp.o W hW)
    rw[<- e1] at eH;rw[<- e2] at eG;clear e1 e2 s1 s2 t1 t2 Dp gh EB hF;obtain⟨slo2,Gd⟩:∃ s,itx (LN.eLo (lf n) ((pre++[(⟨(p,k),Gq⟩:{x // x∈tl})]).map Subtype.val))=s:=⟨_,rfl⟩;obtain⟨shi2,gQ⟩:∃ s,itx (LN.eHi (lf n) ((pre++[(⟨(p,k),Gq⟩:{x // x∈tl})]).map Subtype.val))=s:=⟨_,rfl⟩;rw[Gd] at eH;rw[gQ] at eG;have bA:=hd_ Gd;have BE:=hd_ gQ;clear Gd gQ;generalize itx (LN.eLo (lf n) (pre.map Subtype.val))=slo at *;generalize itx (LN.eHi (lf n) (pre.map Subtype.val))=shi at *;generalize itx k=sk at *;generalize itx ((lf n p:Int)*k)=sa at *;generalize itx (((lf n p+1:Nat):Int)*k)=sb at *;generalize dec (lf n p+1)=sH at *;generalize dec (lf n p)=sL at *
    gi_wp2_with fail
    refine⟨trivial,?_⟩;refine(CallsIn.inRound l (callsIn_wide.2 (Et.o W0 dz.o))).mono ?_;rintro e W1 ⟨rfl,hb⟩;have fp:=hd_ (Fj.o.below hb);have Fk:=bt_ dz hb;have Ew:=bt_ Dm hb;clear hb Gk gW gV gU gT Et Fj dz Dm;have Gk:=fp.o.c3;have gW:=fp.o.c4;have gV:=fp.o.c5;have gU:=fp.o.f4;have gT:=fp.o.f5
    gi_wp2_with fail
    refine⟨trivial,?_⟩;refine(CallsIn.inRound l (callsIn_wide.2 (Gw.o W1 Fk.o))).mono ?_;rintro e W2 ⟨rfl,hb⟩;have gv:=hd_ (fp.o.below hb);have GC:=bt_ Fk hb;have FF:=bt_ Ew hb;clear hb Gk gW gV gU gT Gw fp Fk Ew;have Gk:=gv.o.c3;have gW:=gv.o.c4;have gV:=gv.o.c5;have gU:=gv.o.f4;have gT:=gv.o.f5
    gi_wp2_with fail
    refine⟨trivial,?_⟩;refine(CallsIn.inRound l (callsIn_wide.2 (GU.o W2 GC.o))).mono ?_;rintro e W3 ⟨rfl,hb⟩;have gL:=hd_ (gv.o.below hb);have fg:=bt_ GC hb;have Ev:=bt_ FF hb;clear hb Gk gW gV gU gT GU gv GC FF;have Gk:=gL.o.c3;have gW:=gL.o.c4;have gV:=gL.o.c5;have gU:=gL.o.f4;have gT:=gL.o.f5
    gi_wp2_with fail
    refine⟨trivial,?_⟩;refine(CallsIn.inRound l (callsIn_wide.2 (GJ.o W3 fg.o))).mono ?_;rintro e W4 ⟨rfl,hb⟩;have Gi:=hd_ (gL.o.below hb);have ff:=bt_ fg hb;have Eu:=bt_ Ev hb;clear hb Gk gW gV gU gT GJ gL fg Ev;have Gk:=Gi.o.c3;have gW:=Gi.o.c4;have gV:=Gi.o.c5;have gU:=Gi.o.f4;have gT:=Gi.o.f5
    gi_wp2_with fail
    refine⟨trivial,?_⟩;refine(CallsIn.inRound l (callsIn_wide.2 (gI.o W4 ff.o))).mono ?_;rintro e W5 ⟨rfl,hb⟩;have Fi:=hd_ (Gi.o.below hb);have CS:=bt_ ff hb;have ik:=bt_ Eu hb;clear hb Gk gW gV gU gT gI Gi ff Eu;have Gk:=Fi.o.c3;have gW:=Fi.o.c4;have gV:=Fi.o.c5;have gU:=Fi.o.f4;have gT:=Fi.o.f5
    gi_wp2_with fail
    have q0:=@Zk.h;have q9:Nonempty (Zk ⟨w.heap.size+1+1,0,none⟩ (.string slo)):=⟨⟨W5,Fi.o.c4⟩⟩;have q8:Nonempty (Zk ⟨w.heap.size+1+1+1,0,none⟩ (.string shi)):=⟨⟨W5,Fi.o.c5⟩⟩;refine Qr [(8,0),(1,1),(9,3),(1,4),(0,2),(0,5),(0,6),(0,7)]
     [(6,fun w'=>∃ p:Zk ⟨w.heap.size+1+1,0,none⟩ (.string slo),w'=p.w),(7,fun w'=>∃ p:Zk ⟨w.heap.size+1+1+1,0,none⟩ (.string shi),w'=p.w)]
     (by kernel_rfl) (by kernel_rfl) ⟨.inr ⟨⟨{ W5 with drawn:=W5.drawn+1 },Fi.o.c4⟩,rfl⟩,.inr ⟨⟨{ W5 with drawn:=W5.drawn+1 },Fi.o.c5⟩,rfl⟩,trivial⟩ ?_
    refine Qz (s:=6) _ (List.mem_cons_self ..) rfl ?_;simp only[dz_,Zag,tz_]
    go_big_quiet_step (fail)
    refine wq_ ?_;refine Vn ?_;simp only[Za7,dz_,Zag,tz_]
    go_big_quiet_step (fail)
    refine wq_ ?_;refine Qz (s:=7) _ (List.mem_cons_of_mem _ (List.mem_cons_self ..)) rfl ?_;simp only[Za7,dz_,Zag,tz_]
    go_big_quiet_step (fail)
    refine wq_ ?_;refine Vn ?_;simp only[Za7,dz_,Zag,tz_]
    go_big_quiet_step (fail)
    refine wq_ ?_;clear q0 q8 q9 Gk gW gV gU gT;obtain⟨V0,Eh⟩:∃ V0:World,{ heap:=W5.heap,tape:=W5.tape,drawn:=W5.drawn+1,os:=W5.os,output:=W5.output }=V0:=⟨_,rfl⟩;rw[Eh];have eB:Bw_ W5 V0:=by rw[<- Eh];exact⟨rfl,rfl,rfl,Nat.le_refl _,fun _ _=>rfl⟩
    have cL:=hd_ (Fi.o.below eB);have E8:=bt_ CS eB;have cH:=bt_ ik eB;clear Eh eB Fi CS ik;refine Qa ?_;simp only[Za7,dz_,Zag,tz_];go_wp2_with fail;refine cm_ (eH.o V0 E8.o) ?_;rintro e V1 ⟨rfl,hb⟩;have eJ:=hd_ (cL.o.below hb);have FR:=bt_ E8 hb;have gE:=bt_ cH hb;clear hb cL E8 cH eH;go_wp2_with fail;refine⟨⟨.inr ⟨⟨V1,eJ.o.c4⟩,rfl⟩,.inr ⟨⟨V1,eJ.o.c5⟩,rfl⟩,trivial⟩,?_⟩;refine Qa ?_;simp only[Za7,dz_,Zag,tz_];go_wp2_with fail;refine cm_ (eG.o V1 FR.o) ?_;rintro e V2 ⟨rfl,hb⟩;have GL:=hd_ (eJ.o.below hb);have fD:=bt_ FR hb;have gJ:=bt_ gE hb;clear hb eJ FR gE eG;go_wp2_with fail;refine⟨⟨.inr ⟨⟨V2,GL.o.c4⟩,rfl⟩,.inr ⟨⟨V2,GL.o.c5⟩,rfl⟩,trivial⟩,?_⟩;have gW:=GL.o.c4;have gV:=GL.o.c5;have gU:=GL.o.f4;have gT:=GL.o.f5;refine Qa ?_;simp only[Za7,dz_,Zag,tz_];go_wp2_with fail;have FB:(V2.setCell ⟨w.heap.size+1+1,0,none⟩ (.string slo2)).cell? ⟨w.heap.size+1+1+1,0,none⟩=some (.string shi):=by
     rw[World.cell?_setCell_other _ _ _ _ (by simp)];exact GL.o.c5
    have DK:(V2.setCell ⟨w.heap.size+1+1,0,none⟩ (.string slo2)).frozen? ⟨w.heap.size+1+1+1,0,none⟩=false:=by rw[World.frozen?_setCell];exact GL.o.f5
    refine⟨⟨.inl rfl,.inr ⟨⟨V2.setCell ⟨w.heap.size+1+1,0,none⟩ (.string slo2),FB⟩,rfl⟩,trivial⟩,?_⟩;clear gW gV gU gT;refine Qa ?_;simp only[Za7,dz_,Zag,tz_];go_wp2_with fail;refine⟨⟨.inl rfl,.inl rfl,trivial⟩,?_⟩;simp only[Vu];exact⟨(Qk gJ.o).trans ((KeepsOthers.setCell _ _ _).trans (KeepsOthers.setCell _ _ _)),Zlf rfl HB.o HI.o.sz gJ.o _ _,(GL.o.stored _ _).cast bA.o BE.o,Zaw fD.o _ _⟩
   ·rw[if_neg hk] at e1 e2;have ed:¬ k.sign<0:=by omega
    have eH:Hid (∀ W,Bw_ w W->Kc Tryz.prog 205 #[.string (itx (LN.eLo (lf n) (pre.map Subtype.val))),.string (itx ((lf n p:Int)*k))] W (.string (itx ((LN.eLo (lf n) (pre.map Subtype.val))+(lf n p:Int)*k)))):=fun W hW=>Qa6 W _ _ F hF s1 t1 (Dp.o W hW)
    have eG:Hid (∀ W,Bw_ w W->Kc Tryz.prog 205 #[.string (itx (LN.eHi (lf n) (pre.map Subtype.val))),.string (itx (((lf n p+1:Nat):Int)*k))] W (.string (itx ((LN.eHi (lf n) (pre.map Subtype.val))+((lf n p+1:Nat):Int)*k)))):=fun W hW=>Qa6 W _ _ F hF s2 t2 (Dp.o W hW)
    generalize k.sign=sg at *;rw[<- e1] at eH;rw[<- e2] at eG;clear e1 e2 s1 s2 t1 t2 Dp gh EB hF;obtain⟨slo2,Gd⟩:∃ s,itx (LN.eLo (lf n) ((pre++[(⟨(p,k),Gq⟩:{x // x∈tl})]).map Subtype.val))=s:=⟨_,rfl⟩;obtain⟨shi2,gQ⟩:∃ s,itx (LN.eHi (lf n) ((pre++[(⟨(p,k),Gq⟩:{x // x∈tl})]).map Subtype.val))=s:=⟨_,rfl⟩;rw[Gd] at eH;rw[gQ] at eG;have bA:=hd_ Gd;have BE:=hd_ gQ;clear Gd gQ;generalize itx (LN.eLo (lf n) (pre.map Subtype.val))=slo at *;generalize itx (LN.eHi (lf n) (pre.map Subtype.val))=shi at *;generalize itx k=sk at *;generalize itx ((lf n p:Int)*k)=sa at *;generalize itx (((lf n p+1:Nat):Int)*k)=sb at *;generalize dec (lf n p+1)=sH at *;generalize dec (lf n p)=sL at *
    gi_wp2_with fail
    refine⟨trivial,?_⟩;refine(CallsIn.inRound l (callsIn_wide.2 (Et.o W0 dz.o))).mono ?_;rintro e W1 ⟨rfl,hb⟩;have fp:=hd_ (Fj.o.below hb);have Fk:=bt_ dz hb;have Ew:=bt_ Dm hb;clear hb Gk gW gV gU gT Et Fj dz Dm;have Gk:=fp.o.c3;have gW:=fp.o.c4;have gV:=fp.o.c5;have gU:=fp.o.f4;have gT:=fp.o.f5
    gi_wp2_with fail
    refine⟨trivial,?_⟩;refine(CallsIn.inRound l (callsIn_wide.2 (Gw.o W1 Fk.o))).mono ?_;rintro e W2 ⟨rfl,hb⟩;have gv:=hd_ (fp.o.below hb);have GC:=bt_ Fk hb;have FF:=bt_ Ew hb;clear hb Gk gW gV gU gT Gw fp Fk Ew;have Gk:=gv.o.c3;have gW:=gv.o.c4;have gV:=gv.o.c5;have gU:=gv.o.f4;have gT:=gv.o.f5
    gi_wp2_with fail
    refine⟨trivial,?_⟩;refine(CallsIn.inRound l (callsIn_wide.2 (GU.o W2 GC.o))).mono ?_;rintro e W3 ⟨rfl,hb⟩;have gL:=hd_ (gv.o.below hb);have fg:=bt_ GC hb;have Ev:=bt_ FF hb;clear hb Gk gW gV gU gT GU gv GC FF;have Gk:=gL.o.c3;have gW:=gL.o.c4;have gV:=gL.o.c5;have gU:=gL.o.f4;have gT:=gL.o.f5
    gi_wp2_with fail
    refine⟨trivial,?_⟩;refine(CallsIn.inRound l (callsIn_wide.2 (GJ.o W3 fg.o))).mono ?_;rintro e W4 ⟨rfl,hb⟩;have Gi:=hd_ (gL.o.below hb);have ff:=bt_ fg hb;have Eu:=bt_ Ev hb;clear hb Gk gW gV gU gT GJ gL fg Ev;have Gk:=Gi.o.c3;have gW:=Gi.o.c4;have gV:=Gi.o.c5;have gU:=Gi.o.f4;have gT:=Gi.o.f5
    gi_wp2_with fail
    refine⟨trivial,?_⟩;refine(CallsIn.inRound l (callsIn_wide.2 (gI.o W4 ff.o))).mono ?_;rintro e W5 ⟨rfl,hb⟩;have Fi:=hd_ (Gi.o.below hb);have CS:=bt_ ff hb;have ik:=bt_ Eu hb;clear hb Gk gW gV gU gT gI Gi ff Eu;have Gk:=Fi.o.c3;have gW:=Fi.o.c4;have gV:=Fi.o.c5;have gU:=Fi.o.f4;have gT:=Fi.o.f5
    gi_wp2_with fail
    have q0:=@Zk.h;have q9:Nonempty (Zk ⟨w.heap.size+1+1,0,none⟩ (.string slo)):=⟨⟨W5,Fi.o.c4⟩⟩;have q8:Nonempty (Zk ⟨w.heap.size+1+1+1,0,none⟩ (.string shi)):=⟨⟨W5,Fi.o.c5⟩⟩;refine Qr [(8,0),(1,1),(9,3),(1,4),(0,2),(0,5),(0,6),(0,7)]
     [(6,fun w'=>∃ p:Zk ⟨w.heap.size+1+1,0,none⟩ (.string slo),w'=p.w),(7,fun w'=>∃ p:Zk ⟨w.heap.size+1+1+1,0,none⟩ (.string shi),w'=p.w)]
     (by kernel_rfl) (by kernel_rfl) ⟨.inr ⟨⟨{ W5 with drawn:=W5.drawn+1 },Fi.o.c4⟩,rfl⟩,.inr ⟨⟨{ W5 with drawn:=W5.drawn+1 },Fi.o.c5⟩,rfl⟩,trivial⟩ ?_
    refine Qz (s:=6) _ (List.mem_cons_self ..) rfl ?_;simp only[dz_,Zag,tz_]
    go_big_quiet_step (fail)
    refine wq_ ?_;refine Vn ?_;simp only[Za7,dz_,Zag,tz_]
    go_big_quiet_step (fail)
    refine wq_ ?_;refine Qz (s:=7) _ (List.mem_cons_of_mem _ (List.mem_cons_self ..)) rfl ?_;simp only[Za7,dz_,Zag,tz_]
    go_big_quiet_step (fail)
    refine wq_ ?_;refine Vn ?_;simp only[Za7,dz_,Zag,tz_]
    go_big_quiet_step (fail)
    refine wq_ ?_;clear q0 q8 q9 Gk gW gV gU gT;obtain⟨V0,Eh⟩:∃ V0:World,{ heap:=W5.heap,tape:=W5.tape,drawn:=W5.drawn+1,os:=W5.os,output:=W5.output }=V0:=⟨_,rfl⟩;rw[Eh];have eB:Bw_ W5 V0:=by rw[<- Eh];exact⟨rfl,rfl,rfl,Nat.le_refl _,fun _ _=>rfl⟩
    have cL:=hd_ (Fi.o.below eB);have E8:=bt_ CS eB;have cH:=bt_ ik eB;clear Eh eB Fi CS ik;refine Qa ?_;simp only[Za7,dz_,Zag,tz_];go_wp2_with fail;refine cm_ (eH.o V0 E8.o) ?_;rintro e V1 ⟨rfl,hb⟩;have eJ:=hd_ (cL.o.below hb);have FR:=bt_ E8 hb;have gE:=bt_ cH hb;clear hb cL E8 cH eH;go_wp2_with fail;refine⟨⟨.inr ⟨⟨V1,eJ.o.c4⟩,rfl⟩,.inr ⟨⟨V1,eJ.o.c5⟩,rfl⟩,trivial⟩,?_⟩;refine Qa ?_;simp only[Za7,dz_,Zag,tz_];go_wp2_with fail;refine cm_ (eG.o V1 FR.o) ?_;rintro e V2 ⟨rfl,hb⟩;have GL:=hd_ (eJ.o.below hb);have fD:=bt_ FR hb;have gJ:=bt_ gE hb;clear hb eJ FR gE eG;go_wp2_with fail;refine⟨⟨.inr ⟨⟨V2,GL.o.c4⟩,rfl⟩,.inr ⟨⟨V2,GL.o.c5⟩,rfl⟩,trivial⟩,?_⟩;have gW:=GL.o.c4;have gV:=GL.o.c5;have gU:=GL.o.f4;have gT:=GL.o.f5;refine Qa ?_;simp only[Za7,dz_,Zag,tz_];go_wp2_with fail;have FB:(V2.setCell ⟨w.heap.size+1+1,0,none⟩ (.string slo2)).cell? ⟨w.heap.size+1+1+1,0,none⟩=some (.string shi):=by
     rw[World.cell?_setCell_other _ _ _ _ (by simp)];exact GL.o.c5
    have DK:(V2.setCell ⟨w.heap.size+1+1,0,none⟩ (.string slo2)).frozen? ⟨w.heap.size+1+1+1,0,none⟩=false:=by rw[World.frozen?_setCell];exact GL.o.f5
    refine⟨⟨.inl rfl,.inr ⟨⟨V2.setCell ⟨w.heap.size+1+1,0,none⟩ (.string slo2),FB⟩,rfl⟩,trivial⟩,?_⟩;clear gW gV gU gT;refine Qa ?_;simp only[Za7,dz_,Zag,tz_];go_wp2_with fail;refine⟨⟨.inl rfl,.inl rfl,trivial⟩,?_⟩;simp only[Vu];exact⟨(Qk gJ.o).trans ((KeepsOthers.setCell _ _ _).trans (KeepsOthers.setCell _ _ _)),Zlf rfl HB.o HI.o.sz gJ.o _ _,(GL.o.stored _ _).cast bA.o BE.o,Zaw fD.o _ _⟩
 case done =>
  rintro D' ys W hD rfl ⟨hI,hB⟩ hK;rw[List.attach_map_subtype_val] at hI;have HI:=hd_ hI;have HB:=hd_ hB;have HK:=hd_ hK;clear hI hB hK dE eN DS GN Be;have Hv:Hid (∀ s t,itx (LN.eLo (lf n) tl)=s->itx (LN.eHi (lf n) tl)=t->Ending.returned (.tuple #[.string s,.string t])=Ending.returned (.tuple #[.string (itx (LN.eLo (lf n) tl)),.string (itx (LN.eHi (lf n) tl))])):=by
   intro s t h1 h2;rw[h1,h2]
  obtain⟨lo,fu⟩:∃ s,itx (LN.eLo (lf n) tl)=s:=⟨_,rfl⟩;obtain⟨hi,hhi⟩:∃ s,itx (LN.eHi (lf n) tl)=s:=⟨_,rfl⟩;have Hr:=hd_ (Hv.o lo hi fu hhi);rw[fu,hhi] at HI;clear Hv fu hhi;have gW:=HI.o.c4;have gV:=HI.o.c5;have gU:=HI.o.f4;have gT:=HI.o.f5
  gi_wp2_with fail
  gi_region
  gi_wp2
  clear gW gV gU gT;have e4:((W.setCell { block:=w.heap.size+1+1,off:=0 } (Value.string lo)).setCell { block:=w.heap.size+1+1+1,off:=0 } (Value.string hi)).drew.cell? ⟨w.heap.size+1+1,0,none⟩=some (.string lo):=by
   show World.cell? ((W.setCell { block:=w.heap.size+1+1,off:=0 } (Value.string lo)).setCell { block:=w.heap.size+1+1+1,off:=0 } (Value.string hi)) _=_
   rw[World.cell?_setCell_other _ _ _ _ (by simp),World.cell?_setCell_same _ _ _ HI.o.c4]
  have e5:((W.setCell { block:=w.heap.size+1+1,off:=0 } (Value.string lo)).setCell { block:=w.heap.size+1+1+1,off:=0 } (Value.string hi)).drew.cell? ⟨w.heap.size+1+1+1,0,none⟩=some (.string hi):=by
   show World.cell? ((W.setCell { block:=w.heap.size+1+1,off:=0 } (Value.string lo)).setCell { block:=w.heap.size+1+1+1,off:=0 } (Value.string hi)) _=_
   rw[World.cell?_setCell_same _ _ _ (by rw[World.cell?_setCell_other _ _ _ _ (by simp)];exact HI.o.c5)]
  have CY:=((KeepsOthers.setCell W ⟨w.heap.size+1+1,0,none⟩ (.string lo)).trans (KeepsOthers.setCell _ ⟨w.heap.size+1+1+1,0,none⟩ (.string hi))).trans (KeepsOthers.drew _);have dO:=CY.same D' _ HK.o rfl;have De:=((HB.o.setCell (p:=⟨w.heap.size+1+1,0,none⟩) (by show _<=w.heap.size+1+1;omega) (.string lo)).setCell (p:=⟨w.heap.size+1+1+1,0,none⟩) (by show _<=w.heap.size+1+1+1;omega) (.string hi)).drew;generalize ((W.setCell { block:=w.heap.size+1+1,off:=0 } (Value.string lo)).setCell { block:=w.heap.size+1+1+1,off:=0 } (Value.string hi)).drew=w9 at *;have g4:=cell_kept e4 (grownBy_putObj' _ D' (.deferred none)) (fun r e=>by cases e;exact⟨_,dO,rfl⟩);have g5:=cell_kept e5 (grownBy_putObj' _ D' (.deferred none)) (fun r e=>by cases e;exact⟨_,dO,rfl⟩);refine⟨by simp,.inl ⟨_,_,rfl,run_takeDeferred dO,?_⟩⟩;refine⟨.tuple #[.string lo,.string hi],?_,Hr.o,De.trans (belowK_b (w:=w) nr_ w9 D' _ _ (by rw[Gx] at hD;omega) dO rfl rfl)⟩;simp[results,Tryz.results165,go_sem,g4,g5]
 case stop =>
  rintro D' c pre W hD hSp ⟨hf,_⟩ hK;exact hf.elim
end Go.Proofs.YtbielfplgbammaaGreatDoor
