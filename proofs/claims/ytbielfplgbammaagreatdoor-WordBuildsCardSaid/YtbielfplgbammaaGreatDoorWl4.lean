/- Lemmas for the laws of this seat, part 4. -/
import Derived.WalkMore
import Derived.Scope
import Derived.BigQuiet
import Derived.Deep.OwnRows
import Derived.Deep.CutRange
import Derived.Deep.LoopGhost
import Derived.Lib.Walk
import Derived.Lib.SliceRun
import Derived.RangeFuncNested
import Derived.RangeFuncBound
import Derived.RangeFuncCalls
import Derived.RangeFuncLeaves
import Derived.Shelf.Abstract
import Derived.Shelf.RegionOpen
import Derived.OwnWalkIn
import Derived.TacticsInMore
import Derived.LoopNIn
import Derived.LoopIn
import Derived.Sort.LoopGhostIn
import Derived.RangeFuncOwn
import Derived.Maps.OwnIn
import Derived.RangeFuncBox
import Derived.Laws.AppendOwnNone
import Derived.Laws.EntriesVeiled
import Derived.Test.YtbielfplgbammaaGreatDoorWl3
set_option maxRecDepth 100000
set_option maxHeartbeats 16000000
namespace Go.Proofs.YtbielfplgbammaaGreatDoor.LN
theorem Zcn{x:Rat}(hx:x≠0)(a:Int):∀ n:Nat,(x^a)^n=x^(a*n)
 | 0=>by simp
 | n+1=>by
  rw[Rat.pow_succ,Zcn hx a n,← Rat.zpow_add hx];congr 1;rw[Int.natCast_add,Int.mul_add];simp
theorem Zkn{x:Rat}(hx:x≠0)(a b:Int):(x^a)^b=x^(a*b):=by
 rcases Int.eq_nat_or_neg b with⟨n,rfl|rfl⟩
 ·rw[Rat.zpow_natCast,Zcn hx]
 ·rw[Rat.zpow_neg,Rat.zpow_natCast,Zcn hx,← Rat.zpow_neg];congr 1;rw[Int.mul_neg]
theorem Zks:(2:Rat)≠0:=by decide
theorem Zge{a:Int}(h:0≤a):(1:Rat)≤2^a:=by
 obtain⟨n,rfl⟩:=Int.eq_ofNat_of_zero_le h;rw[Rat.zpow_natCast];exact Ze9 (by decide) n
theorem Zgd{a:Int}(h:0<a):(1:Rat)<2^a:=by
 obtain⟨n,rfl⟩:=Int.eq_ofNat_of_zero_le (Int.le_of_lt h);rw[Rat.zpow_natCast];exact Zin (by decide) n (by omega)
theorem Zgf{a:Int}(h:a<0):(2:Rat)^a<1:=by
 have h1:=Zgd (a := -a) (by omega)
 have h2:(2:Rat)^a*2^(-a)=1:=by rw[← Rat.zpow_add Zks];simp[Int.add_right_neg]
 have h3:(0:Rat)<2^a:=Rat.zpow_pos (by decide)
 refine Rat.not_le.1 fun h4=>?_
 have h5:=Rat.mul_le_mul_of_nonneg_right h4 (c:=2^(-a)) (by grind)
 grind
theorem Zgy{x y:Rat}(h0:0<x)(h:x≤y):∀ n:Nat,x^n≤y^n
 | 0=>by rw[Rat.pow_zero,Rat.pow_zero];exact Rat.le_refl
 | n+1=>by
  have ih:=Zgy h0 h n;rw[Rat.pow_succ,Rat.pow_succ];have h1:=Rat.mul_le_mul_of_nonneg_right ih (c:=x) (by grind)
  have h2:=Rat.mul_le_mul_of_nonneg_left h (c:=y^n) (Rat.le_of_lt (Rat.pow_pos (by grind)))
  exact Rat.le_trans h1 h2
theorem Zfe{x y:Rat}(h0:0<x)(h:x≤y):y⁻¹≤x⁻¹:=by
 have hy:0<y:=by grind
 have h1:=Rat.inv_pos.2 h0;have h2:=Rat.inv_pos.2 hy;have e1:=Rat.mul_inv_cancel x (by grind)
 have e2:=Rat.mul_inv_cancel y (by grind)
 have h3:=Rat.mul_le_mul_of_nonneg_right h (c:=x⁻¹ * y⁻¹) (Rat.le_of_lt (Rat.mul_pos h1 h2));have e3:x*(x⁻¹ * y⁻¹)=y⁻¹:=by rw[← Rat.mul_assoc,e1,Rat.one_mul]
 have e4:y*(x⁻¹ * y⁻¹)=x⁻¹:=by rw[Rat.mul_comm x⁻¹,← Rat.mul_assoc,e2,Rat.one_mul]
 rw[e3,e4] at h3;exact h3
theorem Zcj{x y:Rat}(h0:0<x)(h:x≤y){j:Int}(hj:j≤0):y^j≤x^j:=by
 obtain⟨n,hn⟩:=Int.eq_ofNat_of_zero_le (a := -j) (by omega)
 have e:j = -(n:Int):=by omega
 rw[e,Rat.zpow_neg,Rat.zpow_neg,Rat.zpow_natCast,Rat.zpow_natCast];exact Zfe (Rat.pow_pos h0) (Zgy h0 h n)
structure Btw (v:Rat) (a b:Int):Prop where
 pos:0<v
 lo:2^a≤v
 hi:v≤2^b
theorem Btw.inv{v:Rat}{a b:Int}(h:Btw v a b):Btw v⁻¹ (-b) (-a):=by
 refine⟨Rat.inv_pos.2 h.pos,?_,?_⟩
 ·rw[Rat.zpow_neg];exact Zfe h.pos h.hi
 ·rw[Rat.zpow_neg];exact Zfe (Rat.zpow_pos (by decide)) h.lo
theorem Btw.zpow_neg{v:Rat}{a b:Int}(h:Btw v a b){j:Int}(hj:j≤0):Btw (v^j) (j*b) (j*a):=by
 refine⟨Rat.zpow_pos h.pos,?_,?_⟩
 ·rw[Int.mul_comm,← Zkn Zks];exact Zcj h.pos h.hi hj
 ·rw[Int.mul_comm,← Zkn Zks];exact Zcj (Rat.zpow_pos (by decide)) h.lo hj
theorem Btw.mul{v u:Rat}{a b c d:Int}(h:Btw v a b)(k:Btw u c d):Btw (v*u) (a+c) (b+d):=by
 refine⟨Rat.mul_pos h.pos k.pos,?_,?_⟩
 ·rw[Rat.zpow_add Zks];have h1:=Rat.mul_le_mul_of_nonneg_right h.lo (c:=2^c) (Rat.le_of_lt (Rat.zpow_pos (by decide)))
  have h2:=Rat.mul_le_mul_of_nonneg_left k.lo (c:=v) (Rat.le_of_lt h.pos);exact Rat.le_trans h1 h2
 ·rw[Rat.zpow_add Zks];have h1:=Rat.mul_le_mul_of_nonneg_right h.hi (c:=u) (Rat.le_of_lt k.pos);have h2:=Rat.mul_le_mul_of_nonneg_left k.hi (c:=2^b) (Rat.le_of_lt (Rat.zpow_pos (by decide)))
  exact Rat.le_trans h1 h2
theorem Btw.ge{v:Rat}{a b:Int}(h:Btw v a b)(ha:0≤a):1≤v:=Rat.le_trans (Zge ha) h.lo
theorem Btw.lt{v:Rat}{a b:Int}(h:Btw v a b)(hb:b<0):v<1:=by
 have:=Zgf hb
 have:=h.hi
 grind
def eLo (f:Int→Nat) (l:List (Int×Int)):Int:=(l.map fun x=>if x.2<0 then x.2*(hiL f x.1:Int) else x.2*(f x.1:Int)).sum
def eHi (f:Int→Nat) (l:List (Int×Int)):Int:=(l.map fun x=>if x.2<0 then x.2*(f x.1:Int) else x.2*(hiL f x.1:Int)).sum
theorem Zif(k:Int)(a b:Nat):(if k<0 then k*(b:Int) else k*(a:Int))=((k.toNat*a:Nat):Int)-(((-k).toNat*b:Nat):Int):=by
 by_cases h:k<0
 ·rw[if_pos h,show k.toNat=0 by omega]
  have e:((-k).toNat:Int) = -k:=Int.toNat_of_nonneg (by omega)
  rw[Int.natCast_mul,Int.natCast_mul,e]
  grind
 ·rw[if_neg h,show (-k).toNat=0 by omega]
  have e:(k.toNat:Int)=k:=Int.toNat_of_nonneg (by omega)
  rw[Int.natCast_mul,Int.natCast_mul,e]
  grind
theorem eLo_eq(f:Int→Nat):∀ l:List (Int×Int),eLo f l=(loS f l:Int)-(hiS f (negT l):Int)
 | []=>rfl
 | x::l=>by
  have ih:=eLo_eq f l;unfold eLo at ih ⊢;have e:negT (x::l)=(x.1,-x.2)::negT l:=rfl;rw[List.map_cons,List.sum_cons,ih,e,loS,hiS,Zif]
  dsimp only
  omega
theorem eHi_eq(f:Int→Nat):∀ l:List (Int×Int),eHi f l=(hiS f l:Int)-(loS f (negT l):Int)
 | []=>rfl
 | x::l=>by
  have ih:=eHi_eq f l;unfold eHi at ih ⊢;have e:negT (x::l)=(x.1,-x.2)::negT l:=rfl;rw[List.map_cons,List.sum_cons,ih,e,hiS,loS,Zif]
  dsimp only
  omega
end Go.Proofs.YtbielfplgbammaaGreatDoor.LN

namespace Go.Proofs.YtbielfplgbammaaGreatDoor
open Go.RowKit Go.Shelf
attribute [local go_sem] Oper.semAt_some
def lf (n:Nat):Int→Nat:=fun p=>lgN p n
structure Zpm (B:Nat) (n:Int) (slo shi:ByteArray) (W:World):Prop where
 c3:W.cell? ⟨B+1,0,none⟩=some (.int .i64 n)
 c4:W.cell? ⟨B+1+1,0,none⟩=some (.string slo)
 c5:W.cell? ⟨B+1+1+1,0,none⟩=some (.string shi)
 f4:W.frozen? ⟨B+1+1,0,none⟩=false
 f5:W.frozen? ⟨B+1+1+1,0,none⟩=false
 sz:B+4<W.heap.size
theorem Zpm.below{B:Nat}{n:Int}{slo shi:ByteArray}{W W':World}(h:Zpm B n slo shi W)(hb:Below W.heap.size W W'):Zpm B n slo shi W' :=
 ⟨(hb.cell (block_lt_of_cell h.c3)).trans h.c3,(hb.cell (block_lt_of_cell h.c4)).trans h.c4,(hb.cell (block_lt_of_cell h.c5)).trans h.c5,
  (hb.frozen (block_lt_of_cell h.c4)).trans h.f4,(hb.frozen (block_lt_of_cell h.c5)).trans h.f5,Nat.lt_of_lt_of_le h.sz hb.size⟩
theorem Zpm.kept{B:Nat}{n:Int}{slo shi:ByteArray}{W W':World}{row:Option Nat}(h:Zpm B n slo shi W)(hg:W.grownBy W' row)(hr:∀ r,row=some r→∃ o:Obj,W.heap[r]?=some o∧o.isCells=false):Zpm B n slo shi W' :=
 ⟨cell_kept h.c3 hg hr,cell_kept h.c4 hg hr,cell_kept h.c5 hg hr,(frozen_kept h.c4 hg hr).trans h.f4,(frozen_kept h.c5 hg hr).trans h.f5,Nat.lt_of_lt_of_le h.sz hg.size⟩
theorem Zpm.stored{B:Nat}{n:Int}{slo shi:ByteArray}{W:World}(h:Zpm B n slo shi W)(s t:ByteArray):
  Zpm B n s t ((W.setCell ⟨B+1+1,0,none⟩ (.string s)).setCell ⟨B+1+1+1,0,none⟩ (.string t)):=by
 refine⟨?_,?_,?_,?_,?_,?_⟩
 ·rw[World.cell?_setCell_other _ _ _ _ (by simp),World.cell?_setCell_other _ _ _ _ (by simp)];exact h.c3
 ·rw[World.cell?_setCell_other _ _ _ _ (by simp),World.cell?_setCell_same _ _ _ h.c4]
 ·rw[World.cell?_setCell_same _ _ _ (by rw[World.cell?_setCell_other _ _ _ _ (by simp)];exact h.c5)]
 ·rw[World.frozen?_setCell,World.frozen?_setCell];exact h.f4
 ·rw[World.frozen?_setCell,World.frozen?_setCell];exact h.f5
 ·rw[World.size_setCell,World.size_setCell];exact h.sz
theorem Zka{B:Nat}{W0 W W4:World}(hB:W0.heap.size=B)(hb:Below W0.heap.size W0 W)(hsz:B+4<W.heap.size)(h:Below W.heap.size W W4)(v5 v6:Value):
  KT B (B+4) W ((W4.setCell ⟨B+1+1,0,none⟩ v5).setCell ⟨B+1+1+1,0,none⟩ v6):=by
 subst hB;refine⟨((h.mono hb.size).setCell (p:=⟨W0.heap.size+1+1,0,none⟩) (by show _≤W0.heap.size+1+1;omega) _).setCell (p:=⟨W0.heap.size+1+1+1,0,none⟩) (by show _≤W0.heap.size+1+1+1;omega) _,?_⟩
 rw[Zau (g:=W0.heap.size+1+1+1) (k:=W0.heap.size+4) (by omega),Zau (g:=W0.heap.size+1+1) (k:=W0.heap.size+4) (by omega),h.block _ hsz]
theorem Qar(w:World)(o1:Obj)(v2 v3 v4:Value)(t2 t3 t4:TypeId)(W:World)(hW:(((w.alloc o1).alloc (.cells #[v2] t2)).alloc (.cells #[v3] t3)).alloc (.cells #[v4] t4)=W):
  W.heap[w.heap.size+1]?=some (.cells #[v2] t2 (0,0))∧W.heap[w.heap.size+1+1]?=some (.cells #[v3] t3 (0,0))∧W.heap[w.heap.size+1+1+1]?=some (.cells #[v4] t4 (0,0)):=by
 subst hW;exact⟨Ks (Ks (Kq _ _ _ _ (by simp)) _) _,Ks (Kq _ _ _ _ (by simp)) _,Kq _ _ _ _ (by simp)⟩
def PrT (tl:List (Int×Int)):Prop:=∀ x∈tl,∃ q:Nat,x.1=q∧(q=2∨q∈Zg2)
theorem Zv3(f:Int→Nat)(l:List (Int×Int))(x:Int×Int):LN.eLo f (l++[x])=LN.eLo f l+(if x.2<0 then x.2*(LN.hiL f x.1:Int) else x.2*(f x.1:Int)):=by simp[LN.eLo]
theorem Zv4(f:Int→Nat)(l:List (Int×Int))(x:Int×Int):LN.eHi f (l++[x])=LN.eHi f l+(if x.2<0 then x.2*(f x.1:Int) else x.2*(LN.hiL f x.1:Int)):=by simp[LN.eHi]
theorem Zz2{n:Nat}{p:Int}(hp:∃ q:Nat,p=q∧(q=2∨q∈Zg2))(hn:n≤1056):lf n p<2^(n+3)∧LN.hiL (lf n) p<2^(n+3):=by
 obtain⟨q,rfl,hq⟩:=hp;have h:=Zzy hq hn;have e:2^(n+3)=8*2^n:=by rw[Nat.pow_add,Nat.mul_comm]
 have h1:=Nat.two_pow_pos n;have h2:lf n q<7*2^n:=h;refine⟨by omega,?_⟩
 unfold LN.hiL;split<;>omega
theorem Zdb{k:Int}{a E F:Nat}(hk:k.natAbs<2^E)(ha:a<2^F):(k*(a:Int)).natAbs<2^(E+F):=by
 rw[Int.natAbs_mul,Int.natAbs_natCast,Nat.pow_add];exact Nat.mul_lt_mul'' hk ha
theorem Ztj{n E:Nat}(hn:n≤1056):∀ l:List (Int×Int),PrT l→(∀ x∈l,x.2.natAbs<2^E)→(LN.eLo (lf n) l).natAbs≤l.length*2^(E+(n+3))∧(LN.eHi (lf n) l).natAbs≤l.length*2^(E+(n+3))
 | [],_,_=>by simp[LN.eLo,LN.eHi]
 | x::l,hp,hk=>by
  have ih:=Ztj hn l (fun y hy=>hp y (List.mem_cons_of_mem _ hy)) (fun y hy=>hk y (List.mem_cons_of_mem _ hy))
  obtain⟨h1,h2⟩:=Zz2 (hp x List.mem_cons_self) hn;have hx:=hk x List.mem_cons_self;have a1:=Zdb hx h1;have a2:=Zdb hx h2;have e1:LN.eLo (lf n) (x::l)=(if x.2<0 then x.2*(LN.hiL (lf n) x.1:Int) else x.2*(lf n x.1:Int))+LN.eLo (lf n) l:=by simp[LN.eLo]
  have e2:LN.eHi (lf n) (x::l)=(if x.2<0 then x.2*(lf n x.1:Int) else x.2*(LN.hiL (lf n) x.1:Int))+LN.eHi (lf n) l:=by simp[LN.eHi]
  rw[e1,e2,List.length_cons,Nat.add_mul,Nat.one_mul];generalize 2^(E+(n+3))=T at *
  generalize l.length*T=S at *
  constructor
  ·refine Nat.le_trans (Int.natAbs_add_le _ _) ?_;split<;>omega
  ·refine Nat.le_trans (Int.natAbs_add_le _ _) ?_;split<;>omega
theorem Zv2{n E:Nat}(hn:n≤1056)(l:List (Int×Int))(hl:l.length≤1000)(hp:PrT l)(hk:∀ x∈l,x.2.natAbs<2^E):
  (LN.eLo (lf n) l).natAbs<2^(E+(n+3)+10)∧(LN.eHi (lf n) l).natAbs<2^(E+(n+3)+10):=by
 obtain⟨h1,h2⟩:=Ztj hn l hp hk;have h3:l.length*2^(E+(n+3))≤1000*2^(E+(n+3)):=Nat.mul_le_mul_right _ hl;have e:2^(E+(n+3)+10)=1024*2^(E+(n+3)):=by rw[Nat.pow_add _ _ 10,Nat.mul_comm]
 have h4:=Nat.two_pow_pos (E+(n+3));rw[e];constructor<;>omega
theorem Zpm.cast{B:Nat}{n:Int}{s s' t t':ByteArray}{W:World}(h:Zpm B n s t W)(e1:s'=s)(e2:t'=t):Zpm B n s' t' W:=by subst e1;subst e2;exact h
theorem Zxc(w:World)(a b:Int)(K:Nat)(hK:K<90000)(ha:a.natAbs<2^K)(hb:b.natAbs<2^K)(L:Qx w):Kc Tryz.prog 205 #[.string (itx a),.string (itx b)] w (.string (itx (a+b))) :=
 Zf8 w a b (Vr ha (by omega)) (Vr hb (by omega)) (Vr (K:=K+1) (by rw[Nat.pow_succ];omega) (by omega)) L
theorem Qbs(w:World)(a b:Int)(K M:Nat)(hK:K+M<90000)(ha:a.natAbs<2^K)(hb:b.natAbs<2^M)(L:Qx w):Kc Tryz.prog 14 #[.string (itx a),.string (itx b)] w (.string (itx (a*b))) :=
 Za4 w a b (Vr ha (by omega)) (Vr hb (by omega)) (Vr (K:=K+M) (by rw[Int.natAbs_mul,Nat.pow_add];exact Nat.mul_lt_mul'' ha hb) (by omega)) L
def Znj (w:World) (b1 b2:Option Addr) (d1 d2 D m:Nat) (n:Int) (p:Int) (k:ByteArray):Act:={ tmps := #[.agg (Qe b1 d1 b2 d2 m D),.int .i64 n,.pointer (some ⟨w.heap.size,0,none⟩),.pointer (some ⟨w.heap.size+1,0,none⟩),.pointer (some ⟨w.heap.size+1+1,0,none⟩),.pointer (some ⟨w.heap.size+1+1+1,0,none⟩),.int .i64 p,.string k,undef,undef,.agg #[.slice b1 m d1,.slice b2 m d2,.string (dec D)],.func (.func 282) #[] #[.pointer (some ⟨w.heap.size+1+1+1+1,0,none⟩)],.int .i64 p,.string k,undef,undef,undef,undef,undef,undef,undef,undef,undef,undef,undef,undef,undef,undef,undef,undef,undef,undef,undef,undef,undef,undef,undef,undef,undef,undef,undef],defers:=[] }
theorem Zv1(w:World)(b1 b2:Option Addr)(d1 d2 D n E:Nat)(tl:List (Int×Int))(T:Zbj w tl b1 b2)(hP:PrT tl)(hE:E≤20000)(hK:∀ x∈tl,x.2.natAbs<2^E)(hn:n≤1056)(L:Qx w):
  Kc Tryz.prog 165 #[.agg (Qe b1 d1 b2 d2 tl.length D),.int .i64 n] w (.tuple #[.string (itx (LN.eLo (lf n) tl)),.string (itx (LN.eHi (lf n) tl))]):=by
 unfold Kc;have hr1:=T.r1;have hr2:=T.r2;have hl:=T.len;refine(callsIn_wide (n:=3)).1 ?_;refine callsIn_of_wp_marks Tryz.func165 rfl trivial ?_ rfl;simp only[Tryz.ntmps165,List.size_toArray,List.length_cons,List.length_nil,Nat.reduceAdd,Nat.reduceSub,Array.replicate_succ,Array.replicate_zero,List.push_toArray,List.append_toArray,List.nil_append,List.cons_append];have HT:=hd_ T;have HL:=hd_ L;have Hn:=hd_ hn;have HE:=hd_ hE;have HP:=hd_ hP;have HK:=hd_ hK;have H0:Hid (itx 0=⟨#[48]⟩):=by show _=_;rw[show (0:Int)=((0:Nat):Int) from rfl,Ki,Zc6]
 clear L T hn hE hK hP
 gi_wp2_with fail
 obtain⟨w0,hw0⟩:∃ w0,(((w.alloc (Obj.cells (Qe b1 d1 b2 d2 tl.length D) 146)).alloc (Obj.cells #[Value.int IntKind.i64 n] 3)).alloc (Obj.cells #[Value.string ⟨#[48]⟩] 38)).alloc (Obj.cells #[Value.string ⟨#[48]⟩] 38)=w0:=⟨_,rfl⟩;have hsz0:w0.heap.size=w.heap.size+4:=by rw[← hw0];simp
 have hB0:Below w.heap.size w w0:=by rw[← hw0];exact((((Below.refl _ w).alloc nr_ _).alloc (by simp) _).alloc (by simp;omega) _).alloc (by simp;omega) _
 have hbox:=Qar w _ _ _ _ _ _ _ w0 hw0;rw[hw0];refine⟨trivial,?_⟩;refine(callsIn_wide.2 (Zue w0 b1 b2 d1 d2 tl.length D)).mono ?_;rintro e w' ⟨rfl,rfl⟩;rw[hsz0];have hB5:(w0.alloc (.cells (Qe b1 d1 b2 d2 tl.length D) 146)).heap[w.heap.size+4]?=some (.cells (Qe b1 d1 b2 d2 tl.length D) 146 (0,0)):=by
  rw[← hsz0];exact Go.heap_alloc_new w0 _
 have hB1:Below w.heap.size w (w0.alloc (.cells (Qe b1 d1 b2 d2 tl.length D) 146)):=hB0.alloc (by omega) _
 have hsz1:(w0.alloc (.cells (Qe b1 d1 b2 d2 tl.length D) 146)).heap.size=w.heap.size+5:=by rw[World.size_alloc,hsz0]
 have hI1:Zpm w.heap.size n (itx (LN.eLo (lf n) [])) (itx (LN.eHi (lf n) [])) (w0.alloc (.cells (Qe b1 d1 b2 d2 tl.length D) 146)):=by
  obtain⟨h1,h2,h3⟩:=hbox;have h1:=Ks h1 (.cells (Qe b1 d1 b2 d2 tl.length D) 146);have h2:=Ks h2 (.cells (Qe b1 d1 b2 d2 tl.length D) 146);have h3:=Ks h3 (.cells (Qe b1 d1 b2 d2 tl.length D) 146);have e1:itx (LN.eLo (lf n) [])=⟨#[48]⟩:=H0.out;have e2:itx (LN.eHi (lf n) [])=⟨#[48]⟩:=H0.out;rw[e1,e2];exact⟨(Kp h1).1,(Kp h2).1,(Kp h3).1,(Kp h2).2,(Kp h3).2,by rw[hsz1];omega⟩
 clear hB0 hw0 hbox H0;generalize w0.alloc (.cells (Qe b1 d1 b2 d2 tl.length D) 146)=w1 at *
 gi_wp2_with fail
 refine wpIn_rangeFunc_ownF rfl (by decide) (gf:=282) (lb := #[.pointer (some ⟨w.heap.size+4,0,none⟩)]) rfl trivial (enters_of Tryz.func282 (by kernel_rfl) rfl)
  (Zmg 2 (by decide) w w1 hB1 (w.heap.size+4) b1 b2 d1 d2 D tl hl hB5 hr1 hr2) Qbt (Qbu (by rw[hsz1];omega) (by rw[hsz1];omega)) (Below.refl _ _) (fun _=>rfl)
  (fun pre W=>Zpm w.heap.size n (itx (LN.eLo (lf n) (pre.map Subtype.val))) (itx (LN.eHi (lf n) (pre.map Subtype.val))) W∧Below w.heap.size w W)
  (fun _ _ W=>False∧Below w.heap.size w W)
  (OwnFrom.and (Own.from (fun s A B row hs hg hr=>hs.kept hg hr) _) (ownFrom_below nr_ (by rw[hsz1];omega)))
  (fun c=>OwnFrom.and (Own.from (fun s A B row hs hg hr=>hs.elim) _) (ownFrom_below nr_ (by rw[hsz1];omega)))
  ⟨hI1,hB1⟩
  (fun x=>Znj w b1 b2 d1 d2 D tl.length n x.1.1 (itx x.1.2)) ?assign ?body ?done ?stop
 case assign =>
  intro l x W K hK;unfold Znj at hK
  gi_wp2
  exact hK
 case body =>
  rintro l pre ⟨⟨p,k⟩,hmem⟩ W0 ⟨hI,hB⟩ hlen;have HI:=hd_ hI;have HB:=hd_ hB;have hpp:=HP.out _ hmem;have hkk:=HK.out _ hmem;simp only at hpp hkk;have hn:=Hn.out;have hE:=HE.out;obtain⟨g1,g2⟩:=Zz2 hpp hn;have hsub:∀ x∈pre.map Subtype.val,x∈tl:=fun x hx=>by
   obtain⟨y,_,rfl⟩:=List.mem_map.1 hx;exact y.2
  have hpl:(pre.map Subtype.val).length≤1000:=by rw[List.length_map];omega
  obtain⟨s1,s2⟩:=Zv2 hn (pre.map Subtype.val) hpl (fun x hx=>HP.out x (hsub x hx)) (fun x hx=>HK.out x (hsub x hx))
  have e1:LN.eLo (lf n) ((pre++[(⟨(p,k),hmem⟩:{x // x∈tl})]).map Subtype.val)=LN.eLo (lf n) (pre.map Subtype.val)+(if k<0 then (LN.hiL (lf n) p:Int)*k else (lf n p:Int)*k):=by
   rw[List.map_append];have:=Zv3 (lf n) (pre.map Subtype.val) (p,k)
   simp only at this;rw[Int.mul_comm k,Int.mul_comm k] at this;exact this
  have e2:LN.eHi (lf n) ((pre++[(⟨(p,k),hmem⟩:{x // x∈tl})]).map Subtype.val)=LN.eHi (lf n) (pre.map Subtype.val)+(if k<0 then (lf n p:Int)*k else (LN.hiL (lf n) p:Int)*k):=by
   rw[List.map_append];have:=Zv4 (lf n) (pre.map Subtype.val) (p,k)
   simp only at this;rw[Int.mul_comm k,Int.mul_comm k] at this;exact this
  have Hlog:Hid (∀ W,Below w.heap.size w W→Kc Tryz.prog 232 #[.int .i64 p,.int .i64 n] W (.string (dec (lf n p)))):=fun W hW=>by
   obtain⟨q,rfl,hq⟩:=hpp;exact Zx3 W q n hq hn (HL.out.below hW)
  have Hm1:Hid (∀ W,Below w.heap.size w W→Kc Tryz.prog 14 #[.string (dec (lf n p)),.string (itx k)] W (.string (itx ((lf n p:Int)*k)))):=fun W hW=>by
   have:=Qbs W (lf n p:Int) k (n+3) E (by omega) (by rw[Int.natAbs_natCast];exact g1) hkk (HL.out.below hW)
   rw[Ki] at this;exact this
  have Hm2:Hid (∀ W,Below w.heap.size w W→Kc Tryz.prog 14 #[.string (dec (LN.hiL (lf n) p)),.string (itx k)] W (.string (itx ((LN.hiL (lf n) p:Int)*k)))):=fun W hW=>by
   have:=Qbs W (LN.hiL (lf n) p:Int) k (n+3) E (by omega) (by rw[Int.natAbs_natCast];exact g2) hkk (HL.out.below hW)
   rw[Ki] at this;exact this
  have Hsg:Hid (∀ W,Below w.heap.size w W→Kc Tryz.prog 59 #[.string (itx k)] W (.int .i64 k.sign)):=fun W _=>Zah W k
  have t1:((lf n p:Int)*k).natAbs<2^(E+(n+3)+10):=by
   have:=Zdb hkk g1
   rw[Int.mul_comm] at this;exact Nat.lt_of_lt_of_le this (Nat.pow_le_pow_right (by decide) (by omega))
  have t2:((LN.hiL (lf n) p:Int)*k).natAbs<2^(E+(n+3)+10):=by
   have:=Zdb hkk g2
   rw[Int.mul_comm] at this;exact Nat.lt_of_lt_of_le this (Nat.pow_le_pow_right (by decide) (by omega))
  have hF:E+(n+3)+10<90000:=by omega
  have one:1<2^(n+3):=Nat.one_lt_two_pow (by omega)
  have Had:Hid (∀ W,Below w.heap.size w W→Kc Tryz.prog 205 #[.string (dec (lf n p)),.string ⟨#[49]⟩] W (.string (dec (lf n p+1)))):=fun W hW=>by
   have:=Zzb W (lf n p) 1 (n+3) (by omega) g1 one (HL.out.below hW)
   rw[Zcf] at this;exact this
  generalize E+(n+3)+10=F at *
  unfold Znj;have Hk0:=hd_ (Below.refl W0.heap.size W0);have HI0:=HI;have HB0:=HB;have hw2:(k.sign = -1∧k<0)∨(0≤k.sign∧k.sign≤1∧¬ k<0):=by
   rcases Int.lt_trichotomy k 0 with h|h|h
   ·exact .inl ⟨Int.sign_eq_neg_one_of_neg h,h⟩
   ·subst h;exact .inr ⟨by decide,by decide,by decide⟩
   ·rw[Int.sign_eq_one_of_pos h];exact .inr ⟨by decide,by decide,by omega⟩
  clear hI hB hr1 hr2 hI1 hB1 hB5 hpp hkk hsub g1 g2 one;have hc3:=HI0.out.c3;have hc4:=HI0.out.c4;have hc5:=HI0.out.c5;have hf4:=HI0.out.f4;have hf5:=HI0.out.f5;have HLL:Hid (∀ W,Below w.heap.size w W→Qx W):=fun W hW=>HL.out.below hW
  by_cases hp2:p=2
  ·subst hp2;have hH:LN.hiL (lf n) 2=lf n 2:=by unfold LN.hiL;rw[if_pos rfl]
   rw[hH] at Hm2 e1 e2 t2;clear hH;rcases hw2 with⟨hs,hk⟩|⟨hs1,hs2,hk⟩
   ·rw[if_pos hk] at e1 e2;rw[hs] at Hsg;clear hs;have Ha1:Hid (∀ W,Below w.heap.size w W→Kc Tryz.prog 205 #[.string (itx (LN.eLo (lf n) (pre.map Subtype.val))),.string (itx ((lf n 2:Int)*k))] W (.string (itx ((LN.eLo (lf n) (pre.map Subtype.val))+(lf n 2:Int)*k)))):=fun W hW=>Zxc W _ _ F hF s1 t2 (HLL.out W hW)
    have Ha2:Hid (∀ W,Below w.heap.size w W→Kc Tryz.prog 205 #[.string (itx (LN.eHi (lf n) (pre.map Subtype.val))),.string (itx ((lf n 2:Int)*k))] W (.string (itx ((LN.eHi (lf n) (pre.map Subtype.val))+(lf n 2:Int)*k)))):=fun W hW=>Zxc W _ _ F hF s2 t1 (HLL.out W hW)
    rw[← e1] at Ha1;rw[← e2] at Ha2;clear e1 e2 s1 s2 t1 t2 HLL hlen hpl hF;obtain⟨slo2,hq1⟩:∃ s,itx (LN.eLo (lf n) ((pre++[(⟨(2,k),hmem⟩:{x // x∈tl})]).map Subtype.val))=s:=⟨_,rfl⟩;obtain⟨shi2,hq2⟩:∃ s,itx (LN.eHi (lf n) ((pre++[(⟨(2,k),hmem⟩:{x // x∈tl})]).map Subtype.val))=s:=⟨_,rfl⟩;rw[hq1] at Ha1;rw[hq2] at Ha2;have Hf1:=hd_ hq1;have Hf2:=hd_ hq2;clear hq1 hq2;generalize itx (LN.eLo (lf n) (pre.map Subtype.val))=slo at *
    generalize itx (LN.eHi (lf n) (pre.map Subtype.val))=shi at *
    generalize itx k=sk at *
    generalize itx ((lf n 2:Int)*k)=sa at *
    generalize dec (lf n 2)=sL at *
    clear Had
    gi_wp2_with fail
    refine⟨trivial,?_⟩;refine(CallsIn.inRound l (callsIn_wide.2 (Hlog.out W0 HB0.out))).mono ?_;rintro e W1 ⟨rfl,hb⟩;have HI1:=hd_ (HI0.out.below hb);have HB1:=hd_ (HB0.out.trans (hb.mono HB0.out.size));have Hk1:=hd_ (Hk0.out.trans (hb.mono Hk0.out.size));clear hb hc3 hc4 hc5 hf4 hf5 Hlog HI0 HB0 Hk0;have hc3:=HI1.out.c3;have hc4:=HI1.out.c4;have hc5:=HI1.out.c5;have hf4:=HI1.out.f4;have hf5:=HI1.out.f5
    gi_wp2_with fail
    refine⟨trivial,?_⟩;refine(CallsIn.inRound l (callsIn_wide.2 (Hm1.out W1 HB1.out))).mono ?_;rintro e W2 ⟨rfl,hb⟩;have HI2:=hd_ (HI1.out.below hb);have HB2:=hd_ (HB1.out.trans (hb.mono HB1.out.size));have Hk2:=hd_ (Hk1.out.trans (hb.mono Hk1.out.size));clear hb hc3 hc4 hc5 hf4 hf5 Hm1 HI1 HB1 Hk1;have hc3:=HI2.out.c3;have hc4:=HI2.out.c4;have hc5:=HI2.out.c5;have hf4:=HI2.out.f4;have hf5:=HI2.out.f5
    gi_wp2_with fail
    refine⟨trivial,?_⟩;refine(CallsIn.inRound l (callsIn_wide.2 (Hm2.out W2 HB2.out))).mono ?_;rintro e W3 ⟨rfl,hb⟩;have HI3:=hd_ (HI2.out.below hb);have HB3:=hd_ (HB2.out.trans (hb.mono HB2.out.size));have Hk3:=hd_ (Hk2.out.trans (hb.mono Hk2.out.size));clear hb hc3 hc4 hc5 hf4 hf5 Hm2 HI2 HB2 Hk2;have hc3:=HI3.out.c3;have hc4:=HI3.out.c4;have hc5:=HI3.out.c5;have hf4:=HI3.out.f4;have hf5:=HI3.out.f5
    gi_wp2_with fail
    refine⟨trivial,?_⟩;refine(CallsIn.inRound l (callsIn_wide.2 (Hsg.out W3 HB3.out))).mono ?_;rintro e W4 ⟨rfl,hb⟩;have HI4:=hd_ (HI3.out.below hb);have HB4:=hd_ (HB3.out.trans (hb.mono HB3.out.size));have Hk4:=hd_ (Hk3.out.trans (hb.mono Hk3.out.size));clear hb hc3 hc4 hc5 hf4 hf5 Hsg HI3 HB3 Hk3;have hc3:=HI4.out.c3;have hc4:=HI4.out.c4;have hc5:=HI4.out.c5;have hf4:=HI4.out.f4;have hf5:=HI4.out.f5
    gi_wp2_with fail
    have q0:=@Vu.h;have q9:Nonempty (Vu ⟨w.heap.size+1+1,0,none⟩ (.string slo)):=⟨⟨W4,HI4.out.c4⟩⟩;have q8:Nonempty (Vu ⟨w.heap.size+1+1+1,0,none⟩ (.string shi)):=⟨⟨W4,HI4.out.c5⟩⟩;refine Kt [(8,0),(1,1),(9,3),(1,4),(0,2),(0,5),(0,6),(0,7)]
     [(6,fun w'=>∃ p:Vu ⟨w.heap.size+1+1,0,none⟩ (.string slo),w'=p.w),(7,fun w'=>∃ p:Vu ⟨w.heap.size+1+1+1,0,none⟩ (.string shi),w'=p.w)]
     (by kernel_rfl) (by kernel_rfl) ⟨.inr ⟨⟨{ W4 with drawn:=W4.drawn+1 },HI4.out.c4⟩,rfl⟩,.inr ⟨⟨{ W4 with drawn:=W4.drawn+1 },HI4.out.c5⟩,rfl⟩,trivial⟩ ?_
    refine Ko (s:=6) _ (List.mem_cons_self ..) rfl ?_;simp only[dz_,Qd,tz_]
    go_big_quiet_step (fail)
    refine wpQuiet_nil ?_;refine Qa ?_;simp only[Qg,dz_,Qd,tz_]
    go_big_quiet_step (fail)
    refine wpQuiet_nil ?_;refine Ko (s:=7) _ (List.mem_cons_of_mem _ (List.mem_cons_self ..)) rfl ?_;simp only[Qg,dz_,Qd,tz_]
    go_big_quiet_step (fail)
    refine wpQuiet_nil ?_;refine Qa ?_;simp only[Qg,dz_,Qd,tz_]
    go_big_quiet_step (fail)
    refine wpQuiet_nil ?_;clear q0 q8 q9 hc3 hc4 hc5 hf4 hf5;obtain⟨V0,hV0⟩:∃ V0:World,{ heap:=W4.heap,tape:=W4.tape,drawn:=W4.drawn+1,os:=W4.os,output:=W4.output }=V0:=⟨_,rfl⟩;rw[hV0];have hdr:Below W4.heap.size W4 V0:=by rw[← hV0];exact⟨rfl,rfl,rfl,Nat.le_refl _,fun _ _=>rfl⟩
    have HJ0:=hd_ (HI4.out.below hdr);have HC0:=hd_ (HB4.out.trans (hdr.mono HB4.out.size));have Hl0:=hd_ (Hk4.out.trans (hdr.mono Hk4.out.size));clear hV0 hdr HI4 HB4 Hk4;refine Kj ?_;simp only[Qg,dz_,Qd,tz_]
    go_wp2_with fail
    refine cm_ (Ha1.out V0 HC0.out) ?_;rintro e V1 ⟨rfl,hb⟩;have HJ1:=hd_ (HJ0.out.below hb);have HC1:=hd_ (HC0.out.trans (hb.mono HC0.out.size));have Hl1:=hd_ (Hl0.out.trans (hb.mono Hl0.out.size));clear hb HJ0 HC0 Hl0 Ha1
    go_wp2_with fail
    refine⟨⟨.inr ⟨⟨V1,HJ1.out.c4⟩,rfl⟩,.inr ⟨⟨V1,HJ1.out.c5⟩,rfl⟩,trivial⟩,?_⟩;refine Kj ?_;simp only[Qg,dz_,Qd,tz_]
    go_wp2_with fail
    refine cm_ (Ha2.out V1 HC1.out) ?_;rintro e V2 ⟨rfl,hb⟩;have HJ2:=hd_ (HJ1.out.below hb);have HC2:=hd_ (HC1.out.trans (hb.mono HC1.out.size));have Hl2:=hd_ (Hl1.out.trans (hb.mono Hl1.out.size));clear hb HJ1 HC1 Hl1 Ha2
    go_wp2_with fail
    refine⟨⟨.inr ⟨⟨V2,HJ2.out.c4⟩,rfl⟩,.inr ⟨⟨V2,HJ2.out.c5⟩,rfl⟩,trivial⟩,?_⟩;have hc4:=HJ2.out.c4;have hc5:=HJ2.out.c5;have hf4:=HJ2.out.f4;have hf5:=HJ2.out.f5;refine Kj ?_;simp only[Qg,dz_,Qd,tz_]
    go_wp2_with fail
    have hc52:(V2.setCell ⟨w.heap.size+1+1,0,none⟩ (.string slo2)).cell? ⟨w.heap.size+1+1+1,0,none⟩=some (.string shi):=by
     rw[World.cell?_setCell_other _ _ _ _ (by simp)];exact HJ2.out.c5
    have hf52:(V2.setCell ⟨w.heap.size+1+1,0,none⟩ (.string slo2)).frozen? ⟨w.heap.size+1+1+1,0,none⟩=false:=by rw[World.frozen?_setCell];exact HJ2.out.f5
    refine⟨⟨.inl rfl,.inr ⟨⟨V2.setCell ⟨w.heap.size+1+1,0,none⟩ (.string slo2),hc52⟩,rfl⟩,trivial⟩,?_⟩;clear hc4 hc5 hf4 hf5;refine Kj ?_;simp only[Qg,dz_,Qd,tz_]
    go_wp2_with fail
    refine⟨⟨.inl rfl,.inl rfl,trivial⟩,?_⟩;simp only[Qz];exact⟨(Qj Hl2.out).trans ((KeepsOthers.setCell _ _ _).trans (KeepsOthers.setCell _ _ _)),Zka rfl HB.out HI.out.sz Hl2.out _ _,(HJ2.out.stored _ _).cast Hf1.out Hf2.out,Zan HC2.out _ _⟩
   ·rw[if_neg hk] at e1 e2;have hs':¬ k.sign<0:=by omega
    have Ha1:Hid (∀ W,Below w.heap.size w W→Kc Tryz.prog 205 #[.string (itx (LN.eLo (lf n) (pre.map Subtype.val))),.string (itx ((lf n 2:Int)*k))] W (.string (itx ((LN.eLo (lf n) (pre.map Subtype.val))+(lf n 2:Int)*k)))):=fun W hW=>Zxc W _ _ F hF s1 t1 (HLL.out W hW)
    have Ha2:Hid (∀ W,Below w.heap.size w W→Kc Tryz.prog 205 #[.string (itx (LN.eHi (lf n) (pre.map Subtype.val))),.string (itx ((lf n 2:Int)*k))] W (.string (itx ((LN.eHi (lf n) (pre.map Subtype.val))+(lf n 2:Int)*k)))):=fun W hW=>Zxc W _ _ F hF s2 t2 (HLL.out W hW)
    generalize k.sign=sg at *
    rw[← e1] at Ha1;rw[← e2] at Ha2;clear e1 e2 s1 s2 t1 t2 HLL hlen hpl hF;obtain⟨slo2,hq1⟩:∃ s,itx (LN.eLo (lf n) ((pre++[(⟨(2,k),hmem⟩:{x // x∈tl})]).map Subtype.val))=s:=⟨_,rfl⟩;obtain⟨shi2,hq2⟩:∃ s,itx (LN.eHi (lf n) ((pre++[(⟨(2,k),hmem⟩:{x // x∈tl})]).map Subtype.val))=s:=⟨_,rfl⟩;rw[hq1] at Ha1;rw[hq2] at Ha2;have Hf1:=hd_ hq1;have Hf2:=hd_ hq2;clear hq1 hq2;generalize itx (LN.eLo (lf n) (pre.map Subtype.val))=slo at *
    generalize itx (LN.eHi (lf n) (pre.map Subtype.val))=shi at *
    generalize itx k=sk at *
    generalize itx ((lf n 2:Int)*k)=sa at *
    generalize dec (lf n 2)=sL at *
    clear Had
    gi_wp2_with fail
    refine⟨trivial,?_⟩;refine(CallsIn.inRound l (callsIn_wide.2 (Hlog.out W0 HB0.out))).mono ?_;rintro e W1 ⟨rfl,hb⟩;have HI1:=hd_ (HI0.out.below hb);have HB1:=hd_ (HB0.out.trans (hb.mono HB0.out.size));have Hk1:=hd_ (Hk0.out.trans (hb.mono Hk0.out.size));clear hb hc3 hc4 hc5 hf4 hf5 Hlog HI0 HB0 Hk0;have hc3:=HI1.out.c3;have hc4:=HI1.out.c4;have hc5:=HI1.out.c5;have hf4:=HI1.out.f4;have hf5:=HI1.out.f5
    gi_wp2_with fail
    refine⟨trivial,?_⟩;refine(CallsIn.inRound l (callsIn_wide.2 (Hm1.out W1 HB1.out))).mono ?_;rintro e W2 ⟨rfl,hb⟩;have HI2:=hd_ (HI1.out.below hb);have HB2:=hd_ (HB1.out.trans (hb.mono HB1.out.size));have Hk2:=hd_ (Hk1.out.trans (hb.mono Hk1.out.size));clear hb hc3 hc4 hc5 hf4 hf5 Hm1 HI1 HB1 Hk1;have hc3:=HI2.out.c3;have hc4:=HI2.out.c4;have hc5:=HI2.out.c5;have hf4:=HI2.out.f4;have hf5:=HI2.out.f5
    gi_wp2_with fail
    refine⟨trivial,?_⟩;refine(CallsIn.inRound l (callsIn_wide.2 (Hm2.out W2 HB2.out))).mono ?_;rintro e W3 ⟨rfl,hb⟩;have HI3:=hd_ (HI2.out.below hb);have HB3:=hd_ (HB2.out.trans (hb.mono HB2.out.size));have Hk3:=hd_ (Hk2.out.trans (hb.mono Hk2.out.size));clear hb hc3 hc4 hc5 hf4 hf5 Hm2 HI2 HB2 Hk2;have hc3:=HI3.out.c3;have hc4:=HI3.out.c4;have hc5:=HI3.out.c5;have hf4:=HI3.out.f4;have hf5:=HI3.out.f5
    gi_wp2_with fail
    refine⟨trivial,?_⟩;refine(CallsIn.inRound l (callsIn_wide.2 (Hsg.out W3 HB3.out))).mono ?_;rintro e W4 ⟨rfl,hb⟩;have HI4:=hd_ (HI3.out.below hb);have HB4:=hd_ (HB3.out.trans (hb.mono HB3.out.size));have Hk4:=hd_ (Hk3.out.trans (hb.mono Hk3.out.size));clear hb hc3 hc4 hc5 hf4 hf5 Hsg HI3 HB3 Hk3;have hc3:=HI4.out.c3;have hc4:=HI4.out.c4;have hc5:=HI4.out.c5;have hf4:=HI4.out.f4;have hf5:=HI4.out.f5
    gi_wp2_with fail
    have q0:=@Vu.h;have q9:Nonempty (Vu ⟨w.heap.size+1+1,0,none⟩ (.string slo)):=⟨⟨W4,HI4.out.c4⟩⟩;have q8:Nonempty (Vu ⟨w.heap.size+1+1+1,0,none⟩ (.string shi)):=⟨⟨W4,HI4.out.c5⟩⟩;refine Kt [(8,0),(1,1),(9,3),(1,4),(0,2),(0,5),(0,6),(0,7)]
     [(6,fun w'=>∃ p:Vu ⟨w.heap.size+1+1,0,none⟩ (.string slo),w'=p.w),(7,fun w'=>∃ p:Vu ⟨w.heap.size+1+1+1,0,none⟩ (.string shi),w'=p.w)]
     (by kernel_rfl) (by kernel_rfl) ⟨.inr ⟨⟨{ W4 with drawn:=W4.drawn+1 },HI4.out.c4⟩,rfl⟩,.inr ⟨⟨{ W4 with drawn:=W4.drawn+1 },HI4.out.c5⟩,rfl⟩,trivial⟩ ?_
    refine Ko (s:=6) _ (List.mem_cons_self ..) rfl ?_;simp only[dz_,Qd,tz_]
    go_big_quiet_step (fail)
    refine wpQuiet_nil ?_;refine Qa ?_;simp only[Qg,dz_,Qd,tz_]
    go_big_quiet_step (fail)
    refine wpQuiet_nil ?_;refine Ko (s:=7) _ (List.mem_cons_of_mem _ (List.mem_cons_self ..)) rfl ?_;simp only[Qg,dz_,Qd,tz_]
    go_big_quiet_step (fail)
    refine wpQuiet_nil ?_;refine Qa ?_;simp only[Qg,dz_,Qd,tz_]
    go_big_quiet_step (fail)
    refine wpQuiet_nil ?_;clear q0 q8 q9 hc3 hc4 hc5 hf4 hf5;obtain⟨V0,hV0⟩:∃ V0:World,{ heap:=W4.heap,tape:=W4.tape,drawn:=W4.drawn+1,os:=W4.os,output:=W4.output }=V0:=⟨_,rfl⟩;rw[hV0];have hdr:Below W4.heap.size W4 V0:=by rw[← hV0];exact⟨rfl,rfl,rfl,Nat.le_refl _,fun _ _=>rfl⟩
    have HJ0:=hd_ (HI4.out.below hdr);have HC0:=hd_ (HB4.out.trans (hdr.mono HB4.out.size));have Hl0:=hd_ (Hk4.out.trans (hdr.mono Hk4.out.size));clear hV0 hdr HI4 HB4 Hk4;refine Kj ?_;simp only[Qg,dz_,Qd,tz_]
    go_wp2_with fail
    refine cm_ (Ha1.out V0 HC0.out) ?_;rintro e V1 ⟨rfl,hb⟩;have HJ1:=hd_ (HJ0.out.below hb);have HC1:=hd_ (HC0.out.trans (hb.mono HC0.out.size));have Hl1:=hd_ (Hl0.out.trans (hb.mono Hl0.out.size));clear hb HJ0 HC0 Hl0 Ha1
    go_wp2_with fail
    refine⟨⟨.inr ⟨⟨V1,HJ1.out.c4⟩,rfl⟩,.inr ⟨⟨V1,HJ1.out.c5⟩,rfl⟩,trivial⟩,?_⟩;refine Kj ?_;simp only[Qg,dz_,Qd,tz_]
    go_wp2_with fail
    refine cm_ (Ha2.out V1 HC1.out) ?_;rintro e V2 ⟨rfl,hb⟩;have HJ2:=hd_ (HJ1.out.below hb);have HC2:=hd_ (HC1.out.trans (hb.mono HC1.out.size));have Hl2:=hd_ (Hl1.out.trans (hb.mono Hl1.out.size));clear hb HJ1 HC1 Hl1 Ha2
    go_wp2_with fail
    refine⟨⟨.inr ⟨⟨V2,HJ2.out.c4⟩,rfl⟩,.inr ⟨⟨V2,HJ2.out.c5⟩,rfl⟩,trivial⟩,?_⟩;have hc4:=HJ2.out.c4;have hc5:=HJ2.out.c5;have hf4:=HJ2.out.f4;have hf5:=HJ2.out.f5;refine Kj ?_;simp only[Qg,dz_,Qd,tz_]
    go_wp2_with fail
    have hc52:(V2.setCell ⟨w.heap.size+1+1,0,none⟩ (.string slo2)).cell? ⟨w.heap.size+1+1+1,0,none⟩=some (.string shi):=by
     rw[World.cell?_setCell_other _ _ _ _ (by simp)];exact HJ2.out.c5
    have hf52:(V2.setCell ⟨w.heap.size+1+1,0,none⟩ (.string slo2)).frozen? ⟨w.heap.size+1+1+1,0,none⟩=false:=by rw[World.frozen?_setCell];exact HJ2.out.f5
    refine⟨⟨.inl rfl,.inr ⟨⟨V2.setCell ⟨w.heap.size+1+1,0,none⟩ (.string slo2),hc52⟩,rfl⟩,trivial⟩,?_⟩;clear hc4 hc5 hf4 hf5;refine Kj ?_;simp only[Qg,dz_,Qd,tz_]
    go_wp2_with fail
    refine⟨⟨.inl rfl,.inl rfl,trivial⟩,?_⟩;simp only[Qz];exact⟨(Qj Hl2.out).trans ((KeepsOthers.setCell _ _ _).trans (KeepsOthers.setCell _ _ _)),Zka rfl HB.out HI.out.sz Hl2.out _ _,(HJ2.out.stored _ _).cast Hf1.out Hf2.out,Zan HC2.out _ _⟩
  ·have hH:LN.hiL (lf n) p=lf n p+1:=by unfold LN.hiL;rw[if_neg hp2]
   rw[hH] at Hm2 e1 e2 t2;have hp2':(p==2)=false:=by rw[beq_eq_false_iff_ne];exact hp2
   clear hH;rcases hw2 with⟨hs,hk⟩|⟨hs1,hs2,hk⟩
   ·rw[if_pos hk] at e1 e2;rw[hs] at Hsg;clear hs;have Ha1:Hid (∀ W,Below w.heap.size w W→Kc Tryz.prog 205 #[.string (itx (LN.eLo (lf n) (pre.map Subtype.val))),.string (itx (((lf n p+1:Nat):Int)*k))] W (.string (itx ((LN.eLo (lf n) (pre.map Subtype.val))+((lf n p+1:Nat):Int)*k)))):=fun W hW=>Zxc W _ _ F hF s1 t2 (HLL.out W hW)
    have Ha2:Hid (∀ W,Below w.heap.size w W→Kc Tryz.prog 205 #[.string (itx (LN.eHi (lf n) (pre.map Subtype.val))),.string (itx ((lf n p:Int)*k))] W (.string (itx ((LN.eHi (lf n) (pre.map Subtype.val))+(lf n p:Int)*k)))):=fun W hW=>Zxc W _ _ F hF s2 t1 (HLL.out W hW)
    rw[← e1] at Ha1;rw[← e2] at Ha2;clear e1 e2 s1 s2 t1 t2 HLL hlen hpl hF;obtain⟨slo2,hq1⟩:∃ s,itx (LN.eLo (lf n) ((pre++[(⟨(p,k),hmem⟩:{x // x∈tl})]).map Subtype.val))=s:=⟨_,rfl⟩;obtain⟨shi2,hq2⟩:∃ s,itx (LN.eHi (lf n) ((pre++[(⟨(p,k),hmem⟩:{x // x∈tl})]).map Subtype.val))=s:=⟨_,rfl⟩;rw[hq1] at Ha1;rw[hq2] at Ha2;have Hf1:=hd_ hq1;have Hf2:=hd_ hq2;clear hq1 hq2;generalize itx (LN.eLo (lf n) (pre.map Subtype.val))=slo at *
    generalize itx (LN.eHi (lf n) (pre.map Subtype.val))=shi at *
    generalize itx k=sk at *
    generalize itx ((lf n p:Int)*k)=sa at *
    generalize itx (((lf n p+1:Nat):Int)*k)=sb at *
    generalize dec (lf n p+1)=sH at *
    generalize dec (lf n p)=sL at *
    gi_wp2_with fail
    refine⟨trivial,?_⟩;refine(CallsIn.inRound l (callsIn_wide.2 (Hlog.out W0 HB0.out))).mono ?_;rintro e W1 ⟨rfl,hb⟩;have HI1:=hd_ (HI0.out.below hb);have HB1:=hd_ (HB0.out.trans (hb.mono HB0.out.size));have Hk1:=hd_ (Hk0.out.trans (hb.mono Hk0.out.size));clear hb hc3 hc4 hc5 hf4 hf5 Hlog HI0 HB0 Hk0;have hc3:=HI1.out.c3;have hc4:=HI1.out.c4;have hc5:=HI1.out.c5;have hf4:=HI1.out.f4;have hf5:=HI1.out.f5
    gi_wp2_with fail
    refine⟨trivial,?_⟩;refine(CallsIn.inRound l (callsIn_wide.2 (Had.out W1 HB1.out))).mono ?_;rintro e W2 ⟨rfl,hb⟩;have HI2:=hd_ (HI1.out.below hb);have HB2:=hd_ (HB1.out.trans (hb.mono HB1.out.size));have Hk2:=hd_ (Hk1.out.trans (hb.mono Hk1.out.size));clear hb hc3 hc4 hc5 hf4 hf5 Had HI1 HB1 Hk1;have hc3:=HI2.out.c3;have hc4:=HI2.out.c4;have hc5:=HI2.out.c5;have hf4:=HI2.out.f4;have hf5:=HI2.out.f5
    gi_wp2_with fail
    refine⟨trivial,?_⟩;refine(CallsIn.inRound l (callsIn_wide.2 (Hm1.out W2 HB2.out))).mono ?_;rintro e W3 ⟨rfl,hb⟩;have HI3:=hd_ (HI2.out.below hb);have HB3:=hd_ (HB2.out.trans (hb.mono HB2.out.size));have Hk3:=hd_ (Hk2.out.trans (hb.mono Hk2.out.size));clear hb hc3 hc4 hc5 hf4 hf5 Hm1 HI2 HB2 Hk2;have hc3:=HI3.out.c3;have hc4:=HI3.out.c4;have hc5:=HI3.out.c5;have hf4:=HI3.out.f4;have hf5:=HI3.out.f5
    gi_wp2_with fail
    refine⟨trivial,?_⟩;refine(CallsIn.inRound l (callsIn_wide.2 (Hm2.out W3 HB3.out))).mono ?_;rintro e W4 ⟨rfl,hb⟩;have HI4:=hd_ (HI3.out.below hb);have HB4:=hd_ (HB3.out.trans (hb.mono HB3.out.size));have Hk4:=hd_ (Hk3.out.trans (hb.mono Hk3.out.size));clear hb hc3 hc4 hc5 hf4 hf5 Hm2 HI3 HB3 Hk3;have hc3:=HI4.out.c3;have hc4:=HI4.out.c4;have hc5:=HI4.out.c5;have hf4:=HI4.out.f4;have hf5:=HI4.out.f5
    gi_wp2_with fail
    refine⟨trivial,?_⟩;refine(CallsIn.inRound l (callsIn_wide.2 (Hsg.out W4 HB4.out))).mono ?_;rintro e W5 ⟨rfl,hb⟩;have HI5:=hd_ (HI4.out.below hb);have HB5:=hd_ (HB4.out.trans (hb.mono HB4.out.size));have Hk5:=hd_ (Hk4.out.trans (hb.mono Hk4.out.size));clear hb hc3 hc4 hc5 hf4 hf5 Hsg HI4 HB4 Hk4;have hc3:=HI5.out.c3;have hc4:=HI5.out.c4;have hc5:=HI5.out.c5;have hf4:=HI5.out.f4;have hf5:=HI5.out.f5
    gi_wp2_with fail
    have q0:=@Vu.h;have q9:Nonempty (Vu ⟨w.heap.size+1+1,0,none⟩ (.string slo)):=⟨⟨W5,HI5.out.c4⟩⟩;have q8:Nonempty (Vu ⟨w.heap.size+1+1+1,0,none⟩ (.string shi)):=⟨⟨W5,HI5.out.c5⟩⟩;refine Kt [(8,0),(1,1),(9,3),(1,4),(0,2),(0,5),(0,6),(0,7)]
     [(6,fun w'=>∃ p:Vu ⟨w.heap.size+1+1,0,none⟩ (.string slo),w'=p.w),(7,fun w'=>∃ p:Vu ⟨w.heap.size+1+1+1,0,none⟩ (.string shi),w'=p.w)]
     (by kernel_rfl) (by kernel_rfl) ⟨.inr ⟨⟨{ W5 with drawn:=W5.drawn+1 },HI5.out.c4⟩,rfl⟩,.inr ⟨⟨{ W5 with drawn:=W5.drawn+1 },HI5.out.c5⟩,rfl⟩,trivial⟩ ?_
    refine Ko (s:=6) _ (List.mem_cons_self ..) rfl ?_;simp only[dz_,Qd,tz_]
    go_big_quiet_step (fail)
    refine wpQuiet_nil ?_;refine Qa ?_;simp only[Qg,dz_,Qd,tz_]
    go_big_quiet_step (fail)
    refine wpQuiet_nil ?_;refine Ko (s:=7) _ (List.mem_cons_of_mem _ (List.mem_cons_self ..)) rfl ?_;simp only[Qg,dz_,Qd,tz_]
    go_big_quiet_step (fail)
    refine wpQuiet_nil ?_;refine Qa ?_;simp only[Qg,dz_,Qd,tz_]
    go_big_quiet_step (fail)
    refine wpQuiet_nil ?_;clear q0 q8 q9 hc3 hc4 hc5 hf4 hf5;obtain⟨V0,hV0⟩:∃ V0:World,{ heap:=W5.heap,tape:=W5.tape,drawn:=W5.drawn+1,os:=W5.os,output:=W5.output }=V0:=⟨_,rfl⟩;rw[hV0];have hdr:Below W5.heap.size W5 V0:=by rw[← hV0];exact⟨rfl,rfl,rfl,Nat.le_refl _,fun _ _=>rfl⟩
    have HJ0:=hd_ (HI5.out.below hdr);have HC0:=hd_ (HB5.out.trans (hdr.mono HB5.out.size));have Hl0:=hd_ (Hk5.out.trans (hdr.mono Hk5.out.size));clear hV0 hdr HI5 HB5 Hk5;refine Kj ?_;simp only[Qg,dz_,Qd,tz_]
    go_wp2_with fail
    refine cm_ (Ha1.out V0 HC0.out) ?_;rintro e V1 ⟨rfl,hb⟩;have HJ1:=hd_ (HJ0.out.below hb);have HC1:=hd_ (HC0.out.trans (hb.mono HC0.out.size));have Hl1:=hd_ (Hl0.out.trans (hb.mono Hl0.out.size));clear hb HJ0 HC0 Hl0 Ha1
    go_wp2_with fail
    refine⟨⟨.inr ⟨⟨V1,HJ1.out.c4⟩,rfl⟩,.inr ⟨⟨V1,HJ1.out.c5⟩,rfl⟩,trivial⟩,?_⟩;refine Kj ?_;simp only[Qg,dz_,Qd,tz_]
    go_wp2_with fail
    refine cm_ (Ha2.out V1 HC1.out) ?_;rintro e V2 ⟨rfl,hb⟩;have HJ2:=hd_ (HJ1.out.below hb);have HC2:=hd_ (HC1.out.trans (hb.mono HC1.out.size));have Hl2:=hd_ (Hl1.out.trans (hb.mono Hl1.out.size));clear hb HJ1 HC1 Hl1 Ha2
    go_wp2_with fail
    refine⟨⟨.inr ⟨⟨V2,HJ2.out.c4⟩,rfl⟩,.inr ⟨⟨V2,HJ2.out.c5⟩,rfl⟩,trivial⟩,?_⟩;have hc4:=HJ2.out.c4;have hc5:=HJ2.out.c5;have hf4:=HJ2.out.f4;have hf5:=HJ2.out.f5;refine Kj ?_;simp only[Qg,dz_,Qd,tz_]
    go_wp2_with fail
    have hc52:(V2.setCell ⟨w.heap.size+1+1,0,none⟩ (.string slo2)).cell? ⟨w.heap.size+1+1+1,0,none⟩=some (.string shi):=by
     rw[World.cell?_setCell_other _ _ _ _ (by simp)];exact HJ2.out.c5
    have hf52:(V2.setCell ⟨w.heap.size+1+1,0,none⟩ (.string slo2)).frozen? ⟨w.heap.size+1+1+1,0,none⟩=false:=by rw[World.frozen?_setCell];exact HJ2.out.f5
    refine⟨⟨.inl rfl,.inr ⟨⟨V2.setCell ⟨w.heap.size+1+1,0,none⟩ (.string slo2),hc52⟩,rfl⟩,trivial⟩,?_⟩;clear hc4 hc5 hf4 hf5;refine Kj ?_;simp only[Qg,dz_,Qd,tz_]
    go_wp2_with fail
    refine⟨⟨.inl rfl,.inl rfl,trivial⟩,?_⟩;simp only[Qz];exact⟨(Qj Hl2.out).trans ((KeepsOthers.setCell _ _ _).trans (KeepsOthers.setCell _ _ _)),Zka rfl HB.out HI.out.sz Hl2.out _ _,(HJ2.out.stored _ _).cast Hf1.out Hf2.out,Zan HC2.out _ _⟩
   ·rw[if_neg hk] at e1 e2;have hs':¬ k.sign<0:=by omega
    have Ha1:Hid (∀ W,Below w.heap.size w W→Kc Tryz.prog 205 #[.string (itx (LN.eLo (lf n) (pre.map Subtype.val))),.string (itx ((lf n p:Int)*k))] W (.string (itx ((LN.eLo (lf n) (pre.map Subtype.val))+(lf n p:Int)*k)))):=fun W hW=>Zxc W _ _ F hF s1 t1 (HLL.out W hW)
    have Ha2:Hid (∀ W,Below w.heap.size w W→Kc Tryz.prog 205 #[.string (itx (LN.eHi (lf n) (pre.map Subtype.val))),.string (itx (((lf n p+1:Nat):Int)*k))] W (.string (itx ((LN.eHi (lf n) (pre.map Subtype.val))+((lf n p+1:Nat):Int)*k)))):=fun W hW=>Zxc W _ _ F hF s2 t2 (HLL.out W hW)
    generalize k.sign=sg at *
    rw[← e1] at Ha1;rw[← e2] at Ha2;clear e1 e2 s1 s2 t1 t2 HLL hlen hpl hF;obtain⟨slo2,hq1⟩:∃ s,itx (LN.eLo (lf n) ((pre++[(⟨(p,k),hmem⟩:{x // x∈tl})]).map Subtype.val))=s:=⟨_,rfl⟩;obtain⟨shi2,hq2⟩:∃ s,itx (LN.eHi (lf n) ((pre++[(⟨(p,k),hmem⟩:{x // x∈tl})]).map Subtype.val))=s:=⟨_,rfl⟩;rw[hq1] at Ha1;rw[hq2] at Ha2;have Hf1:=hd_ hq1;have Hf2:=hd_ hq2;clear hq1 hq2;generalize itx (LN.eLo (lf n) (pre.map Subtype.val))=slo at *
    generalize itx (LN.eHi (lf n) (pre.map Subtype.val))=shi at *
    generalize itx k=sk at *
    generalize itx ((lf n p:Int)*k)=sa at *
    generalize itx (((lf n p+1:Nat):Int)*k)=sb at *
    generalize dec (lf n p+1)=sH at *
    generalize dec (lf n p)=sL at *
    gi_wp2_with fail
    refine⟨trivial,?_⟩;refine(CallsIn.inRound l (callsIn_wide.2 (Hlog.out W0 HB0.out))).mono ?_;rintro e W1 ⟨rfl,hb⟩;have HI1:=hd_ (HI0.out.below hb);have HB1:=hd_ (HB0.out.trans (hb.mono HB0.out.size));have Hk1:=hd_ (Hk0.out.trans (hb.mono Hk0.out.size));clear hb hc3 hc4 hc5 hf4 hf5 Hlog HI0 HB0 Hk0;have hc3:=HI1.out.c3;have hc4:=HI1.out.c4;have hc5:=HI1.out.c5;have hf4:=HI1.out.f4;have hf5:=HI1.out.f5
    gi_wp2_with fail
    refine⟨trivial,?_⟩;refine(CallsIn.inRound l (callsIn_wide.2 (Had.out W1 HB1.out))).mono ?_;rintro e W2 ⟨rfl,hb⟩;have HI2:=hd_ (HI1.out.below hb);have HB2:=hd_ (HB1.out.trans (hb.mono HB1.out.size));have Hk2:=hd_ (Hk1.out.trans (hb.mono Hk1.out.size));clear hb hc3 hc4 hc5 hf4 hf5 Had HI1 HB1 Hk1;have hc3:=HI2.out.c3;have hc4:=HI2.out.c4;have hc5:=HI2.out.c5;have hf4:=HI2.out.f4;have hf5:=HI2.out.f5
    gi_wp2_with fail
    refine⟨trivial,?_⟩;refine(CallsIn.inRound l (callsIn_wide.2 (Hm1.out W2 HB2.out))).mono ?_;rintro e W3 ⟨rfl,hb⟩;have HI3:=hd_ (HI2.out.below hb);have HB3:=hd_ (HB2.out.trans (hb.mono HB2.out.size));have Hk3:=hd_ (Hk2.out.trans (hb.mono Hk2.out.size));clear hb hc3 hc4 hc5 hf4 hf5 Hm1 HI2 HB2 Hk2;have hc3:=HI3.out.c3;have hc4:=HI3.out.c4;have hc5:=HI3.out.c5;have hf4:=HI3.out.f4;have hf5:=HI3.out.f5
    gi_wp2_with fail
    refine⟨trivial,?_⟩;refine(CallsIn.inRound l (callsIn_wide.2 (Hm2.out W3 HB3.out))).mono ?_;rintro e W4 ⟨rfl,hb⟩;have HI4:=hd_ (HI3.out.below hb);have HB4:=hd_ (HB3.out.trans (hb.mono HB3.out.size));have Hk4:=hd_ (Hk3.out.trans (hb.mono Hk3.out.size));clear hb hc3 hc4 hc5 hf4 hf5 Hm2 HI3 HB3 Hk3;have hc3:=HI4.out.c3;have hc4:=HI4.out.c4;have hc5:=HI4.out.c5;have hf4:=HI4.out.f4;have hf5:=HI4.out.f5
    gi_wp2_with fail
    refine⟨trivial,?_⟩;refine(CallsIn.inRound l (callsIn_wide.2 (Hsg.out W4 HB4.out))).mono ?_;rintro e W5 ⟨rfl,hb⟩;have HI5:=hd_ (HI4.out.below hb);have HB5:=hd_ (HB4.out.trans (hb.mono HB4.out.size));have Hk5:=hd_ (Hk4.out.trans (hb.mono Hk4.out.size));clear hb hc3 hc4 hc5 hf4 hf5 Hsg HI4 HB4 Hk4;have hc3:=HI5.out.c3;have hc4:=HI5.out.c4;have hc5:=HI5.out.c5;have hf4:=HI5.out.f4;have hf5:=HI5.out.f5
    gi_wp2_with fail
    have q0:=@Vu.h;have q9:Nonempty (Vu ⟨w.heap.size+1+1,0,none⟩ (.string slo)):=⟨⟨W5,HI5.out.c4⟩⟩;have q8:Nonempty (Vu ⟨w.heap.size+1+1+1,0,none⟩ (.string shi)):=⟨⟨W5,HI5.out.c5⟩⟩;refine Kt [(8,0),(1,1),(9,3),(1,4),(0,2),(0,5),(0,6),(0,7)]
     [(6,fun w'=>∃ p:Vu ⟨w.heap.size+1+1,0,none⟩ (.string slo),w'=p.w),(7,fun w'=>∃ p:Vu ⟨w.heap.size+1+1+1,0,none⟩ (.string shi),w'=p.w)]
     (by kernel_rfl) (by kernel_rfl) ⟨.inr ⟨⟨{ W5 with drawn:=W5.drawn+1 },HI5.out.c4⟩,rfl⟩,.inr ⟨⟨{ W5 with drawn:=W5.drawn+1 },HI5.out.c5⟩,rfl⟩,trivial⟩ ?_
    refine Ko (s:=6) _ (List.mem_cons_self ..) rfl ?_;simp only[dz_,Qd,tz_]
    go_big_quiet_step (fail)
    refine wpQuiet_nil ?_;refine Qa ?_;simp only[Qg,dz_,Qd,tz_]
    go_big_quiet_step (fail)
    refine wpQuiet_nil ?_;refine Ko (s:=7) _ (List.mem_cons_of_mem _ (List.mem_cons_self ..)) rfl ?_;simp only[Qg,dz_,Qd,tz_]
    go_big_quiet_step (fail)
    refine wpQuiet_nil ?_;refine Qa ?_;simp only[Qg,dz_,Qd,tz_]
    go_big_quiet_step (fail)
    refine wpQuiet_nil ?_;clear q0 q8 q9 hc3 hc4 hc5 hf4 hf5;obtain⟨V0,hV0⟩:∃ V0:World,{ heap:=W5.heap,tape:=W5.tape,drawn:=W5.drawn+1,os:=W5.os,output:=W5.output }=V0:=⟨_,rfl⟩;rw[hV0];have hdr:Below W5.heap.size W5 V0:=by rw[← hV0];exact⟨rfl,rfl,rfl,Nat.le_refl _,fun _ _=>rfl⟩
    have HJ0:=hd_ (HI5.out.below hdr);have HC0:=hd_ (HB5.out.trans (hdr.mono HB5.out.size));have Hl0:=hd_ (Hk5.out.trans (hdr.mono Hk5.out.size));clear hV0 hdr HI5 HB5 Hk5;refine Kj ?_;simp only[Qg,dz_,Qd,tz_]
    go_wp2_with fail
    refine cm_ (Ha1.out V0 HC0.out) ?_;rintro e V1 ⟨rfl,hb⟩;have HJ1:=hd_ (HJ0.out.below hb);have HC1:=hd_ (HC0.out.trans (hb.mono HC0.out.size));have Hl1:=hd_ (Hl0.out.trans (hb.mono Hl0.out.size));clear hb HJ0 HC0 Hl0 Ha1
    go_wp2_with fail
    refine⟨⟨.inr ⟨⟨V1,HJ1.out.c4⟩,rfl⟩,.inr ⟨⟨V1,HJ1.out.c5⟩,rfl⟩,trivial⟩,?_⟩;refine Kj ?_;simp only[Qg,dz_,Qd,tz_]
    go_wp2_with fail
    refine cm_ (Ha2.out V1 HC1.out) ?_;rintro e V2 ⟨rfl,hb⟩;have HJ2:=hd_ (HJ1.out.below hb);have HC2:=hd_ (HC1.out.trans (hb.mono HC1.out.size));have Hl2:=hd_ (Hl1.out.trans (hb.mono Hl1.out.size));clear hb HJ1 HC1 Hl1 Ha2
    go_wp2_with fail
    refine⟨⟨.inr ⟨⟨V2,HJ2.out.c4⟩,rfl⟩,.inr ⟨⟨V2,HJ2.out.c5⟩,rfl⟩,trivial⟩,?_⟩;have hc4:=HJ2.out.c4;have hc5:=HJ2.out.c5;have hf4:=HJ2.out.f4;have hf5:=HJ2.out.f5;refine Kj ?_;simp only[Qg,dz_,Qd,tz_]
    go_wp2_with fail
    have hc52:(V2.setCell ⟨w.heap.size+1+1,0,none⟩ (.string slo2)).cell? ⟨w.heap.size+1+1+1,0,none⟩=some (.string shi):=by
     rw[World.cell?_setCell_other _ _ _ _ (by simp)];exact HJ2.out.c5
    have hf52:(V2.setCell ⟨w.heap.size+1+1,0,none⟩ (.string slo2)).frozen? ⟨w.heap.size+1+1+1,0,none⟩=false:=by rw[World.frozen?_setCell];exact HJ2.out.f5
    refine⟨⟨.inl rfl,.inr ⟨⟨V2.setCell ⟨w.heap.size+1+1,0,none⟩ (.string slo2),hc52⟩,rfl⟩,trivial⟩,?_⟩;clear hc4 hc5 hf4 hf5;refine Kj ?_;simp only[Qg,dz_,Qd,tz_]
    go_wp2_with fail
    refine⟨⟨.inl rfl,.inl rfl,trivial⟩,?_⟩;simp only[Qz];exact⟨(Qj Hl2.out).trans ((KeepsOthers.setCell _ _ _).trans (KeepsOthers.setCell _ _ _)),Zka rfl HB.out HI.out.sz Hl2.out _ _,(HJ2.out.stored _ _).cast Hf1.out Hf2.out,Zan HC2.out _ _⟩
 case done =>
  rintro D' ys W hD rfl ⟨hI,hB⟩ hK;rw[List.attach_map_subtype_val] at hI;have HI:=hd_ hI;have HB:=hd_ hB;have HK:=hd_ hK;clear hI hB hK hr1 hr2 hI1 hB1 hB5;have Hv:Hid (∀ s t,itx (LN.eLo (lf n) tl)=s→itx (LN.eHi (lf n) tl)=t→Ending.returned (.tuple #[.string s,.string t])=Ending.returned (.tuple #[.string (itx (LN.eLo (lf n) tl)),.string (itx (LN.eHi (lf n) tl))])):=by
   intro s t h1 h2;rw[h1,h2]
  obtain⟨lo,hlo⟩:∃ s,itx (LN.eLo (lf n) tl)=s:=⟨_,rfl⟩;obtain⟨hi,hhi⟩:∃ s,itx (LN.eHi (lf n) tl)=s:=⟨_,rfl⟩;have Hr:=hd_ (Hv.out lo hi hlo hhi);rw[hlo,hhi] at HI;clear Hv hlo hhi;have hc4:=HI.out.c4;have hc5:=HI.out.c5;have hf4:=HI.out.f4;have hf5:=HI.out.f5
  gi_wp2_with fail
  gi_region
  gi_wp2
  clear hc4 hc5 hf4 hf5;have e4:((W.setCell { block:=w.heap.size+1+1,off:=0 } (Value.string lo)).setCell { block:=w.heap.size+1+1+1,off:=0 } (Value.string hi)).drew.cell? ⟨w.heap.size+1+1,0,none⟩=some (.string lo):=by
   show World.cell? ((W.setCell { block:=w.heap.size+1+1,off:=0 } (Value.string lo)).setCell { block:=w.heap.size+1+1+1,off:=0 } (Value.string hi)) _=_
   rw[World.cell?_setCell_other _ _ _ _ (by simp),World.cell?_setCell_same _ _ _ HI.out.c4]
  have e5:((W.setCell { block:=w.heap.size+1+1,off:=0 } (Value.string lo)).setCell { block:=w.heap.size+1+1+1,off:=0 } (Value.string hi)).drew.cell? ⟨w.heap.size+1+1+1,0,none⟩=some (.string hi):=by
   show World.cell? ((W.setCell { block:=w.heap.size+1+1,off:=0 } (Value.string lo)).setCell { block:=w.heap.size+1+1+1,off:=0 } (Value.string hi)) _=_
   rw[World.cell?_setCell_same _ _ _ (by rw[World.cell?_setCell_other _ _ _ _ (by simp)];exact HI.out.c5)]
  have hk9:=((KeepsOthers.setCell W ⟨w.heap.size+1+1,0,none⟩ (.string lo)).trans (KeepsOthers.setCell _ ⟨w.heap.size+1+1+1,0,none⟩ (.string hi))).trans (KeepsOthers.drew _);have hK9:=hk9.same D' _ HK.out rfl;have hb9:=((HB.out.setCell (p:=⟨w.heap.size+1+1,0,none⟩) (by show _≤w.heap.size+1+1;omega) (.string lo)).setCell (p:=⟨w.heap.size+1+1+1,0,none⟩) (by show _≤w.heap.size+1+1+1;omega) (.string hi)).drew
  generalize ((W.setCell { block:=w.heap.size+1+1,off:=0 } (Value.string lo)).setCell { block:=w.heap.size+1+1+1,off:=0 } (Value.string hi)).drew=w9 at *
  have g4:=cell_kept e4 (grownBy_putObj' _ D' (.deferred none)) (fun r e=>by cases e;exact⟨_,hK9,rfl⟩)
  have g5:=cell_kept e5 (grownBy_putObj' _ D' (.deferred none)) (fun r e=>by cases e;exact⟨_,hK9,rfl⟩)
  refine⟨by simp,.inl ⟨_,_,rfl,run_takeDeferred hK9,?_⟩⟩
  refine⟨.tuple #[.string lo,.string hi],?_,Hr.out,hb9.trans (belowK_b (w:=w) nr_ w9 D' _ _ (by rw[hsz1] at hD;omega) hK9 rfl rfl)⟩
  simp[results,Tryz.results165,go_sem,g4,g5]
 case stop =>
  rintro D' c pre W hD hSp ⟨hf,_⟩ hK;exact hf.elim
end Go.Proofs.YtbielfplgbammaaGreatDoor

namespace Go.Proofs.YtbielfplgbammaaGreatDoor.LN
theorem sz_of_vt{ps:List Int}{l:List Rat}(hp:∀ p∈ps,0<p):sz ps l=sg (vt (Ve (Qu l) ps l)):=Zoi _ (Zku hp)
end Go.Proofs.YtbielfplgbammaaGreatDoor.LN

namespace Go.Proofs.YtbielfplgbammaaGreatDoor
open Go.RowKit
theorem Zz3{n:Nat}{tl:List (Int×Int)}(h:PrT tl)(hn:n≤1056):∀ x∈tl,LN.LogAt n x.1 (lf n x.1):=fun x hx=>by
 obtain⟨q,e,hq⟩:=h x hx;rw[e];exact Zzz hq hn
structure TrT (tl:List (Int×Int)):Prop where
 p:PrT tl
 nz:∀ x∈tl,x.2≠0
 nd:(tl.map Prod.fst).Nodup
theorem Zii{n:Nat}{tl:List (Int×Int)}(h:TrT tl)(hn:n≤1056)(hne:tl≠[])(h0:0≤LN.eLo (lf n) tl):LN.signT tl=1:=by
 rw[LN.eLo_eq] at h0;exact LN.sign_low n (lf n) tl (Zz3 h.p hn) h.nz hne h.nd (by omega)
theorem Zij{n:Nat}{tl:List (Int×Int)}(h:TrT tl)(hn:n≤1056)(hne:tl≠[])(h0:LN.eHi (lf n) tl≤0):LN.signT tl = -1:=by
 rw[LN.eHi_eq] at h0;exact LN.sign_high n (lf n) tl (Zz3 h.p hn) h.nz hne h.nd (by omega)
theorem Zvq(N:Nat):Qax 2 N N:=⟨Nat.le_refl _,Nat.pow_lt_pow_right (by decide) (by omega)⟩
theorem Zv6(more n:Nat)(hm:1≤more){s:Nat×Nat×Nat}(h:Ze 2 more n=some s):s.2.2=2^n :=
 Zov (Zem 2 more (by decide) hm n s h).lg (Zvq _)
theorem Zz0{p:Int}(hp:∃ q:Nat,p=q∧(q=2∨q∈Zg2))(h:(Ze p.toNat 62 26).isSome=true):lgA p=(lf 26 p:Int)∧lgB p=(LN.hiL (lf 26) p:Int):=by
 obtain⟨q,rfl,hq⟩:=hp;obtain⟨s,hs⟩:=Option.isSome_iff_exists.1 h;rw[Int.toNat_natCast] at hs;have e:lgA q=(lf 26 q:Int):=by
  unfold lgA;rw[Int.toNat_natCast,hs]
  show ((s.2.2:Nat):Int)=((lgN q 26:Nat):Int)
  rcases hq with rfl|hq
  ·rw[Zv6 62 26 (by decide) hs]
   rw[show ((2:Nat):Int)=2 from rfl,Zg8]
  ·rw[Zf5 hq (by decide) (by decide) hs]
 refine⟨e,?_⟩;unfold lgB LN.hiL;rw[e];split
 ·rfl
 ·rfl
theorem Zs3{most:Int}:∀ tl:List (Int×Int),PrT tl→(∀ x∈tl,okT most x)→Zf0 tl=LN.eLo (lf 26) tl∧Zae tl=LN.eHi (lf 26) tl
 | [],_,_=>⟨rfl,rfl⟩
 | x::l,hp,ho=>by
  obtain⟨i1,i2⟩:=Zs3 l (fun y hy=>hp y (List.mem_cons_of_mem _ hy)) (fun y hy=>ho y (List.mem_cons_of_mem _ hy))
  obtain⟨a1,a2⟩:=Zz0 (hp x List.mem_cons_self) (ho x List.mem_cons_self).2;have e1:Zf0 (x::l)=min (x.2*lgA x.1) (x.2*lgB x.1)+Zf0 l:=by simp[Zf0]
  have e2:Zae (x::l)=max (x.2*lgA x.1) (x.2*lgB x.1)+Zae l:=by simp[Zae]
  have f1:LN.eLo (lf 26) (x::l)=(if x.2<0 then x.2*(LN.hiL (lf 26) x.1:Int) else x.2*(lf 26 x.1:Int))+LN.eLo (lf 26) l:=by simp[LN.eLo]
  have f2:LN.eHi (lf 26) (x::l)=(if x.2<0 then x.2*(lf 26 x.1:Int) else x.2*(LN.hiL (lf 26) x.1:Int))+LN.eHi (lf 26) l:=by simp[LN.eHi]
  have hle:lf 26 x.1≤LN.hiL (lf 26) x.1:=by unfold LN.hiL;split<;>omega
  rw[e1,e2,f1,f2,i1,i2,a1,a2]
  by_cases hk:x.2<0
  ·have h1:x.2*(LN.hiL (lf 26) x.1:Int)≤x.2*(lf 26 x.1:Int):=Int.mul_le_mul_of_nonpos_left (by omega) (by omega)
   rw[if_pos hk,if_pos hk,Int.min_eq_right h1,Int.max_eq_left h1];exact⟨rfl,rfl⟩
  ·have h1:x.2*(lf 26 x.1:Int)≤x.2*(LN.hiL (lf 26) x.1:Int):=Int.mul_le_mul_of_nonneg_left (by omega) (by omega)
   rw[if_neg hk,if_neg hk,Int.min_eq_left h1,Int.max_eq_right h1];exact⟨rfl,rfl⟩
theorem Zp3{tl:List (Int×Int)}(h:TrT tl)(hne:tl≠[])(hq:Zat tl≠0):Zat tl=LN.signT tl:=by
 unfold Zat at hq ⊢;split at hq
 ·rename_i ho
  obtain⟨e1,e2⟩:=Zs3 tl h.p ho;rw[if_pos ho];rw[e1,e2] at hq ⊢;split
  ·rename_i h1;rw[Zii h (by decide) hne h1]
  ·rename_i h1
   rw[if_neg h1] at hq;split
   ·rename_i h2;rw[Zij h (by decide) hne h2]
   ·rename_i h2;rw[if_neg h2] at hq;exact absurd rfl hq
 ·exact absurd rfl hq
def Pw (n:Nat):Prop:=n=64∨n=128∨n=256∨n=512∨n=1024
def Dec (tl:List (Int×Int)):Prop:=0≤LN.eLo (lf 1024) tl∨LN.eHi (lf 1024) tl≤0
theorem Zog(w:World)(b1 b2:Option Addr)(d1 d2 D E:Nat)(tl:List (Int×Int))(T:Zbj w tl b1 b2)(R:TrT tl)(hE:E≤20000)(hK:∀ x∈tl,x.2.natAbs<2^E)(hd:tl≠[]→Dec tl)(L:Qx w):
  Kc Tryz.prog 80 #[.agg (Qe b1 d1 b2 d2 tl.length D)] w (.int .i64 (LN.signT tl)):=by
 by_cases h0:tl=[]
 ·have:=Zih w b1 b2 d1 d2 D tl T L (.inl h0)
  rw[if_pos h0] at this;rw[h0] at this ⊢;exact this
 by_cases hq:Zat tl≠0
 ·have:=Zih w b1 b2 d1 d2 D tl T L (.inr hq)
  rw[if_neg h0,Zp3 R h0 hq] at this;exact this
 ·have hq0:Zat tl=0:=by omega
  unfold Kc;have Hb0:=hd_ ((Below.refl w.heap.size w).alloc nr_ (.cells (Qe b1 d1 b2 d2 tl.length D) 146));have Hn:=hd_ (Zla _ b1 b2 d1 d2 D tl (T.below Hb0.out) (L.below Hb0.out));rw[hq0] at Hn;have hl0:((tl.length:Int)==0)=false:=by
   rw[beq_eq_false_iff_ne];intro h;exact h0 (List.eq_nil_of_length_eq_zero (by omega))
  have He:Hid (∀ (n:Nat) W,n≤1056→Below w.heap.size w W→Kc Tryz.prog 165 #[.agg (Qe b1 d1 b2 d2 tl.length D),.int .i64 n] W (.tuple #[.string (itx (LN.eLo (lf n) tl)),.string (itx (LN.eHi (lf n) tl))])) :=
   fun n W hn hW=>Zv1 W b1 b2 d1 d2 D n E tl (T.below hW) R.p hE hK hn (L.below hW)
  have Hlo:Hid (∀ n:Nat,n≤1056→0≤LN.eLo (lf n) tl→LN.signT tl=1):=fun n hn h=>Zii R hn h0 h
  have Hhi:Hid (∀ n:Nat,n≤1056→LN.eHi (lf n) tl≤0→LN.signT tl = -1):=fun n hn h=>Zij R hn h0 h
  have Hdec:=hd_ (hd h0);clear T L hq h0 hq0 R hE hK hd;generalize LN.signT tl=sv at *
  generalize hm:tl.length=m at *
  clear hm;have Hob:=hd_ (Kq w (Qe b1 d1 b2 d2 m D) 146 w.heap.size rfl);obtain⟨m0,m1,m2,m3⟩:=Qi Hob.out;clear m3;go_enter Tryz.func80,Tryz.ntmps80
  go_wp2_with fail
  go_step3
  go_wp2_with fail
  refine cm_ Hn.out ?_;rintro e w1 ⟨rfl,hb1⟩;have Hb1:=hd_ (Hb0.out.trans (hb1.mono Hb0.out.size));have Hk1:=hd_ (Kd Hob.out hb1 nr_);clear hb1 Hn Hb0 Hob m0 m1 m2
  go_wp2_with fail
  go_step3
  go_wp2_with fail
  go_loopw [4] (fun a wr=>∃ (n:Nat),Hid (Pw n)∧n≤1024∧a = .int .i64 n∧Hid (Below w.heap.size w wr)∧Hid (wr.heap[w.heap.size]?=some (.cells (Qe b1 d1 b2 d2 m D) 146 (0,0)))) (fun a _=>1024-(intOf a).toNat)
  case atStart=>exact⟨64,.inl rfl,by decide,rfl,Hb1,Hk1⟩
  case round =>
   clear Hb1 Hk1;obtain⟨n,Hp,hn,rfl,Hb,Hk⟩:=hrel;obtain⟨m0,m1,m2,m3⟩:=Qi Hk.out;clear m3;have Hen:=hd_ (He.out n wr (by omega) Hb.out)
   have hlo:=Hlo.out n (by omega)
   have hhi:=Hhi.out n (by omega)
   have hlast:n=1024→0≤LN.eLo (lf n) tl∨LN.eHi (lf n) tl≤0:=fun h=>by rw[h];exact Hdec.out
   clear He Hlo Hhi Hdec;generalize LN.eLo (lf n) tl=lo at *
   generalize LN.eHi (lf n) tl=hi at *
   have Hs1:Hid (∀ W,Kc Tryz.prog 59 #[.string (itx lo)] W (.int .i64 lo.sign)):=fun W=>Zah W lo
   have Hs2:Hid (∀ W,Kc Tryz.prog 59 #[.string (itx hi)] W (.int .i64 hi.sign)):=fun W=>Zah W hi
   have c1:=Zal lo;have c2:=Zal hi;have hw:IntKind.i64.wrap ((n:Int)*2)=((n*2:Nat):Int):=by rw[show (n:Int)*2=((n*2:Nat):Int) by omega];exact iw_ _ (by omega)
   by_cases h1:0≤lo
   ·have Hv:=hd_ (hlo h1);have h1':0≤lo.sign:=by omega
    generalize lo.sign=sl at *
    clear c1 c2 hlo hhi hlast Hs2 h1;generalize itx lo=slo at *
    generalize itx hi=shi at *
    have B1:=Hb;have K1:=Hk;clear Hb Hk
    go_wp2_with fail
    refine cm_ (Hen.out) ?_;rintro e w2 ⟨rfl,hb⟩;have B2:=hd_ (B1.out.trans (hb.mono B1.out.size));have K2:=hd_ (Kd K1.out hb nr_);clear hb B1 K1
    go_wp2_with fail
    refine cm_ (Hs1.out _) ?_;rintro e w3 ⟨rfl,hb⟩;have B3:=hd_ (B2.out.trans (hb.mono B2.out.size));have K3:=hd_ (Kd K2.out hb nr_);clear hb B2 K2
    go_wp2_with fail
    rw[Exit.noGoto_ret];go_ret;exact⟨by rw[Hv.out];rfl,B3.out⟩
   ·have h1':lo.sign<0:=by omega
    by_cases h2:hi≤0
    ·have Hv:=hd_ (hhi h2);have h2':hi.sign≤0:=by omega
     generalize lo.sign=sl at *
     generalize hi.sign=sh at *
     clear c1 c2 hlo hhi hlast h1 h2;generalize itx lo=slo at *
     generalize itx hi=shi at *
     have B1:=Hb;have K1:=Hk;clear Hb Hk
     go_wp2_with fail
     refine cm_ (Hen.out) ?_;rintro e w2 ⟨rfl,hb⟩;have B2:=hd_ (B1.out.trans (hb.mono B1.out.size));have K2:=hd_ (Kd K1.out hb nr_);clear hb B1 K1
     go_wp2_with fail
     refine cm_ (Hs1.out _) ?_;rintro e w3 ⟨rfl,hb⟩;have B3:=hd_ (B2.out.trans (hb.mono B2.out.size));have K3:=hd_ (Kd K2.out hb nr_);clear hb B2 K2
     go_wp2_with fail
     refine cm_ (Hs2.out _) ?_;rintro e w4 ⟨rfl,hb⟩;have B4:=hd_ (B3.out.trans (hb.mono B3.out.size));have K4:=hd_ (Kd K3.out hb nr_);clear hb B3 K3
     go_wp2_with fail
     rw[Exit.noGoto_ret];go_ret;exact⟨by rw[Hv.out];rfl,B4.out⟩
    ·have h2':0<hi.sign:=by omega
     have hn2:n*2≤1024:=by
      rcases Hp.out with h|h|h|h|h
      ·omega
      ·omega
      ·omega
      ·omega
      ·have:=hlast h;omega
     have hp2:Hid (Pw (n*2)):=by
      rcases Hp.out with h|h|h|h|h
      ·subst h;exact .inr (.inl rfl)
      ·subst h;exact .inr (.inr (.inl rfl))
      ·subst h;exact .inr (.inr (.inr (.inl rfl)))
      ·subst h;exact .inr (.inr (.inr (.inr rfl)))
      ·have:=hlast h;omega
     have hn0:0<n:=by rcases Hp.out with h | h | h | h | h<;>omega
     generalize lo.sign=sl at *
     generalize hi.sign=sh at *
     clear c1 c2 hlo hhi hlast h1 h2;generalize itx lo=slo at *
     generalize itx hi=shi at *
     have B1:=Hb;have K1:=Hk;clear Hb Hk
     go_wp2_with fail
     refine cm_ (Hen.out) ?_;rintro e w2 ⟨rfl,hb⟩;have B2:=hd_ (B1.out.trans (hb.mono B1.out.size));have K2:=hd_ (Kd K1.out hb nr_);clear hb B1 K1
     go_wp2_with fail
     refine cm_ (Hs1.out _) ?_;rintro e w3 ⟨rfl,hb⟩;have B3:=hd_ (B2.out.trans (hb.mono B2.out.size));have K3:=hd_ (Kd K2.out hb nr_);clear hb B2 K2
     go_wp2_with fail
     refine cm_ (Hs2.out _) ?_;rintro e w4 ⟨rfl,hb⟩;have B4:=hd_ (B3.out.trans (hb.mono B3.out.size));have K4:=hd_ (Kd K3.out hb nr_);clear hb B3 K3
     go_wp2_with fail
     go_roundw
     case rel=>exact⟨n*2,hp2,hn2,rfl,B4,K4⟩
     case measure=>simp[intOf];omega
def Zw:List Int:=[2,3,5,7,11,13]
theorem Zw4{p n L:Nat}(hp:p∈Zg2)(hn:n≤1056)(h:LN.lg p p.log2 n 1120=some L):lgN p n=L:=by
 rw[Zs7] at h;obtain⟨s,hs,e⟩:=Option.map_eq_some_iff.1 h;rw[← Zf5 hp hn (by decide) hs,e]
theorem Zx4:([3,5,7,11,13]:List Nat).map (fun p=>LN.lg p p.log2 1024 1120)=LN.certL.tail.map fun x=>some x.toNat:=by decide +kernel
theorem Zq2:LN.certL.head?=some (2^1024):=by decide +kernel
theorem Zt2:∀ x∈LN.certL,(0:Int)≤x:=by decide +kernel
theorem Zw6(n:Nat):((lf n 2:Nat):Int)=2^n:=by
 show ((lgN 2 n:Nat):Int)=_
 rw[Zg8,Int.natCast_pow];rfl
theorem Zis{a k m:Nat}(ha:a≤100)(h:7+k≤m):a*2^k≤2^m:=by
 have:a*2^k≤2^7*2^k:=Nat.mul_le_mul_right _ (by omega)
 rw[← Nat.pow_add] at this;exact Nat.le_trans this (Nat.pow_le_pow_right (by decide) h)
theorem Zwa:Zw.map (fun p=>((lf 1024 p:Nat):Int))=LN.certL:=by
 have h:=Zx4;have h0:=Zq2;have hp:=Zt2;obtain⟨c0,c1,c2,c3,c4,c5,e⟩:∃ c0 c1 c2 c3 c4 c5,LN.certL=[c0,c1,c2,c3,c4,c5]:=⟨_,_,_,_,_,_,rfl⟩;rw[e] at h h0 hp ⊢;have key:∀ (p:Nat) (c:Int),p∈Zg2→0≤c→LN.lg p p.log2 1024 1120=some c.toNat→((lf 1024 (p:Int):Nat):Int)=c:=fun p c hp h0 h=>by
  have:=Zw4 hp (by decide) h
  show ((lgN p 1024:Nat):Int)=c
  rw[this];omega
 simp only[List.map_cons,List.map_nil,List.tail_cons,List.cons.injEq,and_true] at h;obtain⟨h1,h2,h3,h4,h5⟩:=h;simp only[List.head?_cons,Option.some.injEq] at h0;have p1:=hp c1 (by simp)
 have p2:=hp c2 (by simp)
 have p3:=hp c3 (by simp)
 have p4:=hp c4 (by simp)
 have p5:=hp c5 (by simp)
 have k1:=key 3 c1 (by decide) p1 h1
 have k2:=key 5 c2 (by decide) p2 h2
 have k3:=key 7 c3 (by decide) p3 h3
 have k4:=key 11 c4 (by decide) p4 h4
 have k5:=key 13 c5 (by decide) p5 h5
 have k0:((lf 1024 2:Nat):Int)=c0:=by
  rw[h0];exact Zw6 1024
 show [((lf 1024 2:Nat):Int),((lf 1024 3:Nat):Int),((lf 1024 5:Nat):Int),((lf 1024 7:Nat):Int),((lf 1024 11:Nat):Int),((lf 1024 13:Nat):Int)]=_
 rw[k0];rw[show ((lf 1024 3:Nat):Int)=c1 from k1,show ((lf 1024 5:Nat):Int)=c2 from k2,show ((lf 1024 7:Nat):Int)=c3 from k3,show ((lf 1024 11:Nat):Int)=c4 from k4,show ((lf 1024 13:Nat):Int)=c5 from k5]
def Kb:Nat:=2^100
theorem Zns{tl:List (Int×Int)}(h1:∀ x∈tl,x.1∈Zw)(h0:∀ x∈tl,x.2≠0)(hd:(tl.map Prod.fst).Nodup)(hk:∀ x∈tl,x.2.natAbs≤Kb)(hl:tl.length≤100)(hne:tl≠[]):Dec tl:=by
 have hc:=LN.cert_ok;rw[← Zwa] at hc;have hS:=@Zis tl.length 100 503 hl (by decide)
 have:=LN.ends_decide hc (by decide) tl hS hne (fun x hx=>⟨h1 x hx,h0 x hx,hk x hx⟩) hd
 unfold Dec;rw[LN.eLo_eq,LN.eHi_eq];omega
def Zpi:List Int:=[2,3,5,7,11,13,17,19,23,29,31,37,41,43,47,53,59,61,67,71,73,79,83,89,97]
structure Zf9 (ps:List Int) (l:List Rat):Prop where
 pr:∀ p∈ps,p∈Zpi
 nd:ps.Nodup
 kb:∀ x∈tlQ ps l,x.2.natAbs≤Kb
 dc:ps.length≤100→tlQ ps l≠[]→Dec (tlQ ps l)
theorem Zgh(D:Nat):∀ (ps:List Int) (l:List Rat),((Ve D ps l).map Prod.fst).Sublist ps
 | [],_=>by simp[Ve]
 | _::_,[]=>by simp[Ve]
 | p::ps,q::l=>by
  have ih:=Zgh D ps l;unfold Ve at ih ⊢;rw[List.zip_cons_cons,List.filterMap_cons]
  by_cases h:q.num=0
  ·simp only[h,if_true];exact ih.cons _
  ·simp only[h,if_false];exact ih.cons_cons _
theorem Zzh{ps:List Int}{l:List Rat}{x:Int×Int}(h:x∈tlQ ps l):x.2≠0:=by
 obtain⟨_,q,hq,hn,he⟩:=Zv h;rw[he];refine Int.mul_ne_zero hn ?_;have h1:=LN.tden_dvd hq;have h2:=LN.tden_pos' l;have h3:0<Qu l/q.den:=Nat.div_pos (Nat.le_of_dvd h2 h1) q.den_pos;omega
theorem Zph:Zpi=2::Zg2.map (fun p=>((p:Nat):Int)):=by decide +kernel
theorem Zyy{p:Int}(h:p∈Zpi):∃ q:Nat,p=q∧(q=2∨q∈Zg2):=by
 rw[Zph] at h;rcases List.mem_cons.1 h with rfl|h
 ·exact⟨2,rfl,.inl rfl⟩
 ·obtain⟨q,hq,rfl⟩:=List.mem_map.1 h;exact⟨q,rfl,.inr hq⟩
theorem Zgt{p:Int}(h:p∈Zw):p∈Zpi:=by
 have:∀ p∈Zw,p∈Zpi:=by decide
 exact this p h
theorem Zkt{ps:List Int}{l:List Rat}(h1:∀ p∈ps,p∈Zpi)(h2:ps.Nodup):TrT (tlQ ps l) :=
 ⟨fun _ hx=>Zyy (h1 _ (Zv hx).1),fun _ hx=>Zzh hx,(Zgh _ ps l).nodup h2⟩
theorem Zf9.trt{ps:List Int}{l:List Rat}(h:Zf9 ps l):TrT (tlQ ps l):=Zkt h.pr h.nd
theorem Zf9.lt{ps:List Int}{l:List Rat}(h:Zf9 ps l):∀ x∈tlQ ps l,x.2.natAbs<2^101:=fun x hx=>Nat.lt_of_le_of_lt (h.kb x hx) (by decide)
theorem Zf9.dec{ps:List Int}{l:List Rat}(h:Zf9 ps l)(hn:ps.length≤100)(hne:tlQ ps l≠[]):Dec (tlQ ps l):=h.dc hn hne
theorem Zie{ps:List Int}{l:List Rat}(hn:ps.length≤100):(tlQ ps l).length≤100 :=
 Nat.le_trans (by have:=(Zgh (Qu l) ps l).length_le;rw[List.length_map] at this;exact this) hn
theorem Zf9.small{ps:List Int}{l:List Rat}(h1:∀ p∈ps,p∈Zw)(h2:ps.Nodup)(hk:∀ x∈tlQ ps l,x.2.natAbs≤Kb):Zf9 ps l :=
 ⟨fun p hp=>Zgt (h1 p hp),h2,hk,fun hn hne=>Zns (fun _ hx=>h1 _ (Zv hx).1) (Zkt (fun p hp=>Zgt (h1 p hp)) h2).nz (Zkt (fun p hp=>Zgt (h1 p hp)) h2).nd hk (Zie hn) hne⟩
theorem Zhn(w:World)(ps:List Int)(a0 a1 a2:Option Addr)(c0 c1 c2 D:Nat)(la lb:List Rat)(A:Zf w ps a0 a1 la D)(B:Zf w ps a0 a2 lb D)(L:Qx w)(hD:D≤400)
  (hq:Zf9 ps (Zd ps.length [la,lb] [1,-1])) :
  Kc Tryz.prog 81 #[.slice a0 ps.length c0,.slice a1 la.length c1,.slice a2 lb.length c2] w (.int .i64 (LN.sz ps (Zd ps.length [la,lb] [1,-1]))):=by
 unfold Kc;have HL:=hd_ L;have HA:=hd_ A;have HB:=hd_ B;have HD:=hd_ hD;have Hq:=hd_ hq;have Hn:=hd_ A.n;have Hr0:Hid (LN.sz ps (Zd ps.length [la,lb] [1,-1])=LN.signT (tlQ ps (Zd ps.length [la,lb] [1,-1]))):=hd_ rfl;have Hnum1:Hid (∀ W,Below w.heap.size w W→Kc Tryz.prog 58 #[.int .i64 1] W (.agg #[.string (itx 1),.string (dec 1)])):=fun W hW=>Zbn W 1 (by decide) (by decide) (HL.out.below hW)
 have Hnum2:Hid (∀ W,Below w.heap.size w W→Kc Tryz.prog 58 #[.int .i64 (-1)] W (.agg #[.string (itx (-1)),.string (dec 1)])):=fun W hW=>Zbn W (-1) (by decide) (by decide) (HL.out.below hW)
 clear hq hD A B L;obtain⟨r,hr⟩:∃ r,LN.sz ps (Zd ps.length [la,lb] [1,-1])=r:=⟨_,rfl⟩;have Hsg:Hid (LN.signT (tlQ ps (Zd ps.length [la,lb] [1,-1]))=r):=by show _=_;rw[← Hr0.out,hr]
 rw[hr];clear hr Hr0;go_enter Tryz.func81,Tryz.ntmps81
 go_wp2_with fail
 have K1:=hd_ (Kq w #[.slice a1 la.length c1,.slice a2 lb.length c2] 35 _ rfl);have B1:=hd_ ((Below.refl w.heap.size w).alloc nr_ (.cells #[.slice a1 la.length c1,.slice a2 lb.length c2] 35));generalize hw1:w.alloc (.cells #[.slice a1 la.length c1,.slice a2 lb.length c2] 35)=w1 at *
 clear hw1;refine cm_ (Hnum1.out _ B1.out) ?_;rintro e w2 ⟨rfl,hb⟩;have K2:=hd_ (Kd K1.out hb nr_);have B2:=hd_ (B1.out.trans (hb.mono B1.out.size));clear hb
 go_wp2_with fail
 refine cm_ (Hnum2.out _ B2.out) ?_;rintro e w3 ⟨rfl,hb⟩;have K3:=hd_ (Kd K2.out hb nr_);have B3:=hd_ (B2.out.trans (hb.mono B2.out.size));clear hb
 go_wp2_with fail
 have K4:=hd_ (Ks K3.out (.cells #[.string (itx 1),.string (dec 1),.string (itx (-1)),.string (dec 1)] 101));have B4:=hd_ (B3.out.alloc B3.out.size (.cells #[.string (itx 1),.string (dec 1),.string (itx (-1)),.string (dec 1)] 101));have M4:=hd_ (Kq w3 #[.string (itx 1),.string (dec 1),.string (itx (-1)),.string (dec 1)] 101 _ rfl);generalize hw4:w3.alloc (.cells #[.string (itx 1),.string (dec 1),.string (itx (-1)),.string (dec 1)] 101)=w4 at *
 clear hw4;have Hs:=hd_ (Zuv w4 _ _ a1 a2 c1 c2 ps.length D la lb 1 (-1) K4.out M4.out (HA.out.below B4.out).rl (HB.out.below B4.out).rl HA.out.len HB.out.len HA.out.sm HB.out.sm Sm.one Sm.minus Hn.out HD.out (HL.out.below B4.out));refine cm_ Hs.out ?_;rintro e w5 ⟨a5,c5,rfl,ho,hb⟩;have Hr5:=hd_ ho.rd;have B5:=hd_ (B4.out.trans (hb.mono B4.out.size));clear hb ho;have S5:Hid (Zf w5 ps a0 a5 (Zd ps.length [la,lb] [1,-1]) (2*D+5)) :=
  ⟨(HA.out.below B5.out).rp,Hr5.out,Zkw HA.out.len HB.out.len,Hn.out,HA.out.pr,Zms HA.out.sm HB.out.sm Sm.one Sm.minus,by have:=HD.out;omega⟩
 have Ht:=hd_ (Zoc (c0:=c0) (c:=c5) S5.out (HL.out.below B5.out))
 go_wp2_with fail
 refine cm_ Ht.out ?_;rintro e w6 ⟨b1,d1,b2,d2,rfl,T,hb⟩;have B6:=hd_ (B5.out.trans (hb.mono B5.out.size));have Hg:Hid (Kc Tryz.prog 80 #[.agg (Qe b1 d1 b2 d2 (tlQ ps (Zd ps.length [la,lb] [1,-1])).length (Qu (Zd ps.length [la,lb] [1,-1])))] w6 (.int .i64 r)):=by
  rw[← Hsg.out];exact Zog w6 b1 b2 d1 d2 _ 101 _ T Hq.out.trt (by decide) Hq.out.lt (Hq.out.dec Hn.out) (HL.out.below B6.out)
 clear hb T
 go_wp2_with fail
 refine cm_ Hg.out ?_;rintro e w7 ⟨rfl,hb⟩;have B7:=hd_ (B6.out.trans (hb.mono B6.out.size));clear hb
 go_wp2_with fail
 go_ret;exact⟨rfl,B7.out⟩
theorem Zn4(w:World)(ps:List Int)(a0 a1 a2:Option Addr)(c0 c1 c2:Nat)(la lb:List Rat)(A:Zf w ps a0 a1 la 30)(B:Zf w ps a0 a2 lb 30)(hp:Qv ps=0)(L:Qx w)
  (hq:Zf9 ps (Zd ps.length [la,lb] [1,-1])) :
  Kc Tryz.prog 24 #[.slice a0 ps.length c0,.slice a1 la.length c1,.slice a2 lb.length c2] w (.tuple #[.int .i64 (LN.sz ps (Zd ps.length [la,lb] [1,-1])),.int .i64 0]):=by
 unfold Kc;have Hc:Hid (∀ W,Below w.heap.size w W→Kc Tryz.prog 81 #[.slice a0 ps.length c0,.slice a1 la.length c1,.slice a2 lb.length c2] W (.int .i64 (LN.sz ps (Zd ps.length [la,lb] [1,-1])))):=fun W hW =>
  Zhn W ps a0 a1 a2 c0 c1 c2 30 la lb (A.below hW) (B.below hW) (L.below hW) (by decide) hq
 have Hk:Hid (∀ W g,Below w.heap.size w W→W.heap[g]?=some (.cells #[.slice a1 la.length c1,.slice a2 lb.length c2] 35 (0,0))→Kc Tryz.prog 20 #[.slice a0 ps.length c0,.slice (some ⟨g,0,none⟩) 2 2] W (.int .i64 0)):=fun W g hW hg =>
  Zmb W ps g a0 a1 a2 c0 c1 c2 la lb (A.below hW) (B.below hW) hp (L.below hW) hg
 clear A B hp L hq;generalize LN.sz ps (Zd ps.length [la,lb] [1,-1])=r at *
 go_enter Tryz.func24,Tryz.ntmps24
 go_wp2_with fail
 have B1:=hd_ ((Below.refl w.heap.size w).alloc nr_ (.cells #[.slice a1 la.length c1,.slice a2 lb.length c2] 35));refine cm_ (Hk.out _ _ B1.out (Kq w _ _ _ rfl)) ?_;rintro e w1 ⟨rfl,hb⟩;have B2:=hd_ (B1.out.trans (hb.mono B1.out.size));clear hb Hk B1
 go_wp2_with fail
 refine cm_ (Hc.out _ B2.out) ?_;rintro e w2 ⟨rfl,hb⟩;have B3:=hd_ (B2.out.trans (hb.mono B2.out.size));clear hb Hc
 go_wp2_with fail
 go_ret2
 exact⟨rfl,B3.out⟩
theorem Zea:∀ k,k<10→(∀ p∈Yf k,p∈Zw)∧(Yf k).Nodup:=by decide +kernel
theorem Zak{ps:List Int}(h:∀ p∈ps,p∈Zw):∀ p∈ps,0<p:=fun p hp=>by
 have key:∀ q∈Zw,0<q:=by decide
 exact key p (h p hp)
def Sml (N M:Nat) (l:List Rat):Prop:=∀ q∈l,q.den ∣ M∧(LN.ex M q).natAbs≤N
theorem Sml.le{N K M:Nat}{l:List Rat}(h:Sml N M l)(hK:N≤K):Sml K M l:=fun q hq=>⟨(h q hq).1,Nat.le_trans (h q hq).2 hK⟩
theorem Zti{M:Nat}{q:Rat}(z:Int)(hM:0<M)(h:q*(M:Rat)=(z:Rat)):q.den ∣ M∧LN.ex M q=z:=by
 have hM':(M:Rat)≠0:=by have:=Rat.natCast_pos.2 hM;grind
 have e:q=mkRat z M:=by
  rw[Rat.mkRat_eq_div];have:=Rat.mul_div_cancel (a:=q) hM'
  rw[← h];exact this.symm
 have hd:q.den ∣ M:=by
  rw[e,LN.mkRat_den' _ _ (by omega)]
  exact Nat.div_dvd_of_dvd (Nat.gcd_dvd_right _ _)
 refine⟨hd,?_⟩;rw[← Rat.intCast_inj,LN.ex_eq hd,h]
theorem Sml.comb{N K M:Nat}{la lb:List Rat}(hM:0<M)(ha:Sml N M la)(hb:Sml K M lb)(f g:Int):Sml (N*f.natAbs+K*g.natAbs) M (Kx la lb (f:Rat) (g:Rat)):=by
 intro q hq;obtain⟨i,hi,rfl⟩:=List.mem_iff_getElem.1 hq;have hi':i<la.length∧i<lb.length:=by simp[Kx] at hi;omega
 simp only[Kx,List.getElem_zipWith];obtain⟨d1,n1⟩:=ha _ (List.getElem_mem hi'.1);obtain⟨d2,n2⟩:=hb _ (List.getElem_mem hi'.2);have h:(la[i]'hi'.1*(f:Rat)+lb[i]'hi'.2*(g:Rat))*(M:Rat)=((LN.ex M (la[i]'hi'.1)*f+LN.ex M (lb[i]'hi'.2)*g:Int):Rat):=by
  rw[Rat.intCast_add,Rat.intCast_mul,Rat.intCast_mul,LN.ex_eq d1,LN.ex_eq d2]
  grind
 obtain⟨r1,r2⟩:=Zti _ hM h;refine⟨r1,?_⟩;rw[r2];refine Nat.le_trans (Int.natAbs_add_le _ _) ?_;rw[Int.natAbs_mul,Int.natAbs_mul];exact Nat.add_le_add (Nat.mul_le_mul_right _ n1) (Nat.mul_le_mul_right _ n2)
theorem Sml.scale{N M d:Nat}{l:List Rat}(hM:0<M)(h:Sml N M l)(k:Rat)(z:Int)(hd:0<d)(hk:k*(d:Rat)=(z:Rat)):Sml (N*z.natAbs) (M*d) (l.map fun q=>k*q):=by
 intro q hq;obtain⟨x,hx,rfl⟩:=List.mem_map.1 hq;obtain⟨d1,n1⟩:=h x hx;have e:(k*x)*((M*d:Nat):Rat)=((LN.ex M x*z:Int):Rat):=by
  rw[Rat.intCast_mul,LN.ex_eq d1,Rat.natCast_mul,← hk]
  grind
 obtain⟨r1,r2⟩:=Zti _ (Nat.mul_pos hM hd) e;refine⟨r1,?_⟩;rw[r2,Int.natAbs_mul];exact Nat.mul_le_mul_right _ n1
theorem Sml.good{N M:Nat}{ps:List Int}{l:List Rat}(hM:0<M)(h:Sml N M l)(hN:N≤Kb)(h1:∀ p∈ps,p∈Zw)(h2:ps.Nodup):Zf9 ps l:=by
 refine Zf9.small h1 h2 fun x hx=>?_
 obtain⟨_,q,hq,_,he⟩:=Zv hx;have e:x.2=LN.ex (Qu l) q:=he;obtain⟨m,hm⟩:=LN.tden_min (fun q hq=>(h q hq).1)
 have h3:=(h q hq).2;rw[hm,Nat.mul_comm,LN.ex_mul (LN.tden_dvd hq),Int.natAbs_mul,Int.natAbs_natCast] at h3;have hm0:0<m:=by
  rcases Nat.eq_zero_or_pos m with h0|h0
  ·rw[h0,Nat.mul_zero] at hm;omega
  ·exact h0
 rw[e];have h4:1*(LN.ex (Qu l) q).natAbs≤m*(LN.ex (Qu l) q).natAbs:=Nat.mul_le_mul_right _ hm0;omega
def Zs (la lb:List Rat):List Rat:=Kx la lb ((1:Int):Rat) ((-1:Int):Rat)
theorem Zce(la lb:List Rat)(i:Nat)(h1:i<la.length)(h2:i<lb.length)(h:i<(Zs la lb).length):(Zs la lb)[i]=la[i]-lb[i]:=by
 simp only[Zs,Kx,List.getElem_zipWith]
 grind
theorem Vb(la lb:List Rat)(h:la.length=lb.length):(Zs la lb).length=la.length:=Qr _ _ _ _ h
theorem Zgm{ps:List Int}(hp:∀ p∈ps,0<p){la lb:List Rat}(h:la.length=lb.length):LN.sz ps (Zs lb la) = - LN.sz ps (Zs la lb):=by
 rw[← LN.sz_neg hp];congr 1;refine List.ext_getElem (by simp[Vb,h]) fun i h1 h2=>?_
 have i1:i<la.length:=by simp[Vb,h] at h2;omega
 rw[Zce lb la i (by omega) i1 h1,List.getElem_map,Zce la lb i i1 (by omega)]
 grind
theorem Zry{ps:List Int}(hp:∀ p∈ps,0<p)(la:List Rat):LN.sz ps (Zs la la)=0:=by
 refine LN.sz_zero hp fun q hq=>?_
 obtain⟨i,hi,rfl⟩:=List.mem_iff_getElem.1 hq;have i1:i<la.length:=by rw[Vb _ _ rfl] at hi;exact hi
 rw[Zce la la i i1 i1]
 grind
theorem Zl1{la lb lc:List Rat}(h1:la.length=lb.length)(h2:lb.length=lc.length):Zs la lc=List.zipWith (· + ·) (Zs la lb) (Zs lb lc):=by
 refine List.ext_getElem (by simp[Vb,h1,h2]) fun i i1 i2=>?_
 have j1:i<la.length:=by rw[Vb _ _ (by omega)] at i1;exact i1
 rw[Zce la lc i j1 (by omega),List.getElem_zipWith,Zce la lb i j1 (by omega),Zce lb lc i (by omega) (by omega)]
 grind
theorem Zmr{ps:List Int}(hp:∀ p∈ps,0<p){la lb lc:List Rat}(h1:la.length=lb.length)(h2:lb.length=lc.length)(a:0≤LN.sz ps (Zs la lb))(b:0≤LN.sz ps (Zs lb lc)):0≤LN.sz ps (Zs la lc) :=
 LN.sz_add_ge hp (by rw[Vb _ _ h1,Vb _ _ h2,h1]) (Zl1 h1 h2) a b
theorem Zgl{ps:List Int}(hp:∀ p∈ps,0<p){la lb lc:List Rat}(h1:la.length=lb.length)(h2:lb.length=lc.length)(a:LN.sz ps (Zs la lb)≤0)(b:LN.sz ps (Zs lb lc)≤0):LN.sz ps (Zs la lc)≤0 :=
 LN.sz_add_le hp (by rw[Vb _ _ h1,Vb _ _ h2,h1]) (Zl1 h1 h2) a b
theorem Ztr:∀ d,d<6→0<Zhk d∧Zhk d ∣ 12:=by decide
theorem Zb3:((1:Int):Rat)=1:=rfl
theorem Zfr:((-1:Int):Rat) = -1:=by decide +kernel
theorem Zj0(z:Int)(d:Nat)(hd:0<d):mkRat z d*(d:Rat)=(z:Rat):=by
 rw[Rat.mkRat_eq_div];exact Rat.div_mul_cancel (by have:=Rat.natCast_pos.2 hd;grind)
theorem Zlu(n:Int)(d:Nat):∃ z:Int,Zh6 n d*((12:Nat):Rat)=(z:Rat)∧z.natAbs≤480:=by
 obtain⟨h1,m,hm⟩:=Ztr (d%6) (Nat.mod_lt _ (by decide))
 have t1:=Int.tmod_lt_of_pos n (show (0:Int)<41 by decide)
 have t2:=Int.lt_tmod_of_pos n (show (0:Int)<41 by decide)
 refine⟨n.tmod 41*m,?_,?_⟩
 ·unfold Zh6;have e:=Zj0 (n.tmod 41) (Zhk (d%6)) h1;rw[hm,Rat.natCast_mul,← Rat.mul_assoc,e,Rat.intCast_mul,Rat.intCast_natCast]
 ·have hm2:m≤12:=by
   have:1*m≤Zhk (d%6)*m:=Nat.mul_le_mul_right _ h1
   omega
  rw[Int.natAbs_mul,Int.natAbs_natCast];exact Nat.le_trans (Nat.mul_le_mul (show (n.tmod 41).natAbs≤40 by omega) hm2) (by decide)
theorem Zp7(nu:Nat→Int)(de:Nat→Nat)(m:Nat):Sml 480 12 (Za2 nu de m):=by
 intro q hq;obtain⟨i,_,rfl⟩:=List.mem_map.1 hq;obtain⟨z,h,hz⟩:=Zlu (nu i) (de i);obtain⟨r1,r2⟩:=Zti z (by decide) h
 exact⟨r1,by rw[r2];exact hz⟩
theorem Ztx{W:World}{ps:List Int}{a0 a1 a2:Option Addr}(c0 c1 c2:Nat){la lb:List Rat}(hp:Qv ps=0)(h13:∀ p∈ps,2≤p∧p≤13)(hn:ps.length≤100)(rp:Rd W a0 (Qw ps))(r1:Rd W a1 (Kg la))(r2:Rd W a2 (Kg lb))
  (l1:la.length=ps.length) (l2:lb.length=ps.length) (s1:∀ q∈la,Sm 30 q) (s2:∀ q∈lb,Sm 30 q) (g:Zf9 ps (Zs la lb)) (L:Qx W) :
  Kc Tryz.prog 24 #[.slice a0 ps.length c0,.slice a1 ps.length c1,.slice a2 ps.length c2] W (.tuple #[.int .i64 (LN.sz ps (Zs la lb)),.int .i64 0]):=by
 have e:Zd ps.length [la,lb] [1,-1]=Zs la lb:=by
  rw[Zc1 _ _ _ _ _ l1 l2];unfold Zs;rw[Zb3,Zfr]
 have h97:∀ p∈ps,2≤p∧p≤97:=fun p hp=>by have:=h13 p hp;omega
 have h:=Zn4 W ps a0 a1 a2 c0 c1 c2 la lb ⟨rp,r1,l1,hn,h97,s1,by decide⟩ ⟨rp,r2,l2,hn,h97,s2,by decide⟩ hp L (by rw[e];exact g)
 rw[e,l1,l2] at h;exact h
structure Qb9 (ab bc ac:Int):Prop where
 a:ab=1∨ab=0∨ab = -1
 b:bc=1∨bc=0∨bc = -1
 ge:0≤ab→0≤bc→0≤ac
 le:ab≤0→bc≤0→ac≤0
theorem Zb0{ps:List Int}(hp:∀ p∈ps,0<p)(l:List Rat):LN.sz ps l=1∨LN.sz ps l=0∨LN.sz ps l = -1:=by
 rw[LN.sz_of_vt hp];exact LN.sg_cases _
theorem Qb3{ps:List Int}(hp:∀ p∈ps,0<p){la lb lc:List Rat}(h1:la.length=lb.length)(h2:lb.length=lc.length):Qb9 (LN.sz ps (Zs la lb)) (LN.sz ps (Zs lb lc)) (LN.sz ps (Zs la lc)) :=
 ⟨Zb0 hp _,Zb0 hp _,Zmr hp h1 h2,Zgl hp h1 h2⟩
theorem Zgz{a:Nat}(h:a≤1000000000):a≤Kb:=by
 have:(1000000000:Nat)≤Kb:=by decide
 omega
def Zbu (w:World) (B:Nat) (a:Option Addr) (c:Nat) (l:List Int):Prop:=w.ownsRow B 3 1 (.slice a l.length c) l.length (Qw l)
theorem Zbu.rd{w:World}{B c:Nat}{a:Option Addr}{l:List Int}(h:Zbu w B a c l):Rd w a (Qw l):=Zcu h
theorem Zbu.below{w w':World}{B c:Nat}{a:Option Addr}{l:List Int}(h:Zbu w B a c l){D:Nat}(hb:Below D w w')(hD:w.heap.size≤D):Zbu w' B a c l:=Vq h hb hD
theorem Zbu.nil(w:World)(B:Nat):Zbu w B none 0 []:=World.ownsRow_nil w B _ 1
def Xs (xs:List Int):Prop:=∀ x∈xs,-1000≤x∧x≤1000
def Ok (c:Nat→Nat→Int) (u v:Nat):Prop:=0≤c v u∧(c v u=0→u<v)
structure Srt (c:Nat→Nat→Int) (n i:Nat) (F:Nat→Nat):Prop where
 lt:∀ k,k<n→F k<n
 inj:∀ k m,k<n→m<n→F k=F m→k=m
 hi:∀ k,i≤k→k<n→F k=k
 lo:∀ k,k<i→F k<i
 adj:∀ k,k+1<i→Ok c (F k) (F (k+1))
structure Ins (c:Nat→Nat→Int) (n i j:Nat) (F:Nat→Nat):Prop where
 lt:∀ k,k<n→F k<n
 inj:∀ k m,k<n→m<n→F k=F m→k=m
 x:F j=i
 hi:∀ k,i<k→k<n→F k=k
 lo:∀ k,k≤i→F k≤i
 a1:∀ k,k+1<j→Ok c (F k) (F (k+1))
 a2:∀ k,j<k→k+1≤i→Ok c (F k) (F (k+1))
 a3:∀ k,k+1=j→j<i→Ok c (F k) (F (j+1))
 a4:j<i→Ok c i (F (j+1))
 ji:j≤i
 n:i<n
theorem Srt.first(c:Nat→Nat→Int)(n:Nat):Srt c n 1 fun k=>k :=
 ⟨fun _ h=>h,fun _ _ _ _ h=>h,fun _ _ _=>rfl,fun _ h=>h,fun _ h=>by omega⟩
theorem Srt.start{c:Nat→Nat→Int}{n i:Nat}{F:Nat→Nat}(h:Srt c n i F)(hi:i<n):Ins c n i i F :=
 ⟨h.lt,h.inj,h.hi i nr_ hi,fun k h1 h2=>h.hi k (by omega) h2,fun k hk=>by
  rcases Nat.lt_or_ge k i with h1|h1
  ·exact Nat.le_of_lt (h.lo k h1)
  ·have:k=i:=by omega
   rw[this,h.hi i nr_ hi];exact Nat.le_refl _,h.adj,fun k h1 h2=>by omega,fun k h1 h2=>by omega,fun h1=>by omega,Nat.le_refl _,hi⟩
theorem Ins.stop{c:Nat→Nat→Int}{n i j:Nat}{F:Nat→Nat}(h:Ins c n i j F)(hs:j=0∨0≤c (F j) (F (j-1))):Srt c n (i+1) F:=by
 refine⟨h.lt,h.inj,fun k h1 h2=>h.hi k (by omega) h2,fun k hk=>Nat.lt_succ_of_le (h.lo k (by omega)),fun k hk=>?_⟩
 have hji:=h.ji;have hn:=h.n;rcases Nat.lt_trichotomy (k+1) j with h1|h1|h1
 ·exact h.a1 k h1
 ·rcases hs with h0 | h0
  ·omega
  ·have e:j-1=k:=by omega
   rw[e] at h0;rw[h1];refine⟨h0,fun _=>?_⟩
   have hx:=h.x;have h2:=h.lo k (by omega)
   have h3:F k≠F j:=fun e=>by have:=h.inj k j (by omega) (by omega) e;omega
   omega
 ·rcases Nat.lt_or_ge j k with h2 | h2
  ·exact h.a2 k h2 (by omega)
  ·have e:k=j:=by omega
   subst e;rw[h.x];exact h.a4 (by omega)
def swF (F:Nat→Nat) (j:Nat):Nat→Nat:=fun k=>if k=j then F (j+1) else if k=j+1 then F j else F k
theorem Ins.swap{c:Nat→Nat→Int}(hc:∀ u v,c v u = - c u v){n i j:Nat}{F:Nat→Nat}(h:Ins c n i (j+1) F)(hs:c (F (j+1)) (F j)<0):Ins c n i j (swF F j):=by
 have hji:=h.ji;have hn:=h.n;have hx:=h.x;have s1:swF F j j=i:=by unfold swF;rw[if_pos rfl];exact hx
 have s2:swF F j (j+1)=F j:=by unfold swF;rw[if_neg (by omega),if_pos rfl]
 have s3:∀ k,k≠j→k≠j+1→swF F j k=F k:=fun k h1 h2=>by unfold swF;rw[if_neg h1,if_neg h2]
 refine⟨fun k hk=>?_,fun k m hk hm e=>?_,s1,fun k h1 h2=>?_,fun k hk=>?_,fun k hk=>?_,fun k h1 h2=>?_,fun k h1 h2=>?_,fun h1=>?_,by omega,hn⟩
 ·unfold swF;split
  ·exact h.lt _ (by omega)
  ·split
   ·exact h.lt _ (by omega)
   ·exact h.lt _ hk
 ·unfold swF at e
  by_cases k1:k=j
  ·by_cases m1:m=j
   ·omega
   ·rw[if_pos k1,if_neg m1] at e
    by_cases m2:m=j+1
    ·rw[if_pos m2] at e;have:=h.inj _ _ (by omega) (by omega) e
     omega
    ·rw[if_neg m2] at e;have:=h.inj _ _ (by omega) hm e
     omega
  ·rw[if_neg k1] at e
   by_cases k2:k=j+1
   ·rw[if_pos k2] at e
    by_cases m1:m=j
    ·rw[if_pos m1] at e;have:=h.inj _ _ (by omega) (by omega) e
     omega
    ·rw[if_neg m1] at e
     by_cases m2:m=j+1
     ·omega
     ·rw[if_neg m2] at e;have:=h.inj _ _ (by omega) hm e
      omega
   ·rw[if_neg k2] at e
    by_cases m1:m=j
    ·rw[if_pos m1] at e;have:=h.inj _ _ hk (by omega) e
     omega
    ·rw[if_neg m1] at e
     by_cases m2:m=j+1
     ·rw[if_pos m2] at e;have:=h.inj _ _ hk (by omega) e
      omega
     ·rw[if_neg m2] at e;exact h.inj _ _ hk hm e
 ·rw[s3 k (by omega) (by omega)];exact h.hi k h1 h2
 ·unfold swF;split
  ·omega
  ·split
   ·exact h.lo _ (by omega)
   ·exact h.lo _ hk
 ·rw[s3 k (by omega) (by omega),s3 (k+1) (by omega) (by omega)]
  exact h.a1 k (by omega)
 ·rcases Nat.lt_or_ge (j+1) k with h3 | h3
  ·rw[s3 k (by omega) (by omega),s3 (k+1) (by omega) (by omega)]
   exact h.a2 k h3 h2
  ·have e:k=j+1:=by omega
   subst e;rw[s2,s3 (j+1+1) (by omega) (by omega)]
   exact h.a3 j rfl (by omega)
 ·subst h1;rw[s3 k (by omega) (by omega),s2]
  exact h.a1 k (by omega)
 ·rw[s2,← hx];have e:=hc (F (j+1)) (F j);exact⟨by omega,fun h0=>by omega⟩
structure Zkj (W:World) (g n:Nat) (F:Nat→Nat):Prop where
 lt:g<W.heap.size
 cell:∀ k,k<n→W.cell? ⟨g,k,none⟩=some (.int .i64 (F k:Nat))
 fr:∀ k,W.frozen? ⟨g,k,none⟩=false
theorem Zkj.below{W W':World}{g n D:Nat}{F:Nat→Nat}(h:Zkj W g n F)(hb:Below D W W')(hD:W.heap.size≤D):Zkj W' g n F:=by
 have hlt:=h.lt;have e:=hb.block g (by omega)
 have hs:=hb.size;refine⟨?_,fun k hk=>?_,fun k=>?_⟩
 ·have h2:=Array.getElem?_eq_some_iff.1 (show W.heap[g]?=some W.heap[g] from Array.getElem?_eq_getElem hlt)
  rw[Array.getElem?_eq_getElem hlt] at e;exact(Array.getElem?_eq_some_iff.1 e).1
 ·rw[hb.cell (p:=⟨g,k,none⟩) (show g<D by omega)]
  exact h.cell k hk
 ·have:=h.fr k
  unfold World.frozen? at this ⊢;rw[show W'.heap[(⟨g,k,none⟩:Addr).block]?=W.heap[(⟨g,k,none⟩:Addr).block]? from e]
  exact this
theorem Zkj.swap{W:World}{g n:Nat}{F:Nat→Nat}(h:Zkj W g n F)(j:Nat)(hj:j+1<n):
  Zkj ((W.setCell ⟨g,j+1,none⟩ (.int .i64 (F j:Nat))).setCell ⟨g,j,none⟩ (.int .i64 (F (j+1):Nat))) g n (swF F j):=by
 have h0:=h.cell j (by omega)
 have h1:=h.cell (j+1) hj;have ne:∀ a b:Nat,a≠b→(⟨g,a,none⟩:Addr)≠⟨g,b,none⟩:=fun a b hab e=>by cases e;exact hab rfl
 refine⟨by simpa using h.lt,fun k hk=>?_,fun k=>?_⟩
 ·unfold swF
  by_cases k1:k=j
  ·subst k1;rw[if_pos rfl];exact World.cell?_setCell_same _ _ _ (u := .int .i64 (F k:Nat)) (by rw[World.cell?_setCell_other _ _ _ _ (ne _ _ (by omega))];exact h0)
  ·rw[if_neg k1,World.cell?_setCell_other _ _ _ _ (ne _ _ (fun e=>k1 e.symm))]
   by_cases k2:k=j+1
   ·subst k2;rw[if_pos rfl];exact World.cell?_setCell_same _ _ _ h1
   ·rw[if_neg k2,World.cell?_setCell_other _ _ _ _ (ne _ _ (fun e=>k2 e.symm))]
    exact h.cell k hk
 ·have:=h.fr k
  simpa using this
structure Zpl (c:Nat→Nat→Int) (n:Nat) (F:Nat→Nat):Prop where
 lt:∀ k,k<n→F k<n
 inj:∀ k m,k<n→m<n→F k=F m→k=m
 adj:∀ k,k+1<n→Ok c (F k) (F (k+1))
theorem Zj6(w:World)(B g n cap:Nat)(P2 P3:Value)(c:Nat→Nat→Int)(hc:∀ u v,c v u = - c u v)(hb:∀ u v,-1≤c u v∧c u v≤1)(hB:B≤g)(hn:n≤1000)(hrow:Zkj w g n fun k=>k)
  (hcmp:∀ W,Below B w W→∀ i j:Nat,i<n→j<n→Kc Tryz.prog 168 #[.int .i64 i,.int .i64 j,P2,P3] W (.int .i64 (c i j))) :
  Calls Tryz.prog 284 #[.slice (some ⟨g,0,none⟩) n cap,.int .i64 0,.int .i64 n,.func (.func 168) #[] #[P2,P3]] w fun e w'=>e = .returned (.tuple #[])∧∃ F,Zpl c n F∧Zkj w' g n F∧Below B w w':=by
 have Hc:=hd_ hc;have Hb:=hd_ hb;have Hcmp:=hd_ hcmp;have Hrow:=hd_ hrow;clear hc hb hcmp hrow;go_enter Tryz.func284,Tryz.ntmps284
 go_wp2_with fail
 go_loopw [8] (fun z wr=>∃ (i:Nat) (F:Nat→Nat),1≤i∧z = .int .i64 i∧Hid (Srt c n i F)∧Hid (Zkj wr g n F)∧Hid (Below B w wr)) (fun z _=>n-(intOf z).toNat)
 case atStart=>exact⟨1,fun k=>k,Nat.le_refl _,rfl,Srt.first c n,Hrow.out,Below.refl _ _⟩
 case round =>
  obtain⟨i,F,hi1,rfl,HS,HR,HB⟩:=hrel;clear Hrow
  by_cases hlt:i<n
  ·have hlt':(i:Int)<n:=by omega
   go_wp2_with fail
   go_loopw [9] (fun z wr=>∃ (j:Nat) (F:Nat→Nat),j≤i∧z = .int .i64 j∧Hid (Ins c n i j F)∧Hid (Zkj wr g n F)∧Hid (Below B w wr)) (fun z _=>(intOf z).toNat)
   case atStart=>exact⟨i,F,Nat.le_refl _,rfl,HS.out.start hlt,HR.out,HB.out⟩
   case round =>
    clear HS HR HB;obtain⟨j,F,hji,rfl,HI,HR,HB⟩:=hrel;rcases Nat.eq_zero_or_pos j with h0|h0
    ·subst h0;have HS2:=hd_ (HI.out.stop (.inl rfl))
     go_wp2_with fail
     go_quiet (fail)
     go_wp2
     go_roundw
     case rel=>exact⟨i+1,F,by omega,by go_num,HS2.out,HR.out.below (Vc (Below.refl wr.heap.size wr) _) nr_,Vc HB.out _⟩
     case measure=>simp[intOf];omega
    ·obtain⟨p,rfl⟩:∃ p,j=p+1:=⟨j-1,by omega⟩
     have hBs:B≤wr.heap.size:=Nat.le_trans hB (Nat.le_of_lt HR.out.lt);have k1:=HR.out.cell (p+1) (by omega)
     have k0:=HR.out.cell p (by omega)
     have Hcall:=hd_ fun W hW=>Hcmp.out W hW (F (p+1)) (F p) (HI.out.lt _ (by omega)) (HI.out.lt _ (by omega))
     have hcb:=Hb.out (F (p+1)) (F p);have q1:=BW.cell k1;have q0:=BW.cell k0;have hnon:Nonempty (BW wr):=⟨⟨wr,Below.refl _ _⟩⟩;have I:Hid (Below wr.heap.size wr wr.drew):=(Below.refl _ _).drew;have hpi:(p:Int)+1<n:=by omega
     have hpi0:(p:Int)<n:=by omega
     go_wp2_with fail
     clear k0 k1;refine RY.wp_region_readers 14 [(1,0),(1,1),(1,2),(1,3),(1,4),(1,5),(1,6),(1,7),(1,8),(1,9),(1,10),(1,11),(1,12),(1,13),(0,14),(2,15),(0,16)] (fun w'=>∃ p:BW wr,w'=p.w) (by kernel_rfl) (by kernel_rfl) ?_ ?_
     ·exact⟨⟨_,I.out⟩,rfl⟩
     iterate 14 (refine RY.walkR_read ?_;simp only[Qg,dz_,Qd,tz_];go_big_quiet_step (fail);refine wpQuiet_nil ?_)
     clear hnon q0 q1;refine RY.walkR_move ?_;simp only[Qg,dz_,Qd,tz_]
     go_wp2_with fail
     refine cm_ (Hcall.out _ (HB.out.trans (I.out.mono hBs))) ?_;rintro e_ w2 ⟨rfl,hb_⟩;have D:Hid (Below wr.heap.size wr w2):=I.out.trans (hb_.mono I.out.size);have HR2:=hd_ (HR.out.below D.out nr_);have HB2:=hd_ (HB.out.trans (D.out.mono hBs));clear hb_ I D Hcall HR HB
     by_cases hneg:c (F (p+1)) (F p)<0
     ·have HI2:=hd_ (HI.out.swap Hc.out hneg);have HR3:=hd_ (HR2.out.swap p (by have:=HI.out.n;omega))
      have HB3:=hd_ ((HB2.out.setCell (p:=⟨g,p+1,none⟩) hB (.int .i64 (F p:Nat))).setCell (p:=⟨g,p,none⟩) hB (.int .i64 (F (p+1):Nat)));have k1:=HR2.out.cell (p+1) (by omega)
      have k0:=HR2.out.cell p (by omega)
      have f1:=HR2.out.fr (p+1);have f0:=HR2.out.fr p;generalize F (p+1)=x at *
      generalize F p=y at *
      generalize c x y=z at *
      go_wp2_with fail
      refine RY.walkR_any ?_;simp only[Qg,dz_,Qd,tz_]
      go_big_quiet_step (fail)
      refine wpQuiet_nil ?_;refine RY.walkR_move ?_;simp only[Qg,dz_,Qd,tz_]
      go_wp2_with fail
      simp only[RY.walkR]
      go_wp2_with fail
      go_region
      go_wp2
      go_roundw
      case rel=>exact⟨p,_,by omega,rfl,HI2.out,HR3.out.below (Below.refl _ _).drew nr_,HB3.out.drew⟩
      case measure=>simp[intOf]
     ·have HS2:=hd_ (HI.out.stop (.inr (by rw[Nat.add_sub_cancel];omega)))
      generalize F (p+1)=x at *
      generalize F p=y at *
      generalize c x y=z at *
      go_wp2_with fail
      refine RY.walkR_any ?_;simp only[Qg,dz_,Qd,tz_]
      go_big_quiet_step (fail)
      refine wpQuiet_nil ?_;refine RY.walkR_move ?_;simp only[Qg,dz_,Qd,tz_]
      go_wp2_with fail
      simp only[RY.walkR];go_wp2
      go_roundw
      case rel=>exact⟨i+1,F,by omega,by go_num,HS2.out,HR2.out,HB2.out⟩
      case measure=>simp[intOf];omega
  ·have hlt':¬ (i:Int)<n:=by omega
   go_wp2
   go_end0
   exact⟨rfl,F,⟨HS.out.lt,HS.out.inj,fun k hk=>HS.out.adj k (by omega)⟩,HR.out,HB.out⟩
theorem Qae:Zac Tryz.prog 30 3 (.int .i64 0) 1 8:=⟨Tryz.underlying30,info_parts Zyc,rfl,by decide⟩
structure Zmi (W:World) (ps:List Int) (g2 g3:Nat) (a0 al:Option Addr) (c0 cl:Nat) (LL:List (List Rat)):Prop where
 h2:W.heap[g2]?=some (.cells #[.slice a0 ps.length c0] 31 (0,0))
 h3:W.heap[g3]?=some (.cells #[.slice al LL.length cl] 54 (0,0))
 rp:Rd W a0 (Qw ps)
 rl:RdL W al (LL.map (List.map qs))
theorem Zmi.below{W W':World}{ps:List Int}{g2 g3:Nat}{a0 al:Option Addr}{c0 cl:Nat}{LL:List (List Rat)}(h:Zmi W ps g2 g3 a0 al c0 cl LL){D:Nat}(hb:Below D W W')(hD:W.heap.size≤D):Zmi W' ps g2 g3 a0 al c0 cl LL :=
 ⟨Kd h.h2 hb hD,Kd h.h3 hb hD,h.rp.below hb hD,h.rl.below hb hD⟩
structure Zjc (ps:List Int) (LL:List (List Rat)):Prop where
 p0:Qv ps=0
 pr:∀ p∈ps,2≤p∧p≤97
 pos:∀ p∈ps,0<p
 n:ps.length≤100
 len:∀ l∈LL,l.length=ps.length
 sm:∀ l∈LL,∀ q∈l,Sm 30 q
 good:∀ a∈LL,∀ b∈LL,Zf9 ps (Zs a b)
def cS (ps:List Int) (LL:List (List Rat)) (u v:Nat):Int:=if u<LL.length∧v<LL.length then LN.sz ps (Zs (LL.getD u []) (LL.getD v [])) else 0
theorem Kl{LL:List (List Rat)}{u:Nat}(h:u<LL.length):LL.getD u []∈LL:=by
 rw[List.getD_eq_getElem?_getD,List.getElem?_eq_getElem h];exact List.getElem_mem h
theorem Zxa{ps:List Int}{LL:List (List Rat)}(O:Zjc ps LL)(u v:Nat):cS ps LL v u = - cS ps LL u v:=by
 unfold cS
 by_cases h:u<LL.length∧v<LL.length
 ·rw[if_pos h,if_pos ⟨h.2,h.1⟩];exact Zgm O.pos ((O.len _ (Kl h.1)).trans (O.len _ (Kl h.2)).symm)
 ·rw[if_neg h,if_neg (fun h2=>h ⟨h2.2,h2.1⟩)];rfl
theorem Qbn{ps:List Int}{LL:List (List Rat)}(O:Zjc ps LL)(u v:Nat): -1≤cS ps LL u v∧cS ps LL u v≤1:=by
 unfold cS;split
 ·rcases Zb0 O.pos (Zs (LL.getD u []) (LL.getD v [])) with h | h | h<;>omega
 ·omega
theorem Zux(w:World)(ps:List Int)(g2 g3:Nat)(a0 al:Option Addr)(c0 cl:Nat)(LL:List (List Rat))(S:Zmi w ps g2 g3 a0 al c0 cl LL)(O:Zjc ps LL)(i j:Nat)(hi:i<LL.length)(hj:j<LL.length)(L:Qx w):
  Kc Tryz.prog 168 #[.int .i64 i,.int .i64 j,.pointer (some ⟨g2,0,none⟩),.pointer (some ⟨g3,0,none⟩)] w (.int .i64 (cS ps LL i j)):=by
 unfold Kc;have e:Zd ps.length [LL.getD i [],LL.getD j []] [1,-1]=Zs (LL.getD i []) (LL.getD j []):=by
  rw[Zc1 _ _ _ _ _ (O.len _ (Kl hi)) (O.len _ (Kl hj))];unfold Zs;rw[Zb3,Zfr]
 obtain⟨b,off,rfl,hb,hcells⟩:∃ b off,al=some ⟨b,off,none⟩∧b<w.heap.size∧∀ i,i<LL.length→∃ a' c',w.cell? ⟨b,off+i,none⟩=some (.slice a' ps.length c')∧Rd w a' (Kg (LL.getD i [])):=by
  rcases S.rl with h|⟨b,off,h1,h2,h3⟩
  ·have:=congrArg List.length h
   simp at this;rw[this] at hi;simp at hi
  ·refine⟨b,off,h1,h2,fun i hi=>?_⟩
   obtain⟨a',c',k1,k2⟩:=h3 i (by simpa using hi)
   have e:(LL.map (List.map qs)).getD i []=(LL.getD i []).map qs:=by
    rw[List.getD_eq_getElem?_getD,List.getD_eq_getElem?_getD,List.getElem?_map];cases LL[i]?<;>rfl
   rw[e] at k1 k2;rw[List.length_map,O.len _ (Kl hi)] at k1;exact⟨a',c',k1,k2⟩
 obtain⟨a1,c1,k1,r1⟩:=hcells i hi;obtain⟨a2,c2,k2,r2⟩:=hcells j hj;have HC:Hid (∀ W,Below w.heap.size w W→Kc Tryz.prog 81 #[.slice a0 ps.length c0,.slice a1 ps.length c1,.slice a2 ps.length c2] W (.int .i64 (cS ps LL i j))):=fun W hW=>by
  have h:=Zhn W ps a0 a1 a2 c0 c1 c2 30 _ _ ⟨S.rp.below hW nr_,r1.below hW nr_,O.len _ (Kl hi),O.n,O.pr,O.sm _ (Kl hi),by decide⟩ ⟨S.rp.below hW nr_,r2.below hW nr_,O.len _ (Kl hj),O.n,O.pr,O.sm _ (Kl hj),by decide⟩ (L.below hW) (by decide)
   (by rw[e];exact O.good _ (Kl hi) _ (Kl hj))
  rw[e,O.len _ (Kl hi),O.len _ (Kl hj)] at h;unfold cS;rw[if_pos ⟨hi,hj⟩];exact h
 have m2:=(Kp S.h2).1;have m3:=(Kp S.h3).1;have q1:=BW.cell k1;have q2:=BW.cell k2;have q3:=BW.cell m2;have q4:=BW.cell m3;have hnon:Nonempty (BW w):=⟨⟨w,Below.refl _ _⟩⟩;have I:Hid (Below w.heap.size w w.drew):=(Below.refl _ _).drew;have hi':(i:Int)<LL.length:=by omega
 have hj':(j:Int)<LL.length:=by omega
 clear S O L e hcells r1 r2 hb;generalize cS ps LL i j=z at *
 generalize LL.length=m at *
 generalize ps.length=n at *
 go_enter Tryz.func168,Tryz.ntmps168
 go_wp2_with fail
 clear k1 k2 m2 m3;refine RY.wp_region_readers 9 [(1,0),(1,1),(1,2),(1,3),(1,4),(1,5),(1,6),(1,7),(1,8),(0,9),(0,10)] (fun w'=>∃ p:BW w,w'=p.w) (by kernel_rfl) (by kernel_rfl) ?_ ?_
 ·exact⟨⟨_,I.out⟩,rfl⟩
 iterate 9 (refine RY.walkR_read ?_;simp only[Qg,dz_,Qd,tz_];go_big_quiet_step (fail);refine wpQuiet_nil ?_)
 clear hnon q1 q2 q3 q4;refine RY.walkR_move ?_;simp only[Qg,dz_,Qd,tz_]
 go_wp2_with fail
 refine cm_ (HC.out _ I.out) ?_;rintro e_ w2 ⟨rfl,hb_⟩;have B2:=hd_ (I.out.trans (hb_.mono I.out.size));clear hb_ I HC
 go_wp2_with fail
 refine RY.walkR_move ?_;simp only[Qg,dz_,Qd,tz_]
 go_wp2_with fail
 simp only[RY.walkR]
 go_wp2_with fail
 go_ret;exact⟨rfl,B2.out⟩
theorem Zpu(w:World)(B g n cap:Nat)(P2 P3:Value)(c:Nat→Nat→Int)(hc:∀ u v,c v u = - c u v)(hb:∀ u v,-1≤c u v∧c u v≤1)(hB:B≤g)(hn:n≤19)(hrow:Zkj w g n fun k=>k)
  (hcmp:∀ W,Below B w W→∀ i j:Nat,i<n→j<n→Kc Tryz.prog 168 #[.int .i64 i,.int .i64 j,P2,P3] W (.int .i64 (c i j))) :
  Calls Tryz.prog 167 #[.slice (some ⟨g,0,none⟩) n cap,.func (.func 168) #[] #[P2,P3]] w fun e w'=>e = .returned (.tuple #[])∧∃ F,Zpl c n F∧Zkj w' g n F∧Below B w w':=by
 have Hi:=hd_ (Zj6 w B g n cap P2 P3 c hc hb hB (by omega) hrow hcmp)
 clear hc hb hrow hcmp;have hn1:¬ (20:Int)≤n:=by omega
 have hn2:¬ (20:Int)<n:=by omega
 have H2:Hid (Calls Tryz.prog 233 #[.slice (some ⟨g,0,none⟩) n cap,.int .i64 n,.func (.func 168) #[] #[P2,P3]] w fun e w'=>e = .returned (.tuple #[])∧∃ F,Zpl c n F∧Zkj w' g n F∧Below B w w'):=by
  show Calls _ _ _ _ _
  go_enter Tryz.func233,Tryz.ntmps233
  go_wp2_with fail
  refine wp_loop_rounds 1 ?_;rw[rounds_succ]
  go_wp2_with fail
  refine cm_ Hi.out ?_;rintro e w1 ⟨rfl,F,hF,hR,hb⟩;have HF:=hd_ hF;have HR:=hd_ hR;have HB:=hd_ hb;clear hF hR hb Hi
  go_wp2_with fail
  refine wp_loop_rounds 1 ?_;rw[rounds_succ];go_wp2
  go_end0
  exact⟨rfl,F,HF.out,HR.out,HB.out⟩
 clear Hi;go_enter Tryz.func167,Tryz.ntmps167
 go_wp2_with fail
 refine cm_ H2.out ?_;rintro e w1 ⟨rfl,F,hF,hR,hb⟩;have HF:=hd_ hF;have HR:=hd_ hR;have HB:=hd_ hb;clear hF hR hb H2
 go_wp2_with fail
 go_end0
 exact⟨rfl,F,HF.out,HR.out,HB.out⟩
theorem Zpt(w:World)(P2 P3:Value):Calls Tryz.prog 167 #[.slice none 0 0,.func (.func 168) #[] #[P2,P3]] w fun e w'=>e = .returned (.tuple #[])∧w'=w:=by
 have H1:Hid (Calls Tryz.prog 284 #[.slice none 0 0,.int .i64 0,.int .i64 0,.func (.func 168) #[] #[P2,P3]] w fun e w'=>e = .returned (.tuple #[])∧w'=w):=by
  show Calls _ _ _ _ _
  go_enter Tryz.func284,Tryz.ntmps284
  go_wp2_with fail
  refine wp_loop_rounds 1 ?_;rw[rounds_succ];go_wp2
  go_end0
  exact⟨rfl,rfl⟩
 have H2:Hid (Calls Tryz.prog 233 #[.slice none 0 0,.int .i64 0,.func (.func 168) #[] #[P2,P3]] w fun e w'=>e = .returned (.tuple #[])∧w'=w):=by
  show Calls _ _ _ _ _
  go_enter Tryz.func233,Tryz.ntmps233
  go_wp2_with fail
  refine wp_loop_rounds 1 ?_;rw[rounds_succ]
  go_wp2_with fail
  refine cm_ H1.out ?_;rintro e w1 ⟨rfl,rfl⟩
  go_wp2_with fail
  refine wp_loop_rounds 1 ?_;rw[rounds_succ];go_wp2
  go_end0
  exact⟨rfl,rfl⟩
 clear H1;go_enter Tryz.func167,Tryz.ntmps167
 go_wp2_with fail
 refine cm_ H2.out ?_;rintro e w1 ⟨rfl,rfl⟩
 go_wp2_with fail
 go_end0
 exact⟨rfl,rfl⟩
theorem Zwq{N M D:Nat}{l:List Rat}(h:Sml N M l)(hM:0<M)(hN:N<10^D)(hD:M<10^D):∀ q∈l,Sm D q:=fun q hq=>by
 obtain⟨h1,h2⟩:=h q hq;have h3:=Nat.le_of_dvd hM h1;have h4:=Nat.div_pos h3 q.den_pos;refine⟨?_,?_⟩
 ·unfold LN.ex at h2;rw[Int.natAbs_mul,Int.natAbs_natCast] at h2;have:q.num.natAbs*1≤q.num.natAbs*(M/q.den):=Nat.mul_le_mul_left _ h4
  omega
 ·omega
def zrQ (n:Nat):List Rat:=List.replicate n 0
theorem Zez(n:Nat):(zrQ n).length=n:=by simp[zrQ]
theorem Zxg(n M:Nat):Sml 0 M (zrQ n):=fun q hq=>by
 obtain⟨_,rfl⟩:=List.mem_replicate.1 hq;refine⟨by show (1:Nat) ∣ M;exact Nat.one_dvd M,?_⟩
 rw[LN.ex_zero 0 rfl];decide
def psL (n:Nat) (D:List (List Rat)):Nat→List Rat
 | 0=>zrQ n
 | k+1=>Kx (psL n D k) (D.getD k []) 1 1
structure Zaa (ps:List Int) (N M:Nat) (D:List (List Rat)):Prop where
 p0:Qv ps=0
 h13:∀ p∈ps,2≤p∧p≤13
 small:∀ p∈ps,p∈Zw
 nd:ps.Nodup
 n4:ps.length≤100
 M0:0<M
 M1:M≤1000000
 N1:N≤1000000
 len:∀ d∈D,d.length=ps.length
 sml:∀ d∈D,Sml N M d
 pos:∀ d∈D,0<LN.sz ps d
 m1:0<D.length
 m14:D.length≤14
theorem Zaa.p{ps:List Int}{N M:Nat}{D:List (List Rat)}(h:Zaa ps N M D):∀ p∈ps,0<p:=Zak h.small
theorem Zaa.i64{ps:List Int}{N M:Nat}{D:List (List Rat)}(h:Zaa ps N M D):Zf3 ps:=fun x hx=>by have:=h.h13 x hx;omega
theorem Zaa.plen{ps:List Int}{N M:Nat}{D:List (List Rat)}(h:Zaa ps N M D):∀ k,k≤D.length→(psL ps.length D k).length=ps.length
 | 0,_=>Zez _
 | k+1,hk=>by
  have h1:=h.plen k (by omega)
  rw[psL,Qr _ _ _ _ (by rw[h1,h.len _ (Kl (by omega))]),h1]
theorem Zaa.psml{ps:List Int}{N M:Nat}{D:List (List Rat)}(h:Zaa ps N M D):∀ k,k≤D.length→Sml (N*k) M (psL ps.length D k)
 | 0,_=>(Zxg _ _).le (Nat.zero_le _)
 | k+1,hk=>by
  have h1:=h.psml k (by omega)
  have h2:=Sml.comb h.M0 h1 (h.sml _ (Kl (show k<D.length by omega))) 1 1
  rw[psL];refine(show Sml _ M _ from h2).le ?_
  rw[Nat.mul_succ];simp
theorem Zaa.psm{ps:List Int}{N M:Nat}{D:List (List Rat)}(h:Zaa ps N M D){k:Nat}(hk:k≤D.length):∀ q∈psL ps.length D k,Sm 30 q:=by
 have h1:=h.m14;have h2:N*k≤1000000*14:=Nat.mul_le_mul h.N1 (by omega)
 have h3:=h.M1;refine Zwq (D:=30) (h.psml k hk) h.M0 (Nat.lt_of_le_of_lt h2 (by decide)) (Nat.lt_of_le_of_lt h3 (by decide))
theorem Zaa.dsm{ps:List Int}{N M:Nat}{D:List (List Rat)}(h:Zaa ps N M D):∀ d∈D,∀ q∈d,Sm 30 q:=fun d hd=>by
 have h2:=h.N1;have h3:=h.M1;exact Zwq (D:=30) (h.sml d hd) h.M0 (Nat.lt_of_le_of_lt h2 (by decide)) (Nat.lt_of_le_of_lt h3 (by decide))
theorem Zsg{n:Nat}{D:List (List Rat)}{k:Nat}(h1:(psL n D k).length=n)(h2:(D.getD k []).length=n):Zs (psL n D (k+1)) (psL n D k)=D.getD k []:=by
 rw[psL];generalize psL n D k=a at *
 generalize D.getD k []=b at *
 have hc:(Kx a b 1 1).length=n:=by rw[Qr _ _ _ _ (by omega),h1]
 refine List.ext_getElem (by rw[Vb _ _ (by omega),hc,h2]) fun i i1 i2=>?_
 rw[Zce _ _ i (by omega) (by omega)]
 simp only[Kx,List.getElem_zipWith]
 grind
theorem Zaa.up{ps:List Int}{N M:Nat}{D:List (List Rat)}(h:Zaa ps N M D){k:Nat}(hk:k<D.length):LN.sz ps (Zs (psL ps.length D k) (psL ps.length D (k+1)))<0:=by
 rw[Zgm h.p ((h.plen (k+1) (by omega)).trans (h.plen k (by omega)).symm),Zsg (h.plen k (by omega)) (h.len _ (Kl hk))]
 have:=h.pos _ (Kl hk)
 omega
theorem Zaa.good{ps:List Int}{N M:Nat}{D:List (List Rat)}(h:Zaa ps N M D){k:Nat}(hk:k<D.length):Zf9 ps (Zs (psL ps.length D k) (psL ps.length D (k+1))):=by
 have h1:=h.m14;have h2:=Sml.comb h.M0 (h.psml k (by omega)) (h.psml (k+1) (by omega)) 1 (-1)
 refine Sml.good h.M0 h2 (Nat.le_trans ?_ (Zgz (show 56000000≤1000000000 by decide))) h.small h.nd
 have a1:N*k≤1000000*14:=Nat.mul_le_mul h.N1 (by omega)
 have a2:N*(k+1)≤1000000*14:=Nat.mul_le_mul h.N1 (by omega)
 simp;omega
theorem Zaa.sort{ps:List Int}{N M:Nat}{D:List (List Rat)}(h:Zaa ps N M D):Zjc ps D:=by
 refine⟨h.p0,fun p hp=>by have:=h.h13 p hp;omega,h.p,h.n4,h.len,h.dsm,fun a ha b hb=>?_⟩
 have h2:=Sml.comb h.M0 (h.sml a ha) (h.sml b hb) 1 (-1);refine Sml.good h.M0 h2 (Nat.le_trans ?_ (Zgz (show 2000000≤1000000000 by decide))) h.small h.nd
 have:=h.N1
 simp;omega
def Zzt (n:Nat) (D:List (List Rat)):List (List Rat):=(List.range D.length).map fun k=>psL n D (k+1)
structure Zdg (w:World) (ps:List Int) (a0 al:Option Addr) (D:List (List Rat)):Prop where
 rp:Rd w a0 (Qw ps)
 rl:∃ b off,al=some ⟨b,off,none⟩∧b<w.heap.size∧∀ k,k<D.length→∃ a' c',w.cell? ⟨b,off+k,none⟩=some (.slice a' ps.length c')∧Rd w a' (Kg (psL ps.length D (k+1)))
theorem Zdg.below{w w':World}{ps:List Int}{a0 al:Option Addr}{D:List (List Rat)}{B:Nat}(h:Zdg w ps a0 al D)(hb:Below B w w')(hB:w.heap.size≤B):Zdg w' ps a0 al D:=by
 obtain⟨b,off,h1,h2,h3⟩:=h.rl;refine⟨h.rp.below hb hB,b,off,h1,Nat.lt_of_lt_of_le h2 hb.size,fun k hk=>?_⟩
 obtain⟨a',c',k1,k2⟩:=h3 k hk;exact⟨a',c',(hb.cell (p:=⟨b,off+k,none⟩) (Nat.lt_of_lt_of_le h2 hB)).trans k1,k2.below hb hB⟩
end Go.Proofs.YtbielfplgbammaaGreatDoor

namespace Go.Proofs.YtbielfplgbammaaGreatDoor
open Go.ChangeShapes Go.WideShapes Go.ChangeAt Go.RowKit Go.Joins
section
variable {H:Type} {enc:TypeId×Value→H} {W:World}
end
end Go.Proofs.YtbielfplgbammaaGreatDoor

namespace Go.Proofs.YtbielfplgbammaaGreatDoor
open Go.RowKit
theorem Zsl{w:World}{B1 B2 s1 s2 n1 n2:Nat}{e1 e2:TypeId}{v1 v2:Value}{x1 x2:List Value}(h1:w.ownsRow B1 e1 s1 v1 n1 x1)(h2:w.ownsRow B2 e2 s2 v2 n2 x2)(hne:e1≠e2):
  ∀ k,v1.ownBlock=some k→v2.ownBlock≠some k:=by
 intro k hk hk2;rcases h1.2 with⟨rfl,_⟩|⟨g,cap,cur,rfl,_,hg,_⟩
 ·simp[Value.ownBlock] at hk
 ·rcases h2.2 with⟨rfl,_⟩ | ⟨g2,cap2,cur2,rfl,_,hg2,_⟩
  ·simp[Value.ownBlock] at hk2
  ·simp only[Value.ownBlock,Option.some.injEq] at hk hk2;subst hk;subst hk2;rw[hg] at hg2;simp only[Option.some.injEq,Obj.cells.injEq] at hg2;exact hne hg2.2.1
theorem Zh8:Zac Tryz.prog 54 35 (.slice none 0 0) 1 24:=⟨Tryz.underlying54,info_parts Qbi,rfl,by decide⟩
structure Zkl (w:World) (B:Nat) (b:Option Addr) (d:Nat) (n:Nat) (L:List (Option Addr×Nat)) (ls:List (List Rat)):Prop where
 len:L.length=ls.length
 row:w.ownsRow B 35 1 (.slice b L.length d) L.length (L.map fun x => .slice x.1 n x.2)
 each:∀ i (h1:i<L.length) (h2:i<ls.length),Zu w B L[i].1 L[i].2 ls[i]
 lens:∀ l∈ls,l.length=n
theorem Zkl.below{w w':World}{B d n:Nat}{b:Option Addr}{L:List (Option Addr×Nat)}{ls:List (List Rat)}(h:Zkl w B b d n L ls)(hb:Below w.heap.size w w'):Zkl w' B b d n L ls :=
 ⟨h.len,Vq h.row hb nr_,fun i h1 h2=>(h.each i h1 h2).below hb nr_,h.lens⟩
theorem Zkl.rdl{w:World}{B d n:Nat}{b:Option Addr}{L:List (Option Addr×Nat)}{ls:List (List Rat)}(h:Zkl w B b d n L ls):RdL w b (ls.map (List.map qs)):=by
 by_cases h0:ls=[]
 ·left;rw[h0];rfl
 ·have hpos:0<L.length:=by rw[h.len];exact List.length_pos_iff.2 h0
  obtain⟨g,cap,hv,h1,h2,h3,h4,h5⟩:=Qb h.row hpos;simp only[Value.slice.injEq] at hv;obtain⟨rfl,-,rfl⟩:=hv;refine .inr ⟨g,0,rfl,h2,fun i hi=>?_⟩
  rw[List.length_map] at hi;have hiL:i<L.length:=by rw[h.len];exact hi
  refine⟨L[i].1,L[i].2,?_,?_⟩
  ·rw[Nat.zero_add,h4 i (by omega),List.getElem?_map,List.getElem?_eq_getElem hiL,List.getD_eq_getElem?_getD,List.getElem?_map,List.getElem?_eq_getElem hi]
   simp only[Option.map_some,Option.getD_some,List.length_map];rw[h.lens _ (List.getElem_mem hi)]
  ·rw[List.getD_eq_getElem?_getD,List.getElem?_map,List.getElem?_eq_getElem hi];exact(h.each i hiL hi).rd
theorem Zdm(w:World)(ps:List Int)(N M:Nat)(D:List (List Rat))(a0 al:Option Addr)(c0 cl:Nat)(O:Zaa ps N M D)(A:Zdg w ps a0 al D)(L:Qx w):
  Kc Tryz.prog 26 #[.agg #[.slice a0 ps.length c0,.slice al D.length cl]] w (.int .i64 0):=by
 unfold Kc;have hn4:=O.n4;have HP:Hid (∀ W,Below w.heap.size w W→Kc Tryz.prog 76 #[.slice a0 ps.length c0] W (.int .i64 0)):=fun W hW=>by
  have:=Zq W a0 c0 ps (A.rp.below hW nr_) O.i64 (by omega)
  rw[O.p0] at this;exact this
 have HZ:Hid (∀ W,Below w.heap.size w W→Calls Tryz.prog 39 #[.slice a0 ps.length c0] W fun e w'=>∃ a c,e = .returned (.tuple #[.slice a ps.length c,.int .i64 0])∧Rd w' a (Kg (psL ps.length D 0))∧Below W.heap.size W w'):=fun W hW=>by
  have:=Zmn W a0 c0 ps (A.rp.below hW nr_) O.i64 (by omega) O.p0 (L.below hW)
  unfold Zci at this;rw[List.length_replicate] at this;refine cm_ this ?_;rintro e w' ⟨a,c,rfl,ho,hb⟩;exact⟨a,c,rfl,ho.rd,hb⟩
 have HC:Hid (∀ W k a c,Below w.heap.size w W→k<D.length→Rd W a (Kg (psL ps.length D (k+1)))→Kc Tryz.prog 78 #[.slice a0 ps.length c0,.slice a ps.length c] W (.int .i64 0)):=fun W k a c hW hk hr=>by
  have hl:=O.plen (k+1) (by omega)
  have:=Zd6 W a0 a c0 c ps ((psL ps.length D (k+1)).map qs) (A.rp.below hW nr_) O.i64 (by omega) hr (by rw[List.length_map,hl];omega) (Zd3 (O.psm (show k+1≤D.length by omega))) (L.below hW)
  rw[List.length_map,hl] at this;rw[show Zq5 ps ((psL ps.length D (k+1)).map qs)=0 by unfold Zq5;rw[if_pos O.p0,Zd8 (O.psm (show k+1≤D.length by omega)) hl]] at this
  exact this
 have HM:Hid (∀ W k a c a' c',Below w.heap.size w W→k<D.length→Rd W a (Kg (psL ps.length D k))→Rd W a' (Kg (psL ps.length D (k+1)))→Calls Tryz.prog 24 #[.slice a0 ps.length c0,.slice a ps.length c,.slice a' ps.length c'] W fun e w'=>∃ z:Int,z<0∧e = .returned (.tuple #[.int .i64 z,.int .i64 0])∧Below W.heap.size W w'):=fun W k a c a' c' hW hk r1 r2=>by
  have:=Ztx c0 c c' O.p0 O.h13 O.n4 (A.rp.below hW nr_) r1 r2 (O.plen k (by omega)) (O.plen (k+1) (by omega)) (O.psm (by omega)) (O.psm (by omega)) (O.good hk) (L.below hW)
  refine cm_ this ?_;rintro e w' ⟨rfl,hb⟩;exact⟨_,O.up hk,rfl,hb⟩
 have hm1:=O.m1;have hm14:=O.m14;obtain⟨b,off,rfl,hb,hcl⟩:=A.rl;have HA:=hd_ hcl;clear O A L hcl;generalize hS:psL ps.length D=S at *
 clear hS;generalize D.length=m at *
 generalize ps.length=n at *
 have hm0:((m:Int)==0)=false:=by rw[beq_eq_false_iff_ne];omega
 have hm60:¬ (60:Int)<m:=by omega
 have B0:=hd_ ((Below.refl w.heap.size w).alloc nr_ (.cells #[.slice a0 n c0,.slice (some ⟨b,off,none⟩) m cl] 62));have P0:=hd_ (Kq w #[.slice a0 n c0,.slice (some ⟨b,off,none⟩) m cl] 62 _ rfl);obtain⟨k0,k1,f0,f1⟩:=Ka P0.out;go_enter Tryz.func26,Tryz.ntmps26
 go_wp2_with fail
 generalize w.alloc (.cells #[.slice a0 n c0,.slice (some ⟨b,off,none⟩) m cl] 62)=w0 at *
 clear k0 k1 f0 f1;refine cm_ (HP.out _ B0.out) ?_;rintro e_ w1 ⟨rfl,hb_⟩;have B1:=hd_ (B0.out.trans (hb_.mono B0.out.size));have P1:=hd_ (Kd P0.out hb_ nr_);obtain⟨k0,k1,f0,f1⟩:=Ka P1.out;clear hb_ HP B0 P0
 go_wp2_with fail
 clear k0 k1 f0 f1;refine cm_ (HZ.out _ B1.out) ?_;rintro e_ w2 ⟨az,cz,rfl,hrz,hb_⟩;have B2:=hd_ (B1.out.trans (hb_.mono B1.out.size));have P2:=hd_ (Kd P1.out hb_ nr_);have RZq:=hd_ hrz;obtain⟨k0,k1,f0,f1⟩:=Ka P2.out;clear hb_ hrz HZ B1 P1
 go_wp2_with fail
 clear k0 k1 f0 f1
 go_loopw [4,36] (fun s z wr=>∃ (i:Nat) (a:Option Addr) (c:Nat),i≤m∧z = .int .i64 i∧s = .slice a n c∧Hid (Rd wr a (Kg (S i)))∧Hid (Below w2.heap.size w2 wr)) (fun _ z _=>m-(intOf z).toNat)
 case atStart=>exact⟨0,az,cz,Nat.zero_le _,rfl,rfl,RZq.out,Below.refl _ _⟩
 case round =>
  obtain⟨i,a,c,hi,rfl,rfl,HR,HB⟩:=hrel;clear RZq;have Bw:=hd_ (B2.out.trans (HB.out.mono B2.out.size));have Pw:=hd_ (Kd P2.out HB.out nr_);obtain⟨k0,k1,f0,f1⟩:=Ka Pw.out
  by_cases hlt:i<m
  ·have hlt':(i:Int)<m:=by omega
   obtain⟨a',c',k2,r2⟩:=HA.out i hlt;have k2':=(Bw.out.cell (p:=⟨b,off+i,none⟩) hb).trans k2;have R2:=hd_ (r2.below Bw.out nr_);have HC1:=hd_ (HC.out wr i a' c' Bw.out hlt R2.out);clear k2 r2
   go_wp2_with fail
   clear k0 k1 f0 f1 k2';refine cm_ HC1.out ?_;rintro e_ w3 ⟨rfl,hb_⟩;have B3:=hd_ (HB.out.trans (hb_.mono HB.out.size));have P3:=hd_ (Kd Pw.out hb_ nr_);have R2:=hd_ (R2.out.below hb_ nr_);have HR:=hd_ (HR.out.below hb_ nr_);have HM1:=hd_ (HM.out w3 i a c a' c' (B2.out.trans (B3.out.mono B2.out.size)) hlt HR.out R2.out);obtain⟨k0,k1,f0,f1⟩:=Ka P3.out;clear hb_ HC1 HB Pw HR Bw
   go_wp2_with fail
   clear k0 k1 f0 f1;refine cm_ HM1.out ?_;rintro e_ w4 ⟨z,hz,rfl,hb_⟩;have B4:=hd_ (B3.out.trans (hb_.mono B3.out.size));have R2:=hd_ (R2.out.below hb_ nr_);have hz':¬ (0≤z):=by omega
   clear hb_ HM1 B3 P3
   go_wp2_with fail
   go_roundw
   case rel=>exact⟨i+1,a',c',by omega,by go_num,rfl,R2,B4⟩
   case measure=>simp[intOf];omega
  ·have hlt':¬ (i:Int)<m:=by omega
   go_wp2_with fail
   go_ret;exact⟨rfl,Bw.out⟩
def idL (j:Nat):List Int:=(List.range j).map fun (k:Nat)=>(k:Int)
theorem Zqn(j:Nat):(idL j).length=j:=by simp[idL]
theorem Zvt(j:Nat):idL (j+1)=idL j++[(j:Int)]:=by simp[idL,List.range_succ]
theorem Zkj.rd{W:World}{g n:Nat}{F:Nat→Nat}(h:Zkj W g n F):Rd W (some ⟨g,0,none⟩) (Qw ((List.range n).map fun (k:Nat)=>((F k:Nat):Int))):=by
 refine .inr ⟨g,0,rfl,h.lt,fun i v hv=>?_⟩
 rw[Nat.zero_add];have hi:i<n:=by
  have:=(List.getElem?_eq_some_iff.1 hv).1
  simpa [Qm] using this
 rw[Vl _ i (by simpa using hi)] at hv
 cases hv
 rw[h.cell i hi];simp
theorem Zy3(w:World)(ps:List Int)(a0 al:Option Addr)(c0 cl:Nat)(LL:List (List Rat))(rp:Rd w a0 (Qw ps))(rl:RdL w al (LL.map (List.map qs)))(O:Zjc ps LL)(hm:LL.length≤19)(L:Qx w):
  Calls Tryz.prog 85 #[.slice a0 ps.length c0,.slice al LL.length cl] w fun e w'=>∃ a c F,e = .returned (.tuple #[.slice a LL.length c,.int .i64 0])∧Zpl (cS ps LL) LL.length F∧Rd w' a (Qw ((List.range LL.length).map fun (k:Nat)=>((F k:Nat):Int)))∧Below w.heap.size w w':=by
 have hn:=O.n;have hi:Zf3 ps:=fun x hx=>by have:=O.pr x hx;omega
 have Hc:Hid (∀ W,Below w.heap.size w W→Kc Tryz.prog 20 #[.slice a0 ps.length c0,.slice al LL.length cl] W (.int .i64 0)):=fun W hW=>by
  have h:=Yc W a0 al c0 cl ps (LL.map (List.map qs)) (rp.below hW nr_) hi (by omega) (rl.below hW nr_) (by rw[List.length_map];omega) (fun l hl=>by
   obtain⟨x,hx,rfl⟩:=List.mem_map.1 hl;exact⟨by rw[List.length_map,O.len x hx];omega,Zd3 (O.sm x hx)⟩) (L.below hW)
  rw[Zej O.p0 fun l hl=>⟨O.len l hl,O.sm l hl⟩,List.length_map] at h
  exact h
 have HL:=hd_ L;have HO:=hd_ O;have Hrp:=hd_ rp;have Hrl:=hd_ rl;clear L O rp rl hi;have B0:=hd_ ((((Below.refl w.heap.size w).alloc nr_ (.cells #[.slice a0 ps.length c0] 31)).alloc (by simp) (.cells #[.slice al LL.length cl] 54)))
 have K2:=hd_ (Ks (Kq w #[.slice a0 ps.length c0] 31 _ rfl) (.cells #[.slice al LL.length cl] 54));have K3:=hd_ (Kq (w.alloc (.cells #[.slice a0 ps.length c0] 31)) #[.slice al LL.length cl] 54 (w.heap.size+1) (by simp))
 have S0:Hid (Zmi ((w.alloc (.cells #[.slice a0 ps.length c0] 31)).alloc (.cells #[.slice al LL.length cl] 54)) ps w.heap.size (w.heap.size+1) a0 al c0 cl LL) :=
  ⟨K2.out,K3.out,Hrp.out.below B0.out nr_,Hrl.out.below B0.out nr_⟩
 clear K2 K3 Hrp Hrl;have m2:=(Kp S0.out.h2).1;have m3:=(Kp S0.out.h3).1;obtain⟨m,hmm⟩:∃ m,LL.length=m:=⟨_,rfl⟩;obtain⟨n,hnn⟩:∃ n,ps.length=n:=⟨_,rfl⟩;rw[hmm] at hm;simp only[hmm,hnn] at Hc B0 S0 m2 m3 ⊢;have Hm:=hd_ hmm;clear hmm hnn hn;go_enter Tryz.func85,Tryz.ntmps85
 go_wp2_with fail
 generalize (w.alloc (.cells #[.slice a0 n c0] 31)).alloc (.cells #[.slice al m cl] 54)=w0 at *
 clear m2 m3;refine cm_ (Hc.out _ B0.out) ?_;rintro e w2 ⟨rfl,hb⟩;have B2:=hd_ (B0.out.trans (hb.mono B0.out.size));have S2:=hd_ (S0.out.below hb nr_);clear hb B0 S0 Hc;have m3:=(Kp S2.out.h3).1;rw[Hm.out] at m3
 go_wp2_with fail
 clear m3
 go_loopw [7,17] (fun o z wr=>∃ (j:Nat) (a:Option Addr) (c:Nat),j≤m∧z = .int .i64 j∧o = .slice a j c∧Hid (j=0→a=none∧c=0)∧Hid (wr.ownsRow w2.heap.size 3 1 (.slice a j c) j (Qw (idL j)))∧Hid (Below w2.heap.size w2 wr)) (fun _ z _=>m-(intOf z).toNat)
 case atStart=>exact⟨0,none,0,Nat.zero_le _,rfl,rfl,fun _=>⟨rfl,rfl⟩,World.ownsRow_nil ..,Below.refl _ _⟩
 case round =>
  obtain⟨j,a,c,hj,rfl,rfl,HN,HR,HB⟩:=hrel
  by_cases hlt:j<m
  ·have hlt':(j:Int)<m:=by omega
   go_wp2_with (at_builtin;refine Km rfl (.tmp 20) (.tmp 22) 30 rfl Qae _ 1 [.int .i64 j] rfl rfl HR.out HB.out.size rfl ?c1 (by omega) (by omega) ?_)
   case c1=>first | rfl | (intro u hu;obtain rfl:=List.mem_singleton.1 hu;rfl)
   intro v' w3 hown3 hg3 _;obtain⟨a3,c3,rfl⟩:=Ky hown3;have HB3:Hid (Below w2.heap.size w2 w3):=(HB.out.alloc HB.out.size _).grown hg3 (by have:=HB.out.size;simp;omega) (fun k hk=>(HR.out.lt k hk).1)
   have HR3:Hid (w3.ownsRow w2.heap.size 3 1 (.slice a3 (j+1) c3) (j+1) (Qw (idL (j+1)))):=by
    rw[Zvt,Zdr];exact hown3
   clear hown3 hg3 HB HR HN;go_wp2
   go_roundw
   case rel=>exact⟨j+1,a3,c3,by omega,by go_num,rfl,fun h=>by omega,HR3,HB3⟩
   case measure=>simp[intOf];omega
  ·have hlt':¬ (j:Int)<m:=by omega
   obtain rfl:j=m:=by omega
   have SR:=hd_ (S2.out.below HB.out nr_);rcases Nat.eq_zero_or_pos j with h0|h0
   ·subst h0;obtain⟨rfl,rfl⟩:=HN.out rfl;have Hs:=hd_ (Zpt wr (.pointer (some ⟨w.heap.size,0,none⟩)) (.pointer (some ⟨w.heap.size+1,0,none⟩)));clear HN HR
    go_wp2_with fail
    refine cm_ Hs.out ?_;rintro e w4 ⟨rfl,rfl⟩;clear Hs
    go_wp2_with fail
    go_ret2
    exact⟨none,0,fun k=>k,rfl,⟨fun k hk=>absurd hk (Nat.not_lt_zero _),fun k _ hk=>absurd hk (Nat.not_lt_zero _),fun k hk=>absurd hk (Nat.not_lt_zero _)⟩,.inl rfl,B2.out.trans (HB.out.mono B2.out.size)⟩
   ·obtain⟨g,cap,hv,hg1,hg2,hg3,hg4,hg5⟩:=Qb HR.out h0;obtain⟨rfl,rfl⟩:a=some ⟨g,0,none⟩∧c=cap:=by
     simp only[Value.slice.injEq] at hv;exact⟨hv.1,hv.2.2⟩
    have hrow:Zkj wr g j fun k=>k:=⟨hg2,fun k hk=>by
     rw[hg4 k (by omega),Vl _ k (by rw[Zqn];exact hk)]
     simp[idL],hg5⟩
    have Hs:=hd_ (Zpu wr w2.heap.size g j c (.pointer (some ⟨w.heap.size,0,none⟩)) (.pointer (some ⟨w.heap.size+1,0,none⟩)) (cS ps LL) (Zxa HO.out) (Qbn HO.out) hg1 hm hrow fun W hW i k hi hk =>
     Zux W ps _ _ a0 al c0 cl LL (S2.out.below (HB.out.trans hW) nr_) HO.out i k (by rw[Hm.out];exact hi) (by rw[Hm.out];exact hk) (HL.out.below ((B2.out.trans (HB.out.mono B2.out.size)).trans (hW.mono B2.out.size))))
    clear HN HR hv hg1 hg2 hg3 hg4 hg5 hrow
    go_wp2_with fail
    refine cm_ Hs.out ?_;rintro e w4 ⟨rfl,F,hF,hR,hb⟩;have HF:=hd_ hF;have HR:=hd_ hR;have HB4:=hd_ (HB.out.trans hb);clear Hs hF hR hb
    go_wp2_with fail
    go_ret2
    exact⟨some ⟨g,0,none⟩,c,F,rfl,HF.out,HR.out.rd,B2.out.trans (HB4.out.mono B2.out.size)⟩
def Zdk (W:World) (g:Nat) (t:TypeId) (D:List UInt8):Prop:=W.rowIs g t D.length (fun i => .int .u8 ((D.getD i 0).toNat:Nat))
theorem Zdk.cell{W:World}{g:Nat}{t:TypeId}{D:List UInt8}(h:Zdk W g t D){i:Nat}(hi:i<D.length):W.cell? ⟨g,i,none⟩=some (.int .u8 ((D.getD i 0).toNat:Nat)):=World.rowIs.cell h hi
theorem Zdk.frozen{W:World}{g:Nat}{t:TypeId}{D:List UInt8}(h:Zdk W g t D)(i:Nat):W.frozen? ⟨g,i,none⟩=false:=World.rowIs.frozen h i
theorem Zdk.set{W:World}{g:Nat}{t:TypeId}{D:List UInt8}(h:Zdk W g t D)(i x:Nat)(hx:x<256):Zdk (W.setCell ⟨g,i,none⟩ (.int .u8 (x:Nat))) g t (D.set i (UInt8.ofNat x)):=by
 unfold Zdk;rw[List.length_set];refine(World.rowIs.set h i _).congr fun j hj=>?_
 by_cases e:j=i
 ·subst e;rw[if_pos rfl];simp only[List.getD_eq_getElem?_getD,List.getElem?_set];simp only[if_true,if_pos hj,Option.getD_some];simp[Nat.mod_eq_of_lt hx]
 ·rw[if_neg e];simp only[List.getD_eq_getElem?_getD,List.getElem?_set];rw[if_neg (fun h=>e h.symm)]
theorem Zdk.text{W:World}{g:Nat}{t src dst e:TypeId}{D:List UInt8}(h:Zdk W g t D)(k n c:Nat)(hn:k+n=D.length)
  (hs:Tryz.prog.underlying src=some (.slice e)) (he:Tryz.prog.underlying e=some (.int .u8)) (hd:Tryz.prog.underlying dst=some .string) :
  (convert src dst (.slice (some ⟨g,k,none⟩) n c)).run Tryz.prog W = .ok (.string ⟨(D.drop k).toArray⟩) W:=by
 have hl:(D.drop k).length=n:=by simp;omega
 rw[← hl];refine run_convert_bytes_back W src dst e ⟨g,k,none⟩ c (D.drop k) hs he hd fun j hj=>?_
 rw[Lib.add_plain];rw[Zdk.cell h (by omega)]
 rw[List.getD_eq_getElem?_getD,List.getElem?_eq_getElem (by omega)]
 simp
def jn (L:List ByteArray):ByteArray:=⟨(Lib.join (L.map (·.data.toList)) [32]).toArray⟩
theorem Zdc.reverse{l:List UInt8}(h:Zdc l):Zdc l.reverse:=fun c hc=>h c (List.mem_reverse.1 hc)
structure JAt (w:World) (n:Nat) (T:List UInt8) (wr:World):Prop where
 row:∃ D,Zdk wr w.heap.size 5 D∧D.length=9*n+1∧(D.getD 0 0).toNat=48∧D.drop (9*n+1-T.length)=T
 bel:Below w.heap.size w wr
theorem JAt.set{w wr:World}{n:Nat}{T:List UInt8}(h:JAt w n T wr)(m x:Nat)(hm:m+T.length=9*n)(hm0:0<m)(hx:x<256):JAt w n (UInt8.ofNat x::T) (wr.setCell ⟨w.heap.size,m,none⟩ (.int .u8 (x:Nat))):=by
 obtain⟨D,h1,h2,h3,h4⟩:=h.row;refine⟨⟨D.set m (UInt8.ofNat x),h1.set m x hx,by rw[List.length_set];exact h2,?_,?_⟩,h.bel.setCell nr_ _⟩
 ·rw[List.getD_eq_getElem?_getD,List.getElem?_set_ne (by omega),← List.getD_eq_getElem?_getD];exact h3
 ·have e:9*n+1-(UInt8.ofNat x::T).length=m:=by simp;omega
  rw[e,List.drop_eq_getElem_cons (by simp;omega),List.getElem_set_self,List.drop_set,if_pos (by omega)]
  congr 1;rw[← h4];congr 1;omega
theorem JAt.cell{w wr:World}{n:Nat}{T:List UInt8}(h:JAt w n T wr)(m:Nat)(hm:m≤9*n):(∃ x:Nat,wr.cell? ⟨w.heap.size,m,none⟩=some (.int .u8 x))∧wr.frozen? ⟨w.heap.size,m,none⟩=false:=by
 obtain⟨D,h1,h2,_,_⟩:=h.row;exact⟨⟨_,h1.cell (by omega)⟩,h1.frozen m⟩
theorem JAt.done{w wr:World}{n:Nat}{T:List UInt8}(h:JAt w n T wr)(hT:T.length=9*n)(hd:Zdc T):∃ D,Zdk wr w.heap.size 5 D∧D.length=9*n+1∧Zdc D∧Vt D=Vt T:=by
 obtain⟨D,h1,h2,h3,h4⟩:=h.row;have e:9*n+1-T.length=1:=by omega
 rw[e] at h4
 match D,h2,h3,h4 with
 | c::D,h2,h3,h4 =>
  obtain rfl:D=T:=by simpa using h4
  have hc:c.toNat=48:=by simpa using h3
  refine⟨_,h1,h2,fun y hy=>?_,?_⟩
  ·rcases List.mem_cons.1 hy with rfl | hy
   ·omega
   ·exact hd y hy
  ·rw[Zav,hc];simp
end Go.Proofs.YtbielfplgbammaaGreatDoor

namespace Go.Proofs.YtbielfplgbammaaGreatDoor.LN
def upP:List Int→List Int→Nat
 | p::ps,k::ks=>p.toNat^k.toNat*upP ps ks
 | _,_=>1
theorem upP_snoc:∀ (ps ks:List Int) (p k:Int),ps.length=ks.length→upP (ps++[p]) (ks++[k])=upP ps ks*p.toNat^k.toNat
 | [],[],p,k,_=>by simp[upP]
 | q::ps,m::ks,p,k,h=>by
  have ih:=upP_snoc ps ks p k (by simpa using h)
  simp only[List.cons_append,upP];rw[ih,Nat.mul_assoc]
theorem upP_le(K:Nat):∀ (ps ks:List Int),(∀ p∈ps,2≤p∧p≤97)→(∀ k∈ks,k≤(K:Int))→upP ps ks<10^(2*K*ps.length+1)
 | [],_,_,_=>by simp[upP]
 | _::_,[],_,_=>by
  simp only[upP];exact Nat.one_lt_pow (by omega) (by decide)
 | p::ps,k::ks,h,h2=>by
  have ih:=upP_le K ps ks (fun q hq=>h q (List.mem_cons_of_mem _ hq)) fun q hq=>h2 q (List.mem_cons_of_mem _ hq)
  obtain⟨a,b⟩:=h p List.mem_cons_self;have hk:=h2 k List.mem_cons_self;simp only[upP];have h3:p.toNat^k.toNat≤100^k.toNat:=Nat.pow_le_pow_left (by omega) _
  have h4:100^k.toNat≤100^K:=Nat.pow_le_pow_right (by decide) (by omega)
  have h5:(100:Nat)^K=10^(2*K):=by rw[show (100:Nat)=10^2 from rfl,← Nat.pow_mul]
  rw[h5] at h4;have e:10^(2*K*(p::ps).length+1)=10^(2*K)*10^(2*K*ps.length+1):=by rw[← Nat.pow_add];congr 1;rw[List.length_cons,Nat.mul_add];omega
  rw[e];exact Nat.mul_lt_mul_of_le_of_lt (Nat.le_trans h3 h4) ih (Nat.pow_pos (by decide))
end Go.Proofs.YtbielfplgbammaaGreatDoor.LN

namespace Go.Proofs.YtbielfplgbammaaGreatDoor
open Go.RowKit
structure Qau (ps ks:List Int) (k u d:Nat):Prop where
 up:u=LN.upP (ps.take k) (ks.take k)
 dn:d=LN.upP (ps.take k) ((ks.map fun z => -z).take k)
 le:∀ z∈ks.take k,z≤500 ∧ -500≤z
theorem Zcr{α:Type}(l:List α)(k:Nat)(h:k<l.length):l.take (k+1)=l.take k++[l[k]]:=List.take_succ_eq_append_getElem h
theorem Qau.next{ps ks:List Int}{k u d:Nat}(h:Qau ps ks k u d)(h1:k<ps.length)(hk:k<ks.length)(hz:ks[k]≤500 ∧ -500≤ks[k]):
  Qau ps ks (k+1) (u*ps[k].toNat^ks[k].toNat) (d*ps[k].toNat^(-ks[k]).toNat):=by
 refine⟨?_,?_,?_⟩
 ·rw[Zcr ps k h1,Zcr ks k hk,LN.upP_snoc _ _ _ _ (by simp;omega),← h.up]
 ·have hk2:k<(ks.map fun z => -z).length:=by simpa using hk
  rw[Zcr ps k h1,Zcr _ k hk2,LN.upP_snoc _ _ _ _ (by simp;omega),← h.dn,List.getElem_map]
 ·intro z hz2;rw[Zcr ks k hk] at hz2;rcases List.mem_append.1 hz2 with h3|h3
  ·exact h.le z h3
  ·obtain rfl:=List.mem_singleton.1 h3;exact hz
theorem Qau.num{ps ks:List Int}{k u d:Nat}(h:Qau ps ks k u d)(hp:∀ p∈ps,2≤p∧p≤97)(hn:ps.length≤100):Num u∧Num d:=by
 have hl:(ps.take k).length≤100:=by simp;omega
 have hb:2*500*(ps.take k).length+1≤1000000:=by omega
 have hp':∀ p∈ps.take k,2≤p∧p≤97:=fun p hp1=>hp p (List.mem_of_mem_take hp1)
 refine⟨?_,?_⟩
 ·rw[h.up];exact Qn (LN.upP_le 500 _ _ hp' fun z hz=>by have:=h.le z hz;omega) (by omega) hb
 ·rw[h.dn];refine Qn (LN.upP_le 500 _ _ hp' fun z hz=>?_) (by omega) hb
  rw[← List.map_take] at hz;obtain⟨y,hy,rfl⟩:=List.mem_map.1 hz;have:=h.le y hy
  omega
end Go.Proofs.YtbielfplgbammaaGreatDoor

namespace Go.Proofs.YtbielfplgbammaaGreatDoor
open Go.RowKit Go.Proofs.YtbielfplgbammaaGreatDoor.RY
theorem Zpk(w:World)(ps:List Int)(a0 a1:Option Addr)(c0 c1:Nat)(la:List Rat)(A:Zf w ps a0 a1 la 30)(hp:Qv ps=0)(g:Zf9 ps la)(L:Qx w):
  Kc Tryz.prog 23 #[.slice a0 ps.length c0,.slice a1 ps.length c1] w (.tuple #[.int .i64 (LN.sz ps la),.int .i64 0]):=by
 unfold Kc;have hn:=A.n;have Hc:Hid (Kc Tryz.prog 78 #[.slice a0 ps.length c0,.slice a1 ps.length c1] w (.int .i64 0)):=by
  have:=Zd6 w a0 a1 c0 c1 ps (la.map qs) A.rp A.i64 (by omega) A.rl (by rw[List.length_map,A.len];omega) (Zd3 A.sm) L
  rw[List.length_map,A.len] at this;unfold Zq5 at this;rw[if_pos hp,Zd8 A.sm A.len] at this;exact this
 have Ht:Hid (∀ W,Below w.heap.size w W→Calls Tryz.prog 79 #[.slice a0 ps.length c0,.slice a1 ps.length c1] W fun e w'=>∃ b1 d1 b2 d2,e = .returned (.agg (Qe b1 d1 b2 d2 (tlQ ps la).length (Qu la)))∧Zbj w' (tlQ ps la) b1 b2∧Below W.heap.size W w'):=fun W hW=>by
  have:=Zoc (c0:=c0) (c:=c1) (A.below hW) (L.below hW)
  rw[A.len] at this;exact this
 have Hs:Hid (∀ W b1 b2 d1 d2,Zbj W (tlQ ps la) b1 b2→Below w.heap.size w W→Kc Tryz.prog 80 #[.agg (Qe b1 d1 b2 d2 (tlQ ps la).length (Qu la))] W (.int .i64 (LN.sz ps la))):=fun W b1 b2 d1 d2 T hW =>
  Zog W b1 b2 d1 d2 _ 101 _ T g.trt (by decide) g.lt (g.dec hn) (L.below hW)
 clear A hp g L hn;generalize LN.sz ps la=r at *
 generalize ps.length=n at *
 go_enter Tryz.func23,Tryz.ntmps23
 go_wp2_with fail
 refine cm_ Hc.out ?_;rintro e w1 ⟨rfl,hb⟩;have B1:=hd_ hb;clear hb Hc
 go_wp2_with fail
 refine cm_ (Ht.out _ B1.out) ?_;rintro e w2 ⟨b1,d1,b2,d2,rfl,T,hb⟩;have B2:=hd_ (B1.out.trans (hb.mono B1.out.size));have Hs2:=hd_ (Hs.out w2 b1 b2 d1 d2 T B2.out);clear hb Ht T Hs
 go_wp2_with fail
 refine cm_ Hs2.out ?_;rintro e w3 ⟨rfl,hb⟩;have B3:=hd_ (B2.out.trans (hb.mono B2.out.size));clear hb Hs2
 go_wp2_with fail
 go_ret2
 exact⟨rfl,B3.out⟩
end Go.Proofs.YtbielfplgbammaaGreatDoor

namespace Go.Proofs.YtbielfplgbammaaGreatDoor
open Go.RowKit
end Go.Proofs.YtbielfplgbammaaGreatDoor

namespace Go.Proofs.YtbielfplgbammaaGreatDoor
open Go.RowKit Go.Proofs.YtbielfplgbammaaGreatDoor.RY
theorem Zkl.put{w1 w3:World}{B d n c:Nat}{b a:Option Addr}{L:List (Option Addr×Nat)}{ls:List (List Rat)}{l:List Rat}{v':Value}(h:Zkl w1 B b d n L ls)(ho:Zu w1 B a c l)(hl:l.length=n)
  (hown:w3.ownsRow B 35 1 v' (L.length+1) ((L.map fun x=>Value.slice x.1 n x.2)++[.slice a n c])) (hg:(w1.alloc (.cells #[.slice a n c] 35)).grownBy w3 (Value.slice b L.length d).ownBlock) :
  ∃ b' d',v' = .slice b' (L.length+1) d'∧Zkl w3 B b' d' n (L++[(a,c)]) (ls++[l]):=by
 obtain⟨b',d',rfl⟩:=Ky hown;have hA:Below w1.heap.size w1 (w1.alloc (.cells #[.slice a n c] 35)):=(Below.refl _ _).alloc nr_ _;have hrow:=Vq h.row hA nr_;have keep:∀ (a2:Option Addr) (c2:Nat) (l2:List Rat),Zu w1 B a2 c2 l2→Zu w3 B a2 c2 l2:=fun a2 c2 l2 h2=>by
  have h3:=Zop (h2.below hA nr_);refine Zoo (World.ownsRow.kept h3 hg ?_);have hap:=Zsl hrow h3 (by decide)
  cases hv:(Value.slice b L.length d).ownBlock with
  | none=>cases hv2:(Value.slice a2 l2.length c2).ownBlock<;>simp
  | some k=>exact .inr (hap k hv)
 refine⟨b',d',rfl,?_,?_,?_,?_⟩
 ·simp[h.len]
 ·rw[List.length_append,List.map_append];exact hown
 ·intro i h1 h2
  by_cases hi:i<L.length
  ·have hi2:i<ls.length:=by rw[← h.len];exact hi
   rw[List.getElem_append_left hi2];simp only[List.getElem_append_left hi];exact keep _ _ _ (h.each i hi hi2)
  ·have e:i=L.length:=by simp at h1;omega
   subst e;rw[List.getElem_append_right (by rw[h.len];exact Nat.le_refl _)]
   simp only[List.getElem_append_right nr_,h.len,Nat.sub_self,List.getElem_cons_zero];exact keep _ _ _ ho
 ·intro m hm;rcases List.mem_append.1 hm with hm|hm
  ·exact h.lens m hm
  ·rw[List.mem_singleton.1 hm];exact hl
theorem Zk9{W:World}{al:Option Addr}{LL:List (List Rat)}{n:Nat}(h:RdL W al (LL.map (List.map qs)))(hlen:∀ l∈LL,l.length=n)(h0:0<LL.length):
  ∃ b off,al=some ⟨b,off,none⟩∧b<W.heap.size∧∀ i,i<LL.length→∃ a' c',W.cell? ⟨b,off+i,none⟩=some (.slice a' n c')∧Rd W a' (Kg (LL.getD i [])):=by
 rcases h with h|⟨b,off,h1,h2,h3⟩
 ·have:=congrArg List.length h
  simp at this;rw[this] at h0;simp at h0
 ·refine⟨b,off,h1,h2,fun i hi=>?_⟩
  obtain⟨a',c',k1,k2⟩:=h3 i (by simpa using hi)
  have e:(LL.map (List.map qs)).getD i []=(LL.getD i []).map qs:=by
   rw[List.getD_eq_getElem?_getD,List.getD_eq_getElem?_getD,List.getElem?_map];cases LL[i]?<;>rfl
  rw[e] at k1 k2;rw[List.length_map,hlen _ (Kl hi)] at k1;exact⟨a',c',k1,k2⟩
end Go.Proofs.YtbielfplgbammaaGreatDoor

namespace Go.Proofs.YtbielfplgbammaaGreatDoor
open Go.RowKit
theorem Zsf(w:World)(a:Option Addr)(c:Nat)(l:List Rat)(hr:Rd w a (Kg l))(hl:l.length≤1000)(h0:0<l.length):
  Calls Tryz.prog 166 #[.slice a l.length c] w fun e w'=>∃ a d,e = .returned (.slice a l.length d)∧Zu w' w.heap.size a d l∧Below w.heap.size w w':=by
 obtain⟨i0,hi,hz0,hz1,hz2⟩:=info_parts Zyb;have q22:∀ (w:World) (a:Option Addr) (n c n' c':Nat),(binOp .eql 35 (.slice a n c) (.slice none n' c')).run Tryz.prog w = .ok (.bool a.isNone) w:=fun w a n c n' c'=>Lib.run_eql_slice_nil w _ _ a n c n' c' Tryz.underlying35
 have hlen:(Kg l).length=l.length*2:=Yy l;obtain⟨b,o,rfl,hb',hc0⟩:=hr.open (by rw[hlen];omega)
 have Hc:Hid (∀ j u,(Kg l)[j]?=some u→w.cell? ⟨b,o+j,none⟩=some u):=hc0;have Hone:Hid (∀ u∈Kg l,u.oneCell'=true):=fun u hu=>by
  unfold Kg Qf at hu;obtain⟨x,_,hx⟩:=List.mem_flatMap.1 hu;simp only[List.mem_cons,List.not_mem_nil,or_false] at hx;rcases hx with rfl|rfl<;>rfl
 have Hlen:Hid ((Kg l).length=l.length*2):=hlen;clear hc0 hr hlen;unfold Zu Zhy;rw[List.length_map];have e:Qf (l.map qs)=Kg l:=rfl;rw[e];clear e;generalize Kg l=vs at *
 generalize l.length=n at *
 go_enter Tryz.func166,Tryz.ntmps166
 go_wp2_with (at_builtin;refine wpList_append_own _ rfl _ _ 35 rfl w.heap.size 101 i0 (.agg #[.string ⟨#[]⟩,.string ⟨#[]⟩]) 2 32 Tryz.underlying35 hi hz0 hz1 hz2 rfl (by decide) _ _ _ rfl (World.ownsRow_made w #[] 0 nr_ (Nat.zero_le _) rfl) ⟨b,o,none⟩ n c vs rfl ?qc1 ?qc2 ?qc3 ?qc4 ?qc5 ?qc6 ?_)
 case qc1=>rw[Hlen.out]
 case qc2 =>
  intro j u hj;rw[Addr.add_lit];exact Lib.cell?_alloc_some _ (Hc.out j u hj)
 case qc3=>exact Hone.out
 case qc4=>unfold maxLen;omega
 case qc5=>omega
 case qc6=>simp
 intro v' w1 hown hgrow hnil;obtain⟨a3,d3,rfl⟩:=Ky hown;have hown':w1.ownsRow w.heap.size 101 2 (.slice a3 n d3) n vs:=by simpa using hown
 have B:=hd_ (((Below.refl _ w).alloc nr_ (.cells #[] 101)).grown hgrow (by simp) (by intro k hk;simp[Value.ownBlock] at hk;omega))
 have O:=hd_ hown';clear hown hown' hgrow hnil
 go_wp2_with fail
 go_ret;exact⟨a3,d3,rfl,O.out,B.out⟩
theorem Zxn{W:World}{ps:List Int}{a0 a1 a2:Option Addr}(c0 c1 c2:Nat){la lb:List Rat}(hp:Qv ps=0)(hi:Zf3 ps)(rp:Rd W a0 (Qw ps))(r1:Rd W a1 (Kg la))(r2:Rd W a2 (Kg lb))
  (l1:la.length=ps.length) (l2:lb.length=ps.length) (s1:∀ q∈la,Sm 30 q) (s2:∀ q∈lb,Sm 30 q) (s3:∀ q∈Zs la lb,Sm 30 q) (L:Qx W) :
  Calls Tryz.prog 16 #[.slice a0 ps.length c0,.slice a1 ps.length c1,.slice a2 ps.length c2] W fun e w'=>∃ a c,e = .returned (.tuple #[.slice a ps.length c,.int .i64 0])∧Rd w' a (Kg (Zs la lb))∧Below W.heap.size W w':=by
 have e:Zd ps.length [la,lb] [1,(((-1):Int):Rat)]=Zs la lb:=by
  rw[Zc1 _ _ _ _ _ l1 l2];unfold Zs;rw[Zb3]
 have h:=Zr1 W ps a0 a1 a2 c0 c1 c2 la lb rp hi hp r1 r2 l1 l2 s1 s2 L;rw[e] at h;have hs:Zh (Zs la lb)=0:=by
  unfold Zh;rw[if_pos (Zdl s3 (by decide))]
 unfold Zc at h;rw[hs,Vb _ _ (l1.trans l2.symm),l1,l2] at h;refine cm_ h ?_;rintro e w' ⟨a,c,rfl,hr,hb⟩;exact⟨a,c,by rw[if_pos rfl],hr rfl,hb⟩
theorem Zxw{n:Nat}{D:List (List Rat)}(h:(D.getD 0 []).length=n):psL n D 1=D.getD 0 []:=by
 rw[psL,psL];generalize D.getD 0 []=b at *
 refine List.ext_getElem (by rw[Qr _ _ _ _ (by rw[Zez,h]),Zez,h]) fun i i1 i2=>?_
 simp only[Kx,zrQ,List.getElem_zipWith,List.getElem_replicate]
 grind
theorem Zmy(w:World)(ps:List Int)(N M:Nat)(D:List (List Rat))(a0 al:Option Addr)(c0 cl:Nat)(O:Zaa ps N M D)(A:Zdg w ps a0 al D)(L:Qx w):
  Calls Tryz.prog 84 #[.agg #[.slice a0 ps.length c0,.slice al D.length cl]] w fun e w'=>∃ b d,e = .returned (.tuple #[.slice b D.length d,.int .i64 0])∧RdL w' b (D.map (List.map qs))∧Below w.heap.size w w':=by
 have hn4:=O.n4;have hn0:0<ps.length:=(Zbm O.p0).1;have HC:Hid (∀ W,Below w.heap.size w W→Kc Tryz.prog 26 #[.agg #[.slice a0 ps.length c0,.slice al D.length cl]] W (.int .i64 0)):=fun W hW=>Zdm W ps N M D a0 al c0 cl O (A.below hW nr_) (L.below hW)
 have HS:Hid (∀ W k a c a' c',Below w.heap.size w W→k<D.length→Rd W a (Kg (psL ps.length D (k+1)))→Rd W a' (Kg (psL ps.length D k))→Calls Tryz.prog 16 #[.slice a0 ps.length c0,.slice a ps.length c,.slice a' ps.length c'] W fun e w'=>∃ a c,e = .returned (.tuple #[.slice a ps.length c,.int .i64 0])∧Rd w' a (Kg (D.getD k []))∧Below W.heap.size W w'):=fun W k a c a' c' hW hk r1 r2=>by
  have e:=Zsg (O.plen k (by omega)) (O.len _ (Kl hk))
  have:=Zxn c0 c c' O.p0 O.i64 (A.rp.below hW nr_) r1 r2 (O.plen (k+1) (by omega)) (O.plen k (by omega)) (O.psm (by omega)) (O.psm (by omega)) (by rw[e];exact O.dsm _ (Kl hk)) (L.below hW)
  rw[e] at this;exact this
 have HK:Hid (∀ W k a c,k<D.length→Rd W a (Kg (D.getD k []))→Calls Tryz.prog 166 #[.slice a ps.length c] W fun e w'=>∃ a d,e = .returned (.slice a ps.length d)∧Zu w' W.heap.size a d (D.getD k [])∧Below W.heap.size W w'):=fun W k a c hk hr=>by
  have hl:=O.len _ (Kl hk);have:=Zsf W a c (D.getD k []) hr (by omega) (by omega)
  rw[hl] at this;exact this
 have H1:Hid (psL ps.length D 1=D.getD 0 []):=Zxw (O.len _ (Kl O.m1));have Hln:Hid (∀ k,k<D.length→(D.getD k []).length=ps.length):=fun k hk=>O.len _ (Kl hk)
 have hm14:=O.m14;obtain⟨b,off,rfl,hb,hcl⟩:=A.rl;have HA:=hd_ hcl;clear O A L hcl;generalize hS:psL ps.length D=S at *
 clear hS;obtain⟨m,hm⟩:∃ m,D.length=m:=⟨_,rfl⟩;obtain⟨n,hnn⟩:∃ n,ps.length=n:=⟨_,rfl⟩;simp only[hm,hnn] at HC HS HK Hln HA hm14 hn0 hn4 ⊢;have Hm:=hd_ hm;clear hm hnn;have Hn0:=hd_ hn0;have B0:=hd_ ((Below.refl w.heap.size w).alloc nr_ (.cells #[.slice a0 n c0,.slice (some ⟨b,off,none⟩) m cl] 62));have P0:=hd_ (Kq w #[.slice a0 n c0,.slice (some ⟨b,off,none⟩) m cl] 62 _ rfl);obtain⟨k0,k1,f0,f1⟩:=Ka P0.out;go_enter Tryz.func84,Tryz.ntmps84
 go_wp2_with fail
 generalize w.alloc (.cells #[.slice a0 n c0,.slice (some ⟨b,off,none⟩) m cl] 62)=w0 at *
 clear k0 k1 f0 f1;refine cm_ (HC.out _ B0.out) ?_;rintro e_ w1 ⟨rfl,hb_⟩;have B1:=hd_ (B0.out.trans (hb_.mono B0.out.size));have P1:=hd_ (Kd P0.out hb_ nr_);obtain⟨k0,k1,f0,f1⟩:=Ka P1.out;clear hb_ HC B0 P0
 go_wp2_with fail
 clear k0 k1 f0 f1
 go_loopw [5,17] (fun o z wr=>∃ (i:Nat) (bo:Option Addr) (d:Nat) (LL:List (Option Addr×Nat)),i≤m∧z = .int .i64 i∧o = .slice bo LL.length d∧Hid (LL.length=i)∧Hid (Zkl wr w1.heap.size bo d n LL (D.take i))∧Hid (Below w1.heap.size w1 wr)) (fun _ z _=>m-(intOf z).toNat)
 case atStart=>exact⟨0,none,0,[],Nat.zero_le _,rfl,rfl,rfl,⟨by simp,World.ownsRow_nil ..,fun i h=>absurd h (Nat.not_lt_zero _),fun x hx=>by simp at hx⟩,Below.refl _ _⟩
 case round =>
  obtain⟨i,bo,d,LL,hi,rfl,rfl,HL,HO,HB⟩:=hrel;have Bw:=hd_ (B1.out.trans (HB.out.mono B1.out.size));have Pw:=hd_ (Kd P1.out HB.out nr_)
  by_cases hlt:i<m
  ·have hlt':(i:Int)<m:=by omega
   obtain⟨a',c',k2,r2⟩:=HA.out i hlt;have k2':=(Bw.out.cell (p:=⟨b,off+i,none⟩) hb).trans k2;have R2:=hd_ (r2.below Bw.out nr_);clear k2 r2;have htk:Hid (D.take (i+1)=D.take i++[D.getD i []]):=by
    show _=_
    rw[List.take_add_one,List.getD_eq_getElem?_getD,List.getElem?_eq_getElem (by rw[Hm.out];exact hlt)]
    rfl
   have hll:LL.length≤14:=by rw[HL.out];omega
   rcases Nat.eq_zero_or_pos i with hz|hz
   ·have hz':¬ (0:Int)<i:=by omega
    have R3:Hid (Rd wr a' (Kg (D.getD i []))):=by
     have h:=R2.out;rw[hz] at h ⊢;rw[H1.out] at h;exact h
    have HK1:=hd_ (HK.out wr i a' c' hlt R3.out);have Hz:=hd_ hz;clear R2 Pw hz
    go_wp2_with fail
    refine cm_ HK1.out ?_;rintro e_ w6 ⟨a6,c6,rfl,ho_,hb_⟩;have B6:=hd_ (HB.out.trans (hb_.mono HB.out.size));have O6:=hd_ (HO.out.below hb_);have HQ:Hid (Zu w6 w1.heap.size a6 c6 (D.getD i [])):=by
     have hsz:=HB.out.size;unfold Zu Zhy at ho_ ⊢;exact⟨ho_.1,ho_.2.imp id fun ⟨g,cap,cur,h1,h2,h3⟩=>⟨g,cap,cur,h1,Nat.le_trans hsz h2,h3⟩⟩
    have hsz6:=B6.out.size;clear ho_ hb_ HK1 HB HO
    go_wp2_with (at_builtin;refine Km rfl (.tmp 40) (.tmp 43) 54 rfl Zh8 _ 1 [.slice a6 n c6] rfl rfl O6.out.row hsz6 rfl ?c1 (by omega) (by omega) ?_)
    case c1=>first | rfl | (intro u hu;obtain rfl:=List.mem_singleton.1 hu;rfl)
    intro v' w8 hown hg hnl;obtain⟨b',d',rfl,OW⟩:=Zkl.put O6.out HQ.out (Hln.out i hlt) hown hg;have W8:Hid (Zkl w8 w1.heap.size b' d' n (LL++[(a6,c6)]) (D.take (i+1))):=by rw[htk.out];exact OW
    have B8:Hid (Below w1.heap.size w1 w8):=(B6.out.alloc B6.out.size _).grown hg (by have:=B6.out.size;simp;omega) (fun k hk=>(O6.out.row.lt k hk).1)
    have Hl8:Hid ((LL++[(a6,c6)]).length=i+1):=by show (LL++[(a6,c6)]).length=_;rw[List.length_append,HL.out];rfl
    have e8:LL.length+1=(LL++[(a6,c6)]).length:=by simp
    clear hown hg OW O6 HQ B6 hnl HL;rw[e8]
    go_wp2_with fail
    go_roundw
    case rel=>exact⟨i+1,b',d',LL++[(a6,c6)],by omega,by go_num,rfl,Hl8,W8,B8⟩
    case measure=>simp[intOf];omega
   ·have hz':(0:Int)<i:=by omega
    obtain⟨j,hj⟩:∃ j,j+1=i:=⟨i-1,by omega⟩
    have hwj:IntKind.i64.wrap ((i:Int)-1)=(j:Nat):=by rw[show (i:Int)-1=(j:Nat) by omega];exact iw_ _ (by omega)
    have hjm':(j:Int)<m:=by omega
    obtain⟨a4,c4,k4,r4⟩:=HA.out j (by omega)
    rw[hj] at r4;have k4':=(Bw.out.cell (p:=⟨b,off+j,none⟩) hb).trans k4;have I:Hid (Below wr.heap.size wr wr.drew):=(Below.refl _ _).drew;have HS1:=hd_ (HS.out wr.drew i a' c' a4 c4 (Bw.out.trans (I.out.mono Bw.out.size)) hlt (R2.out.below I.out nr_) ((r4.below Bw.out nr_).below I.out nr_));obtain⟨k0,k1,f0,f1⟩:=Ka Pw.out;have q0:=BW.cell k0;have q1:=BW.cell k1;have q4:=BW.cell k4';have hnon:Nonempty (BW wr):=⟨⟨wr,Below.refl _ _⟩⟩;clear r4 k4 R2 hj
    go_wp2_with fail
    clear k0 k1 f0 f1 k4' k2';refine RY.wp_region_readers 9 [(2,0),(1,1),(2,2),(2,3),(1,4),(2,5),(2,6),(2,7),(1,8),(0,9),(0,10),(2,11),(2,12),(0,13),(0,14)] (fun w'=>∃ p:BW wr,w'=p.w) (by kernel_rfl) (by kernel_rfl) ?_ ?_
    ·exact⟨⟨_,I.out⟩,rfl⟩
    iterate 1 (refine RY.walkR_any ?_;simp only[dz_,Qd,tz_];go_big_quiet_step (fail);refine wpQuiet_nil ?_)
    iterate 1 (refine RY.walkR_read ?_;simp only[Qg,dz_,Qd,tz_];go_big_quiet_step (fail);refine wpQuiet_nil ?_)
    iterate 2 (refine RY.walkR_any ?_;simp only[Qg,dz_,Qd,tz_];go_big_quiet_step (fail);refine wpQuiet_nil ?_)
    iterate 1 (refine RY.walkR_read ?_;simp only[Qg,dz_,Qd,tz_];go_big_quiet_step (fail);refine wpQuiet_nil ?_)
    iterate 3 (refine RY.walkR_any ?_;simp only[Qg,dz_,Qd,tz_];go_big_quiet_step (fail);refine wpQuiet_nil ?_)
    iterate 1 (refine RY.walkR_read ?_;simp only[Qg,dz_,Qd,tz_];go_big_quiet_step (fail);refine wpQuiet_nil ?_)
    clear hnon q0 q1 q4;refine RY.walkR_move ?_;simp only[Qg,dz_,Qd,tz_]
    go_wp2_with fail
    refine cm_ HS1.out ?_;rintro e_ w5 ⟨a5,c5,rfl,hr5,hb_⟩;have D1:Hid (Below wr.heap.size wr w5):=I.out.trans (hb_.mono I.out.size);have HK1:=hd_ (HK.out w5 i a5 c5 hlt hr5);clear hr5 hb_ HS1 I
    go_wp2_with fail
    refine RY.walkR_move ?_;simp only[Qg,dz_,Qd,tz_]
    go_wp2_with fail
    iterate 2 (refine RY.walkR_any ?_;simp only[Qg,dz_,Qd,tz_];go_big_quiet_step (fail);refine wpQuiet_nil ?_)
    iterate 2 (refine RY.walkR_move ?_;simp only[Qg,dz_,Qd,tz_];go_wp2_with fail)
    simp only[RY.walkR];replace HB:=hd_ (HB.out.trans (D1.out.mono HB.out.size));replace HO:=hd_ (HO.out.below D1.out);clear D1 Bw Pw
    go_wp2_with fail
    refine cm_ HK1.out ?_;rintro e_ w6 ⟨a6,c6,rfl,ho_,hb_⟩;have B6:=hd_ (HB.out.trans (hb_.mono HB.out.size));have O6:=hd_ (HO.out.below hb_);have HQ:Hid (Zu w6 w1.heap.size a6 c6 (D.getD i [])):=by
     have hsz:=HB.out.size;unfold Zu Zhy at ho_ ⊢;exact⟨ho_.1,ho_.2.imp id fun ⟨g,cap,cur,h1,h2,h3⟩=>⟨g,cap,cur,h1,Nat.le_trans hsz h2,h3⟩⟩
    have hsz6:=B6.out.size;clear ho_ hb_ HK1 HB HO
    go_wp2_with (at_builtin;refine Km rfl (.tmp 40) (.tmp 43) 54 rfl Zh8 _ 1 [.slice a6 n c6] rfl rfl O6.out.row hsz6 rfl ?c1 (by omega) (by omega) ?_)
    case c1=>first | rfl | (intro u hu;obtain rfl:=List.mem_singleton.1 hu;rfl)
    intro v' w8 hown hg hnl;obtain⟨b',d',rfl,OW⟩:=Zkl.put O6.out HQ.out (Hln.out i hlt) hown hg;have W8:Hid (Zkl w8 w1.heap.size b' d' n (LL++[(a6,c6)]) (D.take (i+1))):=by rw[htk.out];exact OW
    have B8:Hid (Below w1.heap.size w1 w8):=(B6.out.alloc B6.out.size _).grown hg (by have:=B6.out.size;simp;omega) (fun k hk=>(O6.out.row.lt k hk).1)
    have Hl8:Hid ((LL++[(a6,c6)]).length=i+1):=by show (LL++[(a6,c6)]).length=_;rw[List.length_append,HL.out];rfl
    have e8:LL.length+1=(LL++[(a6,c6)]).length:=by simp
    clear hown hg OW O6 HQ B6 hnl HL;rw[e8]
    go_wp2_with fail
    go_roundw
    case rel=>exact⟨i+1,b',d',LL++[(a6,c6)],by omega,by go_num,rfl,Hl8,W8,B8⟩
    case measure=>simp[intOf];omega
  ·have hlt':¬ (i:Int)<m:=by omega
   have him:i=m:=by omega
   have Hfin:Hid (RdL wr bo (D.map (List.map qs))):=by
    have h:=HO.out.rdl;rw[List.take_of_length_le (by rw[Hm.out];omega)] at h
    exact h
   rw[HL.out,him];clear HO HL Pw
   go_wp2_with fail
   go_ret2
   exact⟨bo,⟨d,rfl⟩,Hfin.out,Bw.out⟩
end Go.Proofs.YtbielfplgbammaaGreatDoor

namespace Go.Proofs.YtbielfplgbammaaGreatDoor
def SoB (G:Nat→Nat) (a b:Nat):Prop:=∀ i j,a≤i→i<j→j<b→G i<G j
structure PmB (F F':Nat→Nat) (a b:Nat):Prop where
 out:∀ k,k<a∨b≤k→F' k=F k
 src:∀ k,a≤k→k<b→∃ m,a≤m∧m<b∧F' k=F m
theorem PmB.refl(F:Nat→Nat)(a b:Nat):PmB F F a b:=⟨fun _ _=>rfl,fun k h1 h2=>⟨k,h1,h2,rfl⟩⟩
theorem PmB.trans{F F' F'':Nat→Nat}{a b:Nat}(h:PmB F F' a b)(k:PmB F' F'' a b):PmB F F'' a b :=
 ⟨fun i hi=>(k.out i hi).trans (h.out i hi),fun i h1 h2=>by
  obtain⟨m,m1,m2,e⟩:=k.src i h1 h2;obtain⟨l,l1,l2,e2⟩:=h.src m m1 m2;exact⟨l,l1,l2,e.trans e2⟩⟩
theorem PmB.wide{F F':Nat→Nat}{a b c d:Nat}(h:PmB F F' c d)(h1:a≤c)(h2:d≤b):PmB F F' a b :=
 ⟨fun i hi=>h.out i (by omega),fun i h3 h4=>by
  by_cases hc:c≤i∧i<d
  ·obtain⟨m,m1,m2,e⟩:=h.src i hc.1 hc.2;exact⟨m,by omega,by omega,e⟩
  ·exact⟨i,h3,h4,h.out i (by omega)⟩⟩
def Zc3 (F:Nat→Nat) (lo i j k:Nat):Nat:=if k<lo then F k else if k<lo+j then F (k+i) else if k<lo+i+j then F (k-j) else F k
def sw2 (F:Nat→Nat) (x y k:Nat):Nat:=if k=x then F y else if k=y then F x else F k
theorem Zgu(r F:Nat→Nat)(l i j k:Nat):r (Zc3 F l i j k)=Zc3 (fun x=>r (F x)) l i j k:=by
 unfold Zc3
 repeat' split
 all_goals rfl
theorem Zxq(F:Nat→Nat){l i j a b:Nat}(h1:a≤l)(h2:l+i+j≤b):PmB F (Zc3 F l i j) a b:=by
 refine⟨fun k hk=>?_,fun k h3 h4=>?_⟩
 ·unfold Zc3
  repeat' split
  all_goals first | rfl | omega
 ·unfold Zc3
  repeat' split
  ·exact⟨k,h3,h4,rfl⟩
  ·exact⟨k+i,by omega,by omega,rfl⟩
  ·exact⟨k-j,by omega,by omega,rfl⟩
  ·exact⟨k,h3,h4,rfl⟩
theorem Zzi(F:Nat→Nat){x y a b:Nat}(h1:a≤x)(h2:x<b)(h3:a≤y)(h4:y<b):PmB F (sw2 F x y) a b:=by
 refine⟨fun k hk=>?_,fun k h5 h6=>?_⟩
 ·unfold sw2;rw[if_neg (by omega),if_neg (by omega)]
 ·unfold sw2
  repeat' split
  ·exact⟨y,h3,h4,rfl⟩
  ·exact⟨x,h1,h2,rfl⟩
  ·exact⟨k,h5,h6,rfl⟩
theorem Zsb{G:Nat→Nat}{a m b s e mid:Nat}(h1:SoB G a m)(h2:SoB G m b)(q1:a≤s)(q2:s≤m)(q3:m≤e)(q4:e≤b)(hmid:mid+m=s+e)
  (x1:∀ i j,a≤i→i<s→e≤j→j<b→G i<G j) (x2:∀ i j,m≤i→i<e→s≤j→j<m→G i<G j) :
  SoB (Zc3 G s (m-s) (e-m)) a s∧SoB (Zc3 G s (m-s) (e-m)) s mid∧SoB (Zc3 G s (m-s) (e-m)) mid e∧SoB (Zc3 G s (m-s) (e-m)) e b ∧
  ∀ i j,a≤i→i<mid→mid≤j→j<b→Zc3 G s (m-s) (e-m) i<Zc3 G s (m-s) (e-m) j:=by
 have v1:∀ z,z<s→Zc3 G s (m-s) (e-m) z=G z:=fun z hz=>by unfold Zc3;rw[if_pos hz]
 have v2:∀ z,s≤z→z<mid→Zc3 G s (m-s) (e-m) z=G (z+(m-s)):=fun z hz hz2=>by unfold Zc3;rw[if_neg (by omega),if_pos (by omega)]
 have v3:∀ z,mid≤z→z<e→Zc3 G s (m-s) (e-m) z=G (z-(e-m)):=fun z hz hz2=>by unfold Zc3;rw[if_neg (by omega),if_neg (by omega),if_pos (by omega)]
 have v4:∀ z,e≤z→Zc3 G s (m-s) (e-m) z=G z:=fun z hz=>by unfold Zc3;rw[if_neg (by omega),if_neg (by omega),if_neg (by omega)]
 refine⟨fun x y c1 c2 c3=>?_,fun x y c1 c2 c3=>?_,fun x y c1 c2 c3=>?_,fun x y c1 c2 c3=>?_,fun x y c1 c2 c3 c4=>?_⟩
 ·rw[v1 x (by omega),v1 y (by omega)];exact h1 _ _ (by omega) c2 (by omega)
 ·rw[v2 x (by omega) (by omega),v2 y (by omega) (by omega)];exact h2 _ _ (by omega) (by omega) (by omega)
 ·rw[v3 x (by omega) (by omega),v3 y (by omega) (by omega)];exact h1 _ _ (by omega) (by omega) (by omega)
 ·rw[v4 x (by omega),v4 y (by omega)];exact h2 _ _ (by omega) (by omega) (by omega)
 ·by_cases k1:x<s
  ·rw[v1 x k1]
   by_cases k2:y<e
   ·rw[v3 y c3 k2];exact h1 _ _ c1 (by omega) (by omega)
   ·rw[v4 y (by omega)];exact x1 _ _ c1 k1 (by omega) c4
  ·rw[v2 x (by omega) c2]
   by_cases k2:y<e
   ·rw[v3 y c3 k2];exact x2 _ _ (by omega) (by omega) (by omega) (by omega)
   ·rw[v4 y (by omega)];exact h2 _ _ (by omega) (by omega) c4
theorem SoB.join{G:Nat→Nat}{a mid b:Nat}(h1:SoB G a mid)(h2:SoB G mid b)(hx:∀ i j,a≤i→i<mid→mid≤j→j<b→G i<G j):SoB G a b:=fun i j c1 c2 c3=>by
 by_cases k1:j<mid
 ·exact h1 i j c1 c2 k1
 ·by_cases k2:i<mid
  ·exact hx i j c1 k2 (by omega) c3
  ·exact h2 i j (by omega) c2 c3
theorem SoB.out{r F F':Nat→Nat}{a b c d:Nat}(h:SoB (fun k=>r (F k)) a b)(p:PmB F F' c d)(hd:b≤c∨d≤a):SoB (fun k=>r (F' k)) a b:=fun i j c1 c2 c3=>by
 show r (F' i)<r (F' j)
 rw[p.out i (by omega),p.out j (by omega)]
 exact h i j c1 c2 c3
theorem SoB.one(G:Nat→Nat)(a b:Nat)(h:b≤a+1):SoB G a b:=fun i j c1 c2 c3=>by omega
structure Zwm (G:Nat→Nat) (a i j:Nat):Prop where
 ord:∀ x y,a≤x→x<y→y≤i→x≠j→y≠j→G x<G y
 hi:∀ y,j<y→y≤i→G j<G y
 aj:a≤j
 ji:j≤i
theorem Zwm.start{G:Nat→Nat}{a i:Nat}(h:SoB G a i)(ha:a≤i):Zwm G a i i :=
 ⟨fun x y h1 h2 h3 _ h5=>h x y h1 h2 (by omega),fun y h1 h2=>by omega,ha,Nat.le_refl _⟩
theorem Zwm.stop{G:Nat→Nat}{a i j:Nat}(h:Zwm G a i j)(hs:j=a∨G (j-1)<G j):SoB G a (i+1):=fun x y h1 h2 h3=>by
 have haj:=h.aj;have hji:=h.ji
 by_cases hy:y=j
 ·subst hy;rcases hs with h0|h0
  ·omega
  ·rcases Nat.lt_or_ge x (y-1) with h4 | h4
   ·exact Nat.lt_trans (h.ord x (y-1) h1 h4 (by omega) (by omega) (by omega)) h0
   ·rw[show x=y-1 by omega];exact h0
 ·by_cases hx:x=j
  ·subst hx;exact h.hi y h2 (by omega)
  ·exact h.ord x y h1 h2 (by omega) hx hy
theorem Zwm.swap{G:Nat→Nat}{a i j:Nat}(h:Zwm G a i (j+1))(ha:a≤j)(hs:G (j+1)<G j):Zwm (sw2 G (j+1) j) a i j:=by
 have hji:=h.ji;have s1:sw2 G (j+1) j (j+1)=G j:=by unfold sw2;rw[if_pos rfl]
 have s2:sw2 G (j+1) j j=G (j+1):=by unfold sw2;rw[if_neg (by omega),if_pos rfl]
 have s3:∀ k,k≠j→k≠j+1→sw2 G (j+1) j k=G k:=fun k h1 h2=>by unfold sw2;rw[if_neg h2,if_neg h1]
 refine⟨fun x y h1 h2 h3 h4 h5=>?_,fun y h1 h2=>?_,ha,by omega⟩
 ·by_cases hx:x=j+1
  ·subst hx;rw[s1,s3 y h5 (by omega)]
   exact h.ord j y ha (by omega) h3 (by omega) (by omega)
  ·rw[s3 x h4 hx]
   by_cases hy:y=j+1
   ·subst hy;rw[s1];exact h.ord x j h1 (by omega) (by omega) hx (by omega)
   ·rw[s3 y h5 hy];exact h.ord x y h1 h2 h3 hx hy
 ·rw[s2]
  by_cases hy:y=j+1
  ·subst hy;rw[s1];exact hs
  ·rw[s3 y (by omega) hy];exact h.hi y (by omega) h2
theorem Zuu(r F:Nat→Nat)(x y k:Nat):r (sw2 F x y k)=sw2 (fun z=>r (F z)) x y k:=by
 unfold sw2
 repeat' split
 all_goals rfl
end Go.Proofs.YtbielfplgbammaaGreatDoor

namespace Go.Proofs.YtbielfplgbammaaGreatDoor
def Bef (c:Nat→Nat→Int) (u v:Nat):Prop:=c u v<0∨(c u v=0∧u<v)
structure Pre (c:Nat→Nat→Int) (n:Nat):Prop where
 neg:∀ u v,c v u = - c u v
 tr:∀ u v w,u<n→v<n→w<n→c u v≤0→c v w≤0→c u w≤0
theorem Pre.bef_tr{c:Nat→Nat→Int}{n:Nat}(h:Pre c n){u v w:Nat}(hu:u<n)(hv:v<n)(hw:w<n)(h1:Bef c u v)(h2:Bef c v w):Bef c u w:=by
 have n1:=h.neg u v;have n2:=h.neg v w;have n3:=h.neg u w;have a1:c u v≤0:=by rcases h1 with h1 | h1<;>omega
 have a2:c v w≤0:=by rcases h2 with h2 | h2<;>omega
 have a3:=h.tr u v w hu hv hw a1 a2;unfold Bef;rcases Int.lt_or_eq_of_le a3 with h3|h3
 ·exact .inl h3
 ·have a4:=h.tr v w u hv hw hu a2 (by omega)
  have a5:=h.tr w u v hw hu hv (by omega) a1
  refine .inr ⟨h3,?_⟩;rcases h1 with h1|⟨h1,h1'⟩
  ·omega
  ·rcases h2 with h2 | ⟨h2,h2'⟩
   ·omega
   ·omega
theorem Pre.bef_or{c:Nat→Nat→Int}{n:Nat}(h:Pre c n){u v:Nat}(hne:u≠v):Bef c u v∨Bef c v u:=by
 have n1:=h.neg u v;unfold Bef;omega
theorem Pre.bef_not{c:Nat→Nat→Int}{n:Nat}(h:Pre c n){u v:Nat}(h1:Bef c u v):¬ Bef c v u:=by
 have n1:=h.neg u v;unfold Bef at *
 omega
instance (c:Nat→Nat→Int) (u v:Nat):Decidable (Bef c u v):=inferInstanceAs (Decidable (_∨_))
theorem Zhl{α:Type}{p q : α→Bool}:∀ {l:List α},(∀ x∈l,p x=true→q x=true)→∀ {u : α},u∈l→q u=true→p u=false→l.countP p<l.countP q
 | [],_,u,hu,_,_=>by cases hu
 | x::l,h,u,hu,h1,h2=>by
  have hl:∀ y∈l,p y=true→q y=true:=fun y hy=>h y (List.mem_cons_of_mem _ hy)
  have hle:l.countP p≤l.countP q:=List.countP_mono_left hl;rcases List.mem_cons.1 hu with rfl|hu
  ·rw[List.countP_cons_of_neg (by simp[h2]),List.countP_cons_of_pos (by simpa using h1)]
   omega
  ·have ih:=Zhl hl hu h1 h2;have hx:=h x List.mem_cons_self;rw[List.countP_cons,List.countP_cons];cases hp:p x
   ·simp;omega
   ·rw[hx hp];simp;omega
def rkB (c:Nat→Nat→Int) (n u:Nat):Nat:=(List.range n).countP fun v=>decide (Bef c v u)
theorem Zk5{c:Nat→Nat→Int}{n:Nat}(h:Pre c n){u v:Nat}(hu:u<n)(hv:v<n)(hb:Bef c u v):rkB c n u<rkB c n v:=by
 refine Zhl (u:=u) (fun x hx hp=>?_) (List.mem_range.2 hu) (by simpa using hb) ?_
 ·exact decide_eq_true (h.bef_tr (List.mem_range.1 hx) hu hv (of_decide_eq_true hp) hb)
 ·exact decide_eq_false fun hc=>h.bef_not hc hc
theorem Zxr{c:Nat→Nat→Int}{n:Nat}(h:Pre c n){u v:Nat}(hu:u<n)(hv:v<n):rkB c n u<rkB c n v↔Bef c u v:=by
 refine⟨fun hr=>?_,Zk5 h hu hv⟩
 refine Classical.byContradiction fun hc=>?_
 by_cases e:u=v
 ·subst e;omega
 ·rcases h.bef_or e with h1 | h1
  ·exact hc h1
  ·have:=Zk5 h hv hu h1;omega
theorem Zsc{c:Nat→Nat→Int}{n:Nat}(h:Pre c n){u v:Nat}(hu:u<n)(hv:v<n)(e:rkB c n u=rkB c n v):u=v:=by
 refine Classical.byContradiction fun hc=>?_
 rcases h.bef_or hc with h1|h1
 ·have:=Zk5 h hu hv h1;omega
 ·have:=Zk5 h hv hu h1;omega
theorem Zok{c:Nat→Nat→Int}{n:Nat}(h:Pre c n){u:Nat}(hu:u<n):rkB c n u<n:=by
 have:rkB c n u<(List.range n).countP fun _=>true:=Zhl (u:=u) (fun _ _ _=>rfl) (List.mem_range.2 hu) rfl (decide_eq_false fun hc=>h.bef_not hc hc)
 simpa using this
theorem Qa8{G:Nat→Nat}{n:Nat}(h:∀ k,k+1<n→G k<G (k+1))(hb:∀ k,k<n→G k<n):∀ k,k<n→G k=k:=by
 have lo:∀ k,k<n→k≤G k:=fun k=>by
  induction k with
  | zero=>intro _;exact Nat.zero_le _
  | succ k ih=>intro hk;have:=ih (by omega);have:=h k hk;omega
 have hi:∀ d k,k+d+1=n→G k≤k:=fun d=>by
  induction d with
  | zero=>intro k hk;have:=hb k (by omega);omega
  | succ d ih=>intro k hk;have:=ih (k+1) (by omega);have:=h k (by omega);omega
 intro k hk;have:=lo k hk
 have:=hi (n-1-k) k (by omega)
 omega
theorem Zpl.rank{c:Nat→Nat→Int}{n:Nat}{F:Nat→Nat}(h:Zpl c n F)(p:Pre c n):∀ k,k<n→rkB c n (F k)=k :=
 Qa8 (G:=fun k=>rkB c n (F k)) (fun k hk=>Zk5 p (h.lt k (by omega)) (h.lt _ hk) (by
  obtain⟨h1,h2⟩:=h.adj k hk;have:=p.neg (F k) (F (k+1))
  unfold Bef;omega)) fun k hk=>Zok p (h.lt k hk)
end Go.Proofs.YtbielfplgbammaaGreatDoor

namespace Go.Proofs.YtbielfplgbammaaGreatDoor
open Go.RowKit
structure Qa7 (c:Nat→Nat→Int) (r:Nat→Nat) (n:Nat):Prop where
 iff:∀ x y,x<n→y<n→x<y→(c y x<0↔r y<r x)
 inj:∀ x y,x<n→y<n→r x=r y→x=y
 bd:∀ u v,-1≤c u v∧c u v≤1
theorem Qa7.of{c:Nat→Nat→Int}{n:Nat}(p:Pre c n)(hb:∀ u v,-1≤c u v∧c u v≤1):Qa7 c (rkB c n) n:=by
 refine⟨fun x y hx hy hxy=>?_,fun x y hx hy e=>Zsc p hx hy e,hb⟩
 rw[Zxr p hy hx];unfold Bef;omega
theorem Qa7.no{c:Nat→Nat→Int}{r:Nat→Nat}{n:Nat}(h:Qa7 c r n){x y:Nat}(hx:x<n)(hy:y<n)(hxy:x<y)(hc:¬ c y x<0):r x<r y:=by
 have h1:=h.iff x y hx hy hxy;have h2:=h.inj x y hx hy;omega
theorem Zkj.sw2{W:World}{g n:Nat}{F:Nat→Nat}(h:Zkj W g n F)(x y:Nat)(hx:x<n)(hy:y<n)(hxy:x≠y):
  Zkj ((W.setCell ⟨g,x,none⟩ (.int .i64 (F y:Nat))).setCell ⟨g,y,none⟩ (.int .i64 (F x:Nat))) g n (sw2 F x y):=by
 have h0:=h.cell x hx;have h1:=h.cell y hy;have ne:∀ a b:Nat,a≠b→(⟨g,a,none⟩:Addr)≠⟨g,b,none⟩:=fun a b hab e=>by cases e;exact hab rfl
 refine⟨by simpa using h.lt,fun k hk=>?_,fun k=>?_⟩
 ·unfold Go.Proofs.YtbielfplgbammaaGreatDoor.sw2
  by_cases k2:k=x
  ·subst k2;rw[if_pos rfl,World.cell?_setCell_other _ _ _ _ (ne _ _ (fun e=>hxy e.symm))]
   exact World.cell?_setCell_same _ _ _ h0
  ·rw[if_neg k2]
   by_cases k1:k=y
   ·subst k1;rw[if_pos rfl];exact World.cell?_setCell_same _ _ _ (u := .int .i64 (F k:Nat)) (by rw[World.cell?_setCell_other _ _ _ _ (ne _ _ (by omega))];exact h1)
   ·rw[if_neg k1,World.cell?_setCell_other _ _ _ _ (ne _ _ (fun e=>k1 e.symm)),World.cell?_setCell_other _ _ _ _ (ne _ _ (fun e=>k2 e.symm))]
    exact h.cell k hk
 ·have:=h.fr k
  simpa using this
structure Qay (r:Nat→Nat) (F0 F:Nat→Nat) (a i j:Nat):Prop where
 I:Zwm (fun k=>r (F k)) a i j
 x:F j=i
 lo:∀ k,a≤k→k≤i→k≠j→F k<i
 p:PmB F0 F a (i+1)
theorem Qay.start{r F0 F:Nat→Nat}{a b i:Nat}(hid:∀ k,a≤k→k<b→F0 k=k)(h:SoB (fun k=>r (F k)) a i)(p:PmB F0 F a i)(ha:a≤i)(hi:i<b):Qay r F0 F a i i:=by
 refine⟨Zwm.start h ha,?_,fun k h1 h2 h3=>?_,p.wide nr_ (by omega)⟩
 ·rw[p.out i (by omega)];exact hid i ha hi
 ·obtain⟨m,m1,m2,e⟩:=p.src k h1 (by omega)
  rw[e,hid m m1 (by omega)];exact m2
theorem Qay.swap{r F0 F:Nat→Nat}{a i j:Nat}(h:Qay r F0 F a i (j+1))(ha:a≤j)(hs:r (F (j+1))<r (F j)):Qay r F0 (sw2 F (j+1) j) a i j:=by
 have hji:=h.I.ji;refine⟨?_,?_,fun k h1 h2 h3=>?_,h.p.trans (Zzi F (by omega) (by omega) ha (by omega))⟩
 ·have:=h.I.swap ha hs
  have e:(fun k=>r (sw2 F (j+1) j k))=sw2 (fun k=>r (F k)) (j+1) j:=by funext k;exact Zuu r F (j+1) j k
  rw[e];exact this
 ·unfold sw2;rw[if_neg (by omega),if_pos rfl];exact h.x
 ·unfold sw2
  by_cases k1:k=j+1
  ·rw[if_pos k1];exact h.lo j ha (by omega) (by omega)
  ·rw[if_neg k1,if_neg h3];exact h.lo k h1 h2 k1
structure Qca (r F:Nat→Nat) (n a m b:Nat):Prop where
 am:a<m
 mb:m<b
 s1:SoB (fun k=>r (F k)) a m
 s2:SoB (fun k=>r (F k)) m b
 lt:∀ i j,a≤i→i<m→m≤j→j<b→F i<F j
 bd:∀ k,a≤k→k<b→F k<n
theorem Zjr{r F:Nat→Nat}{l i j a b:Nat}(h:SoB (Zc3 (fun k=>r (F k)) l i j) a b):SoB (fun k=>r (Zc3 F l i j k)) a b:=by
 rw[show (fun k=>r (Zc3 F l i j k))=Zc3 (fun k=>r (F k)) l i j from funext fun k=>Zgu r F l i j k]
 exact h
structure Qbz (r F F2:Nat→Nat) (n a m b s e mid:Nat):Prop where
 s1:SoB (fun k=>r (F2 k)) a s
 s2:SoB (fun k=>r (F2 k)) s mid
 s3:SoB (fun k=>r (F2 k)) mid e
 s4:SoB (fun k=>r (F2 k)) e b
 x:∀ i j,a≤i→i<mid→mid≤j→j<b→r (F2 i)<r (F2 j)
 l1:∀ i j,a≤i→i<s→s≤j→j<mid→F2 i<F2 j
 l2:∀ i j,mid≤i→i<e→e≤j→j<b→F2 i<F2 j
 pm:PmB F F2 a b
 bd:∀ k,a≤k→k<b→F2 k<n
 q1:a≤s
 q2:s≤mid
 q3:mid≤e
 q4:e≤b
theorem PmB.bd{F F':Nat→Nat}{a b n:Nat}(p:PmB F F' a b)(h:∀ k,a≤k→k<b→F k<n):∀ k,a≤k→k<b→F' k<n:=fun k h1 h2=>by
 obtain⟨m,m1,m2,e⟩:=p.src k h1 h2;rw[e];exact h m m1 m2
theorem Qbz.of{r F:Nat→Nat}{n a m b s e mid:Nat}(M:Qca r F n a m b)(q1:a≤s)(q2:s≤m)(q3:m≤e)(q4:e≤b)(hmid:mid+m=s+e)
  (x1:∀ i j,a≤i→i<s→e≤j→j<b→r (F i)<r (F j)) (x2:∀ i j,m≤i→i<e→s≤j→j<m→r (F i)<r (F j)):Qbz r F (Zc3 F s (m-s) (e-m)) n a m b s e mid:=by
 obtain⟨p1,p2,p3,p4,p5⟩:=Zsb (G:=fun k=>r (F k)) M.s1 M.s2 q1 q2 q3 q4 hmid x1 x2
 have v1:∀ z,z<s→Zc3 F s (m-s) (e-m) z=F z:=fun z hz=>by unfold Zc3;rw[if_pos hz]
 have v2:∀ z,s≤z→z<mid→Zc3 F s (m-s) (e-m) z=F (z+(m-s)):=fun z hz hz2=>by unfold Zc3;rw[if_neg (by omega),if_pos (by omega)]
 have v3:∀ z,mid≤z→z<e→Zc3 F s (m-s) (e-m) z=F (z-(e-m)):=fun z hz hz2=>by unfold Zc3;rw[if_neg (by omega),if_neg (by omega),if_pos (by omega)]
 have v4:∀ z,e≤z→Zc3 F s (m-s) (e-m) z=F z:=fun z hz=>by unfold Zc3;rw[if_neg (by omega),if_neg (by omega),if_neg (by omega)]
 have pm:PmB F (Zc3 F s (m-s) (e-m)) a b:=Zxq F q1 (by omega)
 refine⟨Zjr p1,Zjr p2,Zjr p3,Zjr p4,fun i j c1 c2 c3 c4=>?_,fun i j c1 c2 c3 c4=>?_,fun i j c1 c2 c3 c4=>?_,pm,pm.bd M.bd,q1,by omega,by omega,q4⟩
 ·rw[Zgu r,Zgu r];exact p5 i j c1 c2 c3 c4
 ·rw[v1 i c2,v2 j c3 c4];exact M.lt _ _ (by omega) (by omega) (by omega) (by omega)
 ·rw[v3 i c1 c2,v4 j c3];exact M.lt _ _ (by omega) (by omega) (by omega) (by omega)
def gB (x y z:Nat):Bool:=decide (x<y)&&decide (y<z)
structure BkP (r F:Nat→Nat) (n z a:Nat):Prop where
 out:∀ k,n≤k→F k=k
 bd:∀ k,k<n→F k<n
 q1:∀ k,k<n→a≤k→F k/z=k/z
 s1:∀ i j,a≤i→i<j→j<n→i/z=j/z→r (F i)<r (F j)
 q2:∀ k,k<n→k<a→F k/(2*z)=k/(2*z)
 s2:∀ i j,i<j→j<a→j<n→i/(2*z)=j/(2*z)→r (F i)<r (F j)
theorem Ztn(k z:Nat):k/(2*z)=k/z/2:=by rw[Nat.div_div_eq_div_mul,Nat.mul_comm]
theorem Qag{z t k:Nat}(h1:z*t≤k)(h2:k<z*t+z):k/z=t:=by
 have hz:0<z:=by omega
 have e1:t≤k/z:=by rw[Nat.le_div_iff_mul_le hz,Nat.mul_comm];exact h1
 have e2:k/z<t+1:=by rw[Nat.div_lt_iff_lt_mul hz,Nat.add_mul,Nat.one_mul,Nat.mul_comm];exact h2
 omega
theorem Zz8{z t k:Nat}(hz:0<z)(h:k/z=t):z*t≤k∧k<z*t+z:=by
 have h1:=Nat.div_mul_le_self k z;have h2:=Nat.lt_div_mul_add (a:=k) hz;rw[h,Nat.mul_comm] at h1 h2;exact⟨h1,h2⟩
theorem BkP.step{r F F':Nat→Nat}{n z t b:Nat}(hz:0<z)(h:BkP r F n z (2*z*t))(hb:b≤n)(hb2:b=2*z*t+2*z∨(b=n∧n≤2*z*t+2*z))(p:PmB F F' (2*z*t) b)(s:SoB (fun k=>r (F' k)) (2*z*t) b):BkP r F' n z (2*z*(t+1)):=by
 have e:2*z*(t+1)=2*z*t+2*z:=by rw[Nat.mul_add,Nat.mul_one]
 rw[e];generalize hA:2*z*t=A at *
 have k2:∀ k,A≤k→k<A+2*z→k/(2*z)=t:=fun k x1 x2=>Qag (by rw[hA];exact x1) (by rw[hA];exact x2)
 have hout:∀ k,k<A∨b≤k→F' k=F k:=p.out;refine⟨fun k hk=>?_,fun k hk=>?_,fun k hk hk2=>?_,fun i j x1 x2 x3 x4=>?_,fun k hk hk2=>?_,fun i j x1 x2 x3 x4=>?_⟩
 ·rw[hout k (by omega)];exact h.out k hk
 ·by_cases hx:A≤k∧k<b
  ·obtain⟨m,m1,m2,e'⟩:=p.src k hx.1 hx.2;rw[e'];exact h.bd m (by omega)
  ·rw[hout k (by omega)];exact h.bd k hk
 ·rw[hout k (by omega)];exact h.q1 k hk (by omega)
 ·rw[hout i (by omega),hout j (by omega)];exact h.s1 i j (by omega) x2 x3 x4
 ·by_cases hx:A≤k
  ·obtain⟨m,m1,m2,e'⟩:=p.src k hx (by omega)
   rw[e',Ztn,h.q1 m (by omega) m1,← Ztn,k2 m m1 (by omega),k2 k hx hk2]
  ·rw[hout k (by omega)];exact h.q2 k hk (by omega)
 ·by_cases hx:A≤i
  ·exact s i j hx x1 (by omega)
  ·have hj:j<A:=by
    rcases Nat.lt_or_ge j A with hj|hj
    ·exact hj
    ·exfalso;rw[k2 j hj x2] at x4;have:=(Zz8 (z:=2*z) (by omega) x4).1
     omega
   rw[hout i (by omega),hout j (by omega)];exact h.s2 i j x1 hj x3 x4
theorem BkP.next{r F:Nat→Nat}{n z a:Nat}(h:BkP r F n z a)(ha:n≤a):BkP r F n (2*z) 0 :=
 ⟨h.out,h.bd,fun k hk _=>h.q2 k hk (by omega),fun i j _ x2 x3 x4=>h.s2 i j x2 (by omega) x3 x4,fun _ _ hk2=>absurd hk2 (Nat.not_lt_zero _),fun _ _ _ x2=>absurd x2 (Nat.not_lt_zero _)⟩
structure BkI (r F:Nat→Nat) (n a:Nat):Prop where
 id:∀ k,a≤k→F k=k
 bd:∀ k,k<n→F k<n
 q:∀ k,k<n→F k/20=k/20
 s:∀ i j,i<j→j<a→i/20=j/20→r (F i)<r (F j)
theorem BkI.start(r:Nat→Nat)(n:Nat):BkI r (fun k=>k) n 0:=⟨fun _ _=>rfl,fun _ h=>h,fun _ _=>rfl,fun _ _ _ h=>absurd h (Nat.not_lt_zero _)⟩
theorem BkI.step{r F F':Nat→Nat}{n t b:Nat}(h:BkI r F n (20*t))(_h0:20*t≤n)(hb:b≤n)(hb2:b≤20*t+20)(hb3:20*t≤b)(p:PmB F F' (20*t) b)(s:SoB (fun k=>r (F' k)) (20*t) b):BkI r F' n b:=by
 refine⟨fun k hk=>?_,fun k hk=>?_,fun k hk=>?_,fun i j x1 x2 x3=>?_⟩
 ·rw[p.out k (by omega)];exact h.id k (by omega)
 ·by_cases hx:20*t≤k∧k<b
  ·obtain⟨m,m1,m2,e'⟩:=p.src k hx.1 hx.2;rw[e'];exact h.bd m (by omega)
  ·rw[p.out k (by omega)];exact h.bd k hk
 ·by_cases hx:20*t≤k∧k<b
  ·obtain⟨m,m1,m2,e'⟩:=p.src k hx.1 hx.2;rw[e',h.q m (by omega)];omega
  ·rw[p.out k (by omega)];exact h.q k hk
 ·by_cases hx:20*t≤i
  ·exact s i j hx x1 x2
  ·rw[p.out i (by omega),p.out j (by omega)];exact h.s i j x1 (by omega) x3
theorem BkI.all{r F:Nat→Nat}{n:Nat}(h:BkI r F n n):BkP r F n 20 0 :=
 ⟨h.id,h.bd,fun k hk _=>h.q k hk,fun i j _ x2 x3 x4=>h.s i j x2 x3 x4,fun _ _ hk2=>absurd hk2 (Nat.not_lt_zero _),fun _ _ _ x2=>absurd x2 (Nat.not_lt_zero _)⟩
theorem BkP.done{r F:Nat→Nat}{n z:Nat}(h:BkP r F n z 0)(hz:n≤z):SoB (fun k=>r (F k)) 0 n∧PmB (fun k=>k) F 0 n:=by
 refine⟨fun i j _ x2 x3=>h.s1 i j (Nat.zero_le _) x2 x3 ?_,fun k hk=>h.out k (by omega),fun k _ hk=>⟨F k,Nat.zero_le _,h.bd k hk,rfl⟩⟩
 rw[Nat.div_eq_of_lt (by omega),Nat.div_eq_of_lt (by omega)]
theorem Qao{ps:List Int}{LL:List (List Rat)}(O:Zjc ps LL):Pre (cS ps LL) LL.length:=by
 refine⟨Zxa O,fun u v w hu hv hw h1 h2=>?_⟩
 unfold cS at h1 h2 ⊢;rw[if_pos ⟨hu,hv⟩] at h1;rw[if_pos ⟨hv,hw⟩] at h2;rw[if_pos ⟨hu,hw⟩];exact Zgl O.pos ((O.len _ (Kl hu)).trans (O.len _ (Kl hv)).symm) ((O.len _ (Kl hv)).trans (O.len _ (Kl hw)).symm) h1 h2
def gtN (T:Nat→Nat) (m x:Nat):Nat:=(List.range 26).countP fun v=>decide (x<v)&&(List.range m).any fun j=>T j==v
theorem Zw8(T:Nat→Nat)(m x:Nat):gtN T m x≤25:=by
 unfold gtN;rw[show List.range 26=0::(List.range 25).map (· + 1) by decide,List.countP_cons_of_neg (by simp)]
 have:=List.countP_le_length (p:=fun v=>decide (x<v)&&(List.range m).any fun j=>T j==v) (l:=(List.range 25).map (· + 1))
 simpa using this
theorem Zi3{q:Nat→Bool}{c:Nat}:∀ n:Nat,(List.range n).countP (fun v=>q v||v==c)=(List.range n).countP q+if c<n∧q c=false then 1 else 0
 | 0=>by simp
 | n+1=>by
  rw[List.range_succ,List.countP_append,List.countP_append,Zi3 n]
  by_cases h:n=c
  ·subst h;cases hq:q n<;>simp[hq]
  ·have e:(n==c)=false:=by rw[beq_eq_false_iff_ne];exact h
   have e2:c<n+1↔c<n:=by omega
   simp only[List.countP_cons,List.countP_nil,e,Bool.or_false,e2];omega
structure Zrf (ps:List Int) (D:List (List Rat)) (T:Nat→Nat):Prop where
 b:∀ i,i<D.length→T i<26
 lt:∀ u v,u<D.length→v<D.length→(LN.sz ps (Zs (D.getD u []) (D.getD v []))<0↔T u<T v)
 eq:∀ u v,u<D.length→v<D.length→(D.getD u []=D.getD v []↔T u=T v)
theorem Zrf.mono{ps:List Int}{D:List (List Rat)}{T F:Nat→Nat}(K:Zrf ps D T)(hF:Zpl (cS ps D) D.length F){k:Nat}(hk:k+1<D.length):T (F k)≤T (F (k+1)):=by
 have h1:=hF.lt k (by omega)
 have h2:=hF.lt (k+1) hk;have h3:=(hF.adj k hk).1;unfold cS at h3;rw[if_pos ⟨h2,h1⟩] at h3;refine Nat.not_lt.1 fun h=>?_
 have:=(K.lt _ _ h2 h1).2 h
 omega
theorem Zjg{S:Nat→Nat}{m:Nat}(h:∀ k,k+1<m→S k≤S (k+1)):∀ d k,k+d<m→S k≤S (k+d)
 | 0,_,_=>Nat.le_refl _
 | d+1,k,hk=>Nat.le_trans (Zjg h d k (by omega)) (h (k+d) (by omega))
theorem Zpl.onto{c:Nat→Nat→Int}{n:Nat}{F:Nat→Nat}(h:Zpl c n F)(p:Pre c n){u:Nat}(hu:u<n):∃ k,k<n∧F k=u :=
 ⟨rkB c n u,Zok p hu,Zsc p (h.lt _ (Zok p hu)) hu (h.rank p _ (Zok p hu))⟩
def lvB (S:Nat→Nat) (m:Nat):Nat→Nat
 | 0=>0
 | k+1=>if k=0 then 0 else lvB S m k+if S (m-1-k)=S (m-1-(k-1)) then 0 else 1
theorem Zyf{T F:Nat→Nat}{m:Nat}(hm:0<m)(hs:∀ k,k+1<m→T (F k)≤T (F (k+1)))(ho:∀ u,u<m→∃ k,k<m∧F k=u):gtN T m (T (F (m-1)))=0:=by
 unfold gtN;rw[List.countP_eq_zero];intro v _ hv;simp only[Bool.and_eq_true,decide_eq_true_eq,List.any_eq_true,List.mem_range,beq_iff_eq] at hv;obtain⟨h1,j,hj,rfl⟩:=hv;obtain⟨k,hk,rfl⟩:=ho j hj;have:=Zjg (S:=fun k=>T (F k)) hs (m-1-k) k (by omega)
 rw[show k+(m-1-k)=m-1 by omega] at this
 omega
theorem Zvv{T F:Nat→Nat}{m k:Nat}(hk:k+1<m)(hs:∀ k,k+1<m→T (F k)≤T (F (k+1)))(ho:∀ u,u<m→∃ k,k<m∧F k=u)(hF:F (k+1)<m)(hb:T (F (k+1))<26):
  gtN T m (T (F k))=gtN T m (T (F (k+1)))+if T (F k)=T (F (k+1)) then 0 else 1:=by
 by_cases he:T (F k)=T (F (k+1))
 ·rw[if_pos he,he];rfl
 ·rw[if_neg he];have hlt:=hs k hk;unfold gtN;have hc:∀ v∈List.range 26,(decide (T (F k)<v)&&(List.range m).any fun j=>T j==v)=((decide (T (F (k+1))<v)&&(List.range m).any fun j=>T j==v)||v==T (F (k+1))):=by
   intro v _;rw[Bool.eq_iff_iff];simp only[Bool.and_eq_true,Bool.or_eq_true,decide_eq_true_eq,List.any_eq_true,List.mem_range,beq_iff_eq];constructor
   ·rintro⟨h1,j,hj,rfl⟩;obtain⟨i,hi,rfl⟩:=ho j hj;have hik:k+1≤i:=by
     refine Nat.not_lt.1 fun h=>?_
     have:=Zjg (S:=fun k=>T (F k)) hs (k-i) i (by omega)
     rw[show i+(k-i)=k by omega] at this
     omega
    have:=Zjg (S:=fun k=>T (F k)) hs (i-(k+1)) (k+1) (by omega)
    rw[show k+1+(i-(k+1))=i by omega] at this
    by_cases e:T (F i)=T (F (k+1))
    ·exact .inr e
    ·exact .inl ⟨by omega,F i,hj,rfl⟩
   ·rintro(⟨h1,h2⟩ | rfl)
    ·exact⟨by omega,h2⟩
    ·exact⟨by omega,F (k+1),hF,rfl⟩
  rw[List.countP_congr (by intro v hv;rw[hc v hv]),Zi3,if_pos ⟨hb,by simp⟩]
theorem Zw1{T F:Nat→Nat}{m:Nat}(hm:0<m)(hs:∀ k,k+1<m→T (F k)≤T (F (k+1)))(ho:∀ u,u<m→∃ k,k<m∧F k=u)(hF:∀ k,k<m→F k<m)(hb:∀ k,k<m→T (F k)<26):∀ k,k<m→lvB (fun k=>T (F k)) m (k+1)=gtN T m (T (F (m-1-k)))
 | 0,_=>by rw[lvB,if_pos rfl,Nat.sub_zero,Zyf hm hs ho]
 | k+1,hk=>by
  have ih:=Zw1 hm hs ho hF hb k (by omega)
  rw[lvB,if_neg (by omega),ih,show k+1-1=k from rfl]
  have e:m-1-k=m-1-(k+1)+1:=by omega
  rw[e];exact(Zvv (by omega) hs ho (hF _ (by omega)) (hb _ (by omega))).symm
def Zml (T F:Nat→Nat) (m k:Nat):List UInt8:=(List.range m).map fun i=>if (List.range k).any (fun j=>F (m-1-j)==i) then UInt8.ofNat (97+gtN T m (T i)) else 0
theorem Zb5(T F:Nat→Nat)(m k:Nat):(Zml T F m k).length=m:=by simp[Zml]
theorem Zsm(T F:Nat→Nat)(m:Nat):Zml T F m 0=List.replicate m 0:=by
 unfold Zml;refine List.ext_getElem (by simp) fun i h1 h2=>?_
 simp
theorem Zsn{T F:Nat→Nat}{m k:Nat}:Zml T F m (k+1)=(Zml T F m k).set (F (m-1-k)) (UInt8.ofNat (97+gtN T m (T (F (m-1-k))))):=by
 refine List.ext_getElem (by simp[Zml]) fun i h1 h2=>?_
 rw[List.getElem_set];unfold Zml;simp only[List.getElem_map,List.getElem_range,List.range_succ,List.any_append,List.any_cons,List.any_nil,Bool.or_false]
 by_cases h:F (m-1-k)=i
 ·subst h;simp
 ·have e:(F (m-1-k)==i)=false:=by rw[beq_eq_false_iff_ne];exact h
  rw[if_neg h,e,Bool.or_false]
def Zn8 (T:Nat→Nat) (m:Nat):List UInt8:=(List.range m).map fun i=>UInt8.ofNat (97+gtN T m (T i))
theorem Zu4{T F:Nat→Nat}{m:Nat}(ho:∀ u,u<m→∃ k,k<m∧F k=u):Zml T F m m=Zn8 T m:=by
 unfold Zml Zn8;refine List.map_congr_left fun i hi=>?_
 obtain⟨k,hk,rfl⟩:=ho i (List.mem_range.1 hi);rw[if_pos];rw[List.any_eq_true];exact⟨m-1-k,List.mem_range.2 (by omega),by rw[beq_iff_eq,show m-1-(m-1-k)=k by omega]⟩
def wmQ (u:List Rat) (k:Rat):List Rat:=u.map fun q=>k*q
theorem Zpo(u:List Rat)(k:Rat):(wmQ u k).length=u.length:=List.length_map ..
theorem Zl4(u:List Rat)(k:Rat):Kx u u k 0=wmQ u k:=by
 refine List.ext_getElem (by simp[Kx,wmQ]) fun i h1 h2=>?_
 simp only[Kx,wmQ,List.getElem_zipWith,List.getElem_map]
 grind
theorem Zun{ps:List Int}{la:List Rat}(small:∀ p∈ps,p∈Zw)(h:LN.sz ps la≠0)(hs:Sml 480 12 la)(hm:∀ q∈la,Sm 2 q):
  LN.sz ps (wmQ la ((LN.sz ps la:Int):Rat))=1∧Sml 480 12 (wmQ la ((LN.sz ps la:Int):Rat))∧∀ q∈wmQ la ((LN.sz ps la:Int):Rat),Sm 2 q:=by
 have hp:=Zak small;have hc:=Zb0 hp la;obtain⟨r,hr⟩:∃ r,LN.sz ps la=r:=⟨_,rfl⟩;rw[hr] at h hc ⊢;have hr2:r.sign*r=1∧r.natAbs=1:=by rcases hc with e | e | e<;>subst e<;>first | exact absurd rfl h | decide
 refine⟨?_,?_,?_⟩
 ·unfold wmQ;rw[LN.sz_mul hp,Rat.num_intCast,hr];exact hr2.1
 ·have:=hs.scale (by decide) (d:=1) (r:Rat) r (by decide) (by grind)
  rw[hr2.2] at this;exact this
 ·intro q hq;obtain⟨y,hy,rfl⟩:=List.mem_map.1 hq;have:=hm y hy
  rcases hc with e|e|e
  ·subst e;rw[show ((1:Int):Rat)*y=y by grind];exact this
  ·exact absurd e h
  ·subst e;rw[show ((-1:Int):Rat)*y = -y by grind]
   exact⟨by rw[Rat.neg_num,Int.natAbs_neg];exact this.1,by rw[Rat.neg_den];exact this.2⟩
def Zwz (l:List UInt8) (c:Nat):Nat:=l.countP fun x=>x.toNat-97==c
theorem Zso(l:List UInt8)(b:UInt8)(c:Nat):Zwz (l++[b]) c=Zwz l c+if b.toNat-97=c then 1 else 0:=by
 unfold Zwz;rw[List.countP_append,List.countP_singleton];simp
theorem Zq9(l:List Int)(k c:Nat):(Zxb l k).getD c 0=l.getD c 0+if k=c then 1 else 0:=by
 have hpad:∀ j,(l++List.replicate (k+1-l.length) 0).getD j 0=l.getD j 0:=by
  intro j;simp only[List.getD_eq_getElem?_getD]
  by_cases h:j<l.length
  ·rw[List.getElem?_append_left h]
  ·rw[List.getElem?_append_right (by omega),List.getElem?_eq_none (l:=l) (by omega),List.getElem?_replicate]
   split<;>rfl
 unfold Zxb;have hk:k<(l++List.replicate (k+1-l.length) 0).length:=by simp;omega
 have:=hpad k
 simp only[this]
 by_cases h:k=c
 ·subst h;rw[List.getD_eq_getElem?_getD,List.getElem?_set_self hk];simp
 ·rw[if_neg h,List.getD_eq_getElem?_getD,List.getElem?_set_ne h,← List.getD_eq_getElem?_getD,hpad c];simp
theorem Ztv(l:List UInt8)(c:Nat):(cnt l).getD c 0=(Zwz l c:Int):=by
 refine Zd4 (p:=fun l:List UInt8=>(cnt l).getD c 0=(Zwz l c:Int)) ?_ (fun l b ih=>?_) l
 ·simp[cnt,Zwz]
 ·rw[Zc7,Zq9,ih,Zso];split<;>simp
theorem Zyn(l:List UInt8)(m:Nat)(h:∀ x∈l,x.toNat-97<m):(cnt l).length≤m:=by
 revert h;refine Zd4 (p:=fun l:List UInt8=>(∀ x∈l,x.toNat-97<m)→(cnt l).length≤m) ?_ (fun l b ih=>?_) l
 ·intro _;simp[cnt]
 ·intro h;rw[Zc7,Zdy];have h1:=ih fun x hx=>h x (List.mem_append_left _ hx)
  have h2:=h b (by simp)
  omega
structure Ye (ps:List Int) (l:List (List Rat)):Prop where
 len:∀ d∈l,d.length=ps.length
 sml:∀ d∈l,Sml 480 12 d
 sm2:∀ d∈l,∀ q∈d,Sm 2 q
 pos:∀ d∈l,LN.sz ps d=1
 dec:l.Pairwise fun a b=>LN.sz ps (Zs a b)=1
theorem Ye.nil(ps:List Int):Ye ps []:=by
 constructor
 ·intro d h;simp at h
 ·intro d h;simp at h
 ·intro d h;simp at h
 ·intro d h;simp at h
 ·exact List.Pairwise.nil
theorem Ye.insert{ps:List Int}{l:List (List Rat)}(h:Ye ps l){s:List Rat}(s1:s.length=ps.length)(s2:Sml 480 12 s)(s3:∀ q∈s,Sm 2 q)(s4:LN.sz ps s=1){n:Nat}
  (h1:∀ a∈l.take n,LN.sz ps (Zs a s)=1) (h2:∀ a∈l.drop n,LN.sz ps (Zs s a)=1):Ye ps (l.take n++[s]++l.drop n):=by
 have hm:∀ d∈l.take n++[s]++l.drop n,d∈l∨d=s:=by
  intro d hd;rcases List.mem_append.1 hd with h|h
  ·rcases List.mem_append.1 h with h | h
   ·exact .inl (List.mem_of_mem_take h)
   ·exact .inr (by simpa using h)
  ·exact .inl (List.mem_of_mem_drop h)
 constructor
 ·intro d hd;rcases hm d hd with h3 | rfl
  ·exact h.len d h3
  ·exact s1
 ·intro d hd;rcases hm d hd with h3 | rfl
  ·exact h.sml d h3
  ·exact s2
 ·intro d hd;rcases hm d hd with h3 | rfl
  ·exact h.sm2 d h3
  ·exact s3
 ·intro d hd;rcases hm d hd with h3 | rfl
  ·exact h.pos d h3
  ·exact s4
 ·have h3:=h.dec;rw[← List.take_append_drop n l] at h3;obtain⟨h4,h5,h6⟩:=List.pairwise_append.1 h3;refine List.pairwise_append.2 ⟨List.pairwise_append.2 ⟨h4,by simp,?_⟩,h5,?_⟩
  ·intro a ha b hb;obtain rfl:b=s:=by simpa using hb
   exact h1 a ha
  ·intro a ha b hb;rcases List.mem_append.1 ha with h7|h7
   ·exact h6 a h7 b hb
   ·obtain rfl:a=s:=by simpa using h7
    exact h2 b hb
structure Zul (c:Nat→Int) (k n:Nat) (tw:Bool) (z:Bool):Prop where
 le:n≤k
 hi:0<n→0<c (n-1)
 lo:∀ j,n≤j→j<k→c j≤0
 tw:tw=false→z=false∧∀ j,j<k→c j≠0
theorem Zul.zero(c:Nat→Int)(z:Bool):Zul c 0 0 z z:=⟨Nat.le_refl _,fun h=>by omega,fun j h1 h2=>by omega,fun h=>⟨h,fun j hj=>by omega⟩⟩
theorem Zul.next{c:Nat→Int}{k n:Nat}{tw z:Bool}(h:Zul c k n tw z):Zul c (k+1) (if 0<c k then k+1 else n) (tw||c k==0) z:=by
 by_cases h0:0<c k
 ·rw[if_pos h0];refine⟨Nat.le_refl _,fun _=>h0,fun j h1 h2=>by omega,fun h1=>?_⟩
  obtain⟨h2,h3⟩:=(Bool.or_eq_false_iff).1 h1;refine⟨(h.tw h2).1,fun j hj=>?_⟩
  by_cases e:j=k
  ·subst e;omega
  ·exact(h.tw h2).2 j (by omega)
 ·rw[if_neg h0];refine⟨by have:=h.le;omega,h.hi,fun j h1 h2=>?_,fun h1=>?_⟩
  ·by_cases e:j=k
   ·subst e;omega
   ·exact h.lo j h1 (by omega)
  ·obtain⟨h2,h3⟩:=(Bool.or_eq_false_iff).1 h1;refine⟨(h.tw h2).1,fun j hj=>?_⟩
   by_cases e:j=k
   ·subst e;simpa using h3
   ·exact(h.tw h2).2 j (by omega)
theorem Zj1{α:Type}{l:List α}{a d : α}(h:a∈l):∃ j,j<l.length∧l.getD j d=a:=by
 obtain⟨j,hj,rfl⟩:=List.mem_iff_getElem.1 h;exact⟨j,hj,by rw[List.getD_eq_getElem?_getD,List.getElem?_eq_getElem hj];rfl⟩
theorem Zef{l:List (List Rat)}{R:List Rat→List Rat→Prop}(h:l.Pairwise R){i j:Nat}(hij:i<j)(hj:j<l.length):R (l.getD i []) (l.getD j []):=by
 have:=List.pairwise_iff_getElem.1 h i j (by omega) hj hij
 rw[List.getD_eq_getElem?_getD,List.getD_eq_getElem?_getD,List.getElem?_eq_getElem hj,List.getElem?_eq_getElem (show i<l.length by omega)]
 exact this
theorem Ye.put{ps:List Int}{l:List (List Rat)}(h:Ye ps l)(hp:∀ p∈ps,0<p){s:List Rat}(s1:s.length=ps.length)(s2:Sml 480 12 s)(s3:∀ q∈s,Sm 2 q)(s4:LN.sz ps s=1){n:Nat}{z:Bool}
  (A:Zul (fun k=>LN.sz ps (Zs (l.getD k []) s)) l.length n false z):Ye ps (l.take n++[s]++l.drop n):=by
 obtain⟨-,hne⟩:=A.tw rfl;have hc:∀ k,LN.sz ps (Zs (l.getD k []) s)=1∨LN.sz ps (Zs (l.getD k []) s)=0∨LN.sz ps (Zs (l.getD k []) s) = -1:=fun k=>Zb0 hp _
 have hln:∀ k,k<l.length→(l.getD k []).length=ps.length:=fun k hk=>h.len _ (Kl hk)
 have hle:=A.le;refine h.insert s1 s2 s3 s4 (fun a ha=>?_) fun a ha=>?_
 ·obtain⟨j,hj,rfl⟩:=Zj1 (d:=[]) ha;rw[List.length_take] at hj;have e:(l.take n).getD j []=l.getD j []:=by
   rw[List.getD_eq_getElem?_getD,List.getD_eq_getElem?_getD,List.getElem?_take_of_lt (by omega)]
  rw[e];have h1:=A.hi (by omega)
  by_cases e2:j=n-1
  ·subst e2;rcases hc (n-1) with h2|h2|h2
   ·exact h2
   ·simp only[h2] at h1;omega
   ·simp only[h2] at h1;omega
  ·have h3:=Zef h.dec (show j<n-1 by omega) (by omega)
   have o:=Qb3 hp (la:=l.getD j []) (lb:=l.getD (n-1) []) (lc:=s) (by rw[hln j (by omega),hln (n-1) (by omega)]) (by rw[hln (n-1) (by omega),s1])
   have h4:=o.ge (by omega) (by omega)
   rcases hc j with h2|h2|h2
   ·exact h2
   ·exact absurd h2 (hne j (by omega))
   ·omega
 ·obtain⟨j,hj,rfl⟩:=Zj1 (d:=[]) ha;rw[List.length_drop] at hj;have e:(l.drop n).getD j []=l.getD (n+j) []:=by
   rw[List.getD_eq_getElem?_getD,List.getD_eq_getElem?_getD,List.getElem?_drop]
  rw[e];have h1:=A.lo (n+j) (by omega) (by omega)
  have h2:=hne (n+j) (by omega)
  have h3:=Zgm hp (la:=l.getD (n+j) []) (lb:=s) (by rw[hln _ (by omega),s1])
  rcases hc (n+j) with h4|h4|h4
  ·simp only[h4] at h1;omega
  ·exact absurd h4 h2
  ·rw[h3,h4];rfl
def ixB (x:UInt8):Nat:=x.toNat-97
def Zf2 (l:List (List Rat)) (s:List UInt8):List (List Rat):=s.map fun x=>l.getD (ixB x) []
theorem Vk(l:List (List Rat))(s:List UInt8):(Zf2 l s).length=s.length:=List.length_map ..
theorem Zc9(l:List (List Rat))(s:List UInt8){k:Nat}(h:k<s.length):(Zf2 l s).getD k []=l.getD (ixB (s.getD k 0)) []:=by
 unfold Zf2;rw[List.getD_eq_getElem?_getD,List.getElem?_map,List.getD_eq_getElem?_getD (l:=s),List.getElem?_eq_getElem h];rfl
theorem Zt8{ps:List Int}{l:List (List Rat)}{s:List UInt8}(h:Ye ps l)(p0:Qv ps=0)(h13:∀ p∈ps,2≤p∧p≤13)(small:∀ p∈ps,p∈Zw)(nd:ps.Nodup)(n4:ps.length≤100)
  (h0:0<s.length) (h14:s.length≤14) (hx:∀ x∈s,ixB x<l.length):Zaa ps 480 12 (Zf2 l s):=by
 have hm:∀ d∈Zf2 l s,d∈l:=by
  intro d hd;obtain⟨x,hs,rfl⟩:=List.mem_map.1 hd;exact Kl (hx x hs)
 exact⟨p0,h13,small,nd,n4,by decide,by decide,by decide,fun d hd=>h.len d (hm d hd),fun d hd=>h.sml d (hm d hd),fun d hd=>by rw[h.pos d (hm d hd)];decide,by rw[Vk];exact h0,by rw[Vk];exact h14⟩
def Znc (s:List UInt8) (i:Nat):Nat:=25-ixB (s.getD i 0)
theorem Zte{s:List UInt8}{i:Nat}(h:i<s.length):s.getD i 0∈s:=by
 rw[List.getD_eq_getElem?_getD,List.getElem?_eq_getElem h];exact List.getElem_mem h
theorem Zt9{ps:List Int}{l:List (List Rat)}{s:List UInt8}(h:Ye ps l)(hp:∀ p∈ps,0<p)(hx:∀ x∈s,ixB x<l.length)(h26:l.length≤26):Zrf ps (Zf2 l s) (Znc s):=by
 have hi:∀ i,i<s.length→ixB (s.getD i 0)<l.length:=fun i hi=>hx _ (Zte hi)
 have hln:∀ k,k<l.length→(l.getD k []).length=ps.length:=fun k hk=>h.len _ (Kl hk)
 have key:∀ a b,a<l.length→b<l.length→LN.sz ps (Zs (l.getD a []) (l.getD b []))=if a<b then 1 else if a=b then 0 else -1:=by
  intro a b ha hb;rcases Nat.lt_trichotomy a b with h1|rfl|h1
  ·rw[if_pos h1];exact Zef h.dec h1 hb
  ·rw[if_neg (Nat.lt_irrefl _),if_pos rfl,Zry hp]
  ·rw[if_neg (by omega),if_neg (by omega),Zgm hp (by rw[hln a ha,hln b hb]),Zef h.dec h1 ha]
 refine⟨fun i hi=>by unfold Znc;omega,fun u v hu hv=>?_,fun u v hu hv=>?_⟩
 ·rw[Vk] at hu hv;have h1:=hi u hu;have h2:=hi v hv;rw[Zc9 l s hu,Zc9 l s hv,key _ _ h1 h2];unfold Znc;split
  ·omega
  ·split<;>omega
 ·rw[Vk] at hu hv;have h1:=hi u hu;have h2:=hi v hv;rw[Zc9 l s hu,Zc9 l s hv];unfold Znc;have h3:=key _ _ h1 h2;constructor
  ·intro e;rw[e,Zry hp] at h3;split at h3
   ·omega
   ·split at h3<;>omega
  ·intro e;have:ixB (s.getD u 0)=ixB (s.getD v 0):=by omega
   rw[this]
theorem Zqy:∀ a,a<26→(List.range 26).countP (fun v=>decide (25-a<v))=a:=by decide
theorem Znt{p q:Nat→Bool}{n:Nat}(h:∀ v,v<n→p v=q v):(List.range n).countP p=(List.range n).countP q:=List.countP_congr fun v hv=>by rw[h v (List.mem_range.1 hv)]
theorem Zwf{s:List UInt8}(hs:∀ x∈s,97≤x.toNat∧x.toNat≤122)(hf:∀ i,i<(cnt s).length→0<(cnt s).getD i 0):Zn8 (Znc s) s.length=s:=by
 refine List.ext_getElem (by simp[Zn8]) fun i h1 h2=>?_
 simp only[Zn8,List.getElem_map,List.getElem_range];have hm:=hs s[i] (List.getElem_mem h2);have e:s.getD i 0=s[i]:=by rw[List.getD_eq_getElem?_getD,List.getElem?_eq_getElem h2];rfl
 have hb:=Zl6 s s[i] (List.getElem_mem h2);have hg:gtN (Znc s) s.length (Znc s i)=ixB s[i]:=by
  unfold gtN;rw[Znt (q:=fun v=>decide (25-ixB s[i]<v)) fun v hv=>?_]
  ·exact Zqy _ (by unfold ixB;omega)
  ·unfold Znc;rw[e]
   by_cases hlt:25-ixB s[i]<v
   ·have hp:=hf (25-v) (by unfold ixB at hlt;omega)
    rw[Ztv] at hp;have hp':0<Zwz s (25-v):=by omega
    unfold Zwz at hp';obtain⟨x,hx,hxe⟩:=List.countP_pos_iff.1 hp';have hxe':x.toNat-97=25-v:=by simpa using hxe
    obtain⟨j,hj,hjx⟩:=Zj1 (d:=(0:UInt8)) hx;have:(List.range s.length).any (fun j=>25-ixB (s.getD j 0)==v)=true:=by
     rw[List.any_eq_true];refine⟨j,List.mem_range.2 hj,?_⟩;rw[hjx,beq_iff_eq];unfold ixB;omega
    rw[this,decide_eq_true hlt];rfl
   ·rw[decide_eq_false hlt];rfl
 rw[hg];unfold ixB;rw[show 97+(s[i].toNat-97)=s[i].toNat by omega]
 exact UInt8.ofNat_toNat
theorem Zer(s:List UInt8)(m:Nat):(cnt s).length≤m↔∀ x∈s,ixB x<m :=
 ⟨fun h x hx=>Nat.lt_of_lt_of_le (Zl6 s x hx) h,fun h=>Zyn s m h⟩
theorem Zy8(w:World)(ps:List Int)(a0 a1:Option Addr)(c0 c1:Nat)(la:List Rat)(A:Zf w ps a0 a1 la 30)(hp:Qv ps=0)(hpos:∀ p∈ps,0<p)(g:Zf9 ps la)(L:Qx w):
  Calls Tryz.prog 102 #[.slice a0 ps.length c0,.slice a1 ps.length c1] w fun e w'=>∃ a c,e = .returned (.tuple #[.slice a ps.length c,.int .i64 0])∧Rd w' a (Kg (Kx la la ((LN.sz ps la:Int):Rat) 0))∧Below w.heap.size w w':=by
 have hn:=A.n;have Hc:=hd_ (Zpk w ps a0 a1 c0 c1 la A hp g L);have hr:=Zb0 hpos la;generalize LN.sz ps la=r at *
 have hrb : -1≤r∧r≤1:=by omega
 have hfac:max r (-r)*(2*max r 0-1)=r:=by rcases hr with h | h | h<;>rw[h]<;>rfl
 have hk:Sm 2 (r:Rat):=⟨by rw[Rat.num_intCast];omega,by rw[Rat.den_intCast];decide⟩
 have Hnum:Hid (∀ W,Below w.heap.size w W→Kc Tryz.prog 58 #[.int .i64 r] W (.agg #[.string (itx r),.string (dec 1)])):=fun W hW=>Zbn W r (by omega) (by omega) (L.below hW)
 have HS:Hid (∀ W g1 g2,Below w.heap.size w W→W.heap[g1]?=some (.cells #[.slice a1 ps.length c1] 35 (0,0))→W.heap[g2]?=some (.cells #[.string (itx r),.string (dec 1)] 101 (0,0)) →
   Calls Tryz.prog 141 #[.int .i64 ps.length,.slice (some ⟨g1,0,none⟩) 1 1,.slice (some ⟨g2,0,none⟩) 1 1] W fun e w'=>∃ a c,e = .returned (.slice a ps.length c)∧Rd w' a (Kg (Kx la la (r:Rat) 0))∧Below W.heap.size W w'):=fun W g1 g2 hW h1 h2=>by
  have h:=Zxl W g1 g2 a1 c1 ps.length 30 la (r:Rat) (by rw[A.len];exact h1) (by rw[Rat.num_intCast,Rat.den_intCast];exact h2) (A.below hW).rl A.len A.sm hk (by omega) (by decide) (L.below hW)
  rw[Zr0 _ _ _ A.len] at h;unfold Zbv at h;rw[Qr _ _ _ _ rfl,A.len] at h;refine cm_ h ?_;rintro e w' ⟨a,c,rfl,ho,hb⟩;exact⟨a,c,rfl,ho.rd,hb⟩
 clear A hp L hr hk hpos g;generalize Kx la la (r:Rat) 0=S at *
 generalize ps.length=n at *
 generalize itx r=s1 at *
 generalize dec 1=s2 at *
 obtain⟨m1,hm1⟩:∃ m,max r (-r)=m:=⟨_,rfl⟩;obtain⟨m2,hm2⟩:∃ m,max r 0=m:=⟨_,rfl⟩;have b1:0≤m1∧m1≤1:=by omega
 have b2:0≤m2∧m2≤1:=by omega
 rw[hm1,hm2] at hfac;go_enter Tryz.func102,Tryz.ntmps102
 go_wp2_with fail
 refine cm_ Hc.out ?_;rintro e w1 ⟨rfl,hb⟩;have B1:=hd_ hb;clear hb Hc
 go_wp2_with fail
 have K1:=hd_ (Kq w1 #[.slice a1 n c1] 35 _ rfl);have B2:=hd_ (B1.out.alloc B1.out.size (.cells #[.slice a1 n c1] 35));generalize hw2:w1.alloc (.cells #[.slice a1 n c1] 35)=w2 at *
 clear hw2 B1;refine cm_ (Hnum.out _ B2.out) ?_;rintro e w3 ⟨rfl,hb⟩;have K3:=hd_ (Kd K1.out hb nr_);have B3:=hd_ (B2.out.trans (hb.mono B2.out.size));clear hb K1 B2
 go_wp2_with fail
 have K4:=hd_ (Ks K3.out (.cells #[.string s1,.string s2] 101));have B4:=hd_ (B3.out.alloc B3.out.size (.cells #[.string s1,.string s2] 101));have M4:=hd_ (Kq w3 #[.string s1,.string s2] 101 _ rfl);generalize hw4:w3.alloc (.cells #[.string s1,.string s2] 101)=w4 at *
 clear hw4 B3 K3;refine cm_ (HS.out _ _ _ B4.out K4.out M4.out) ?_;rintro e w5 ⟨a5,c5,rfl,ho,hb⟩;have R5:=hd_ ho;have B5:=hd_ (B4.out.trans (hb.mono B4.out.size));clear hb ho HS
 go_wp2_with fail
 go_ret2
 exact⟨a5,c5,rfl,R5.out,B5.out⟩
theorem Zu.lowerD{w:World}{B B' c:Nat}{a:Option Addr}{l:List Rat}(h:Zu w B a c l)(hb:B'≤B):Zu w B' a c l:=by
 exact⟨h.1,h.2.imp id fun ⟨g,cap,cur,h1,h2,h3⟩=>⟨g,cap,cur,h1,Nat.le_trans hb h2,h3⟩⟩
theorem Zy1{W:World}{ps:List Int}{a0 a1:Option Addr}(c0 c1:Nat){la:List Rat}(hp:Qv ps=0)(hn:ps.length≤100)(h13:∀ p∈ps,2≤p∧p≤13)(small:∀ p∈ps,p∈Zw)(rp:Rd W a0 (Qw ps))(r1:Rd W a1 (Kg la))(l1:la.length=ps.length)
  (s1:∀ q∈la,Sm 2 q) (g:Zf9 ps la) (L:Qx W) :
  Calls Tryz.prog 102 #[.slice a0 ps.length c0,.slice a1 ps.length c1] W fun e w'=>∃ a c,e = .returned (.tuple #[.slice a ps.length c,.int .i64 0])∧Rd w' a (Kg (wmQ la ((LN.sz ps la:Int):Rat)))∧Below W.heap.size W w':=by
 have h:=Zy8 W ps a0 a1 c0 c1 la ⟨rp,r1,l1,hn,fun p hp=>by have:=h13 p hp;omega,fun q hq=>(s1 q hq).le (by decide),by decide⟩ hp (Zak small) g L
 rw[Zl4] at h;exact h
theorem Zoh{W:World}{ps:List Int}{a0 a1:Option Addr}(c0 c1:Nat){la:List Rat}(hp:Qv ps=0)(hn:ps.length≤100)(h13:∀ p∈ps,2≤p∧p≤13)(rp:Rd W a0 (Qw ps))(r1:Rd W a1 (Kg la))(l1:la.length=ps.length)
  (s1:∀ q∈la,Sm 2 q) (g:Zf9 ps la) (L:Qx W) :
  Kc Tryz.prog 23 #[.slice a0 ps.length c0,.slice a1 ps.length c1] W (.tuple #[.int .i64 (LN.sz ps la),.int .i64 0]) :=
 Zpk W ps a0 a1 c0 c1 la ⟨rp,r1,l1,hn,fun p hp=>by have:=h13 p hp;omega,fun q hq=>(s1 q hq).le (by decide),by decide⟩ hp g L
theorem Zke(w:World)(a0 a1 a2:Option Addr)(c0 c1 c2:Nat)(ps:List Int)(ls:List (List Rat))(fs:List Rat)(rp:Rd w a0 (Qw ps))(hi:Zf3 ps)(hp:Qv ps=0)(rl:RdL w a1 (ls.map (List.map qs)))(hl:ls.length≤100)
  (h:∀ l∈ls,l.length=ps.length∧∀ q∈l,Sm 30 q) (rf:Rd w a2 (Kg fs)) (hf:fs.length=ls.length) (hfs:∀ q∈fs,Sm 400 q) (hs:Qt (Zd ps.length ls fs)=true) (L:Qx w) :
  Zci 57 #[.slice a0 ps.length c0,.slice a1 ls.length c1,.slice a2 fs.length c2] w (Zd ps.length ls fs):=by
 have hn:=Zbm hp;have H1:=hd_ (Yc w a0 a1 c0 c1 ps (ls.map (List.map qs)) rp hi (by omega) rl (by rw[List.length_map];omega) (by
  intro l hl';obtain⟨m,hm,rfl⟩:=List.mem_map.1 hl';exact⟨by rw[List.length_map,(h m hm).1];omega,Zd3 (h m hm).2⟩) L)
 rw[Zej hp h,List.length_map] at H1;have H2:Hid (∀ W,Below w.heap.size w W→Kc Tryz.prog 137 #[.slice a2 fs.length c2,.func (.func 138) #[] #[]] W (.bool false)):=fun W hW=>by
  have:=Zbh W a2 c2 (fs.map qs) (rf.below hW nr_) (by rw[List.length_map];omega) (fun x hx=>by
   obtain⟨q,hq,rfl⟩:=List.mem_map.1 hx;have h1:=Zj5 q.num 400 (by decide) (hfs q hq).1
   have h2:=(Zad q.den 400 (by decide)).2 (hfs q hq).2
   exact⟨by show (itx q.num).size≤_;omega,by show (dec q.den).size≤_;omega⟩) (L.below hW)
  rw[Zgv fs hfs,List.length_map] at this;exact this
 have H3:Hid (∀ W,Below w.heap.size w W→Zbv 141 #[.int .i64 ps.length,.slice a1 ls.length c1,.slice a2 fs.length c2] W (Zd ps.length ls fs)):=fun W hW =>
  Zjk W a1 a2 c1 c2 ps.length ls fs 30 400 (rl.below hW nr_) (rf.below hW nr_) (fun l hl'=>(h l hl').1) hf (fun l hl'=>(h l hl').2) hfs (by omega) (by omega) (by
   have:(ls.length+1)*(30+400+1)≤101*(30+400+1):=Nat.mul_le_mul_right _ (by omega)
   omega) (L.below hW)
 have hsl:=Zb1 ps.length ls fs (fun l hl'=>(h l hl').1) hf
 have H4:Hid (∀ W a c,Rd W a (Kg (Zd ps.length ls fs))→Kc Tryz.prog 140 #[.slice a (Zd ps.length ls fs).length c] W (.tuple #[.slice a (Zd ps.length ls fs).length c,.int .i64 0])):=fun W a c hr=>Zgw W a c _ hr (by omega) hs
 unfold Zbv at H3;clear rp hi hp rl hl h rf hfs L hn hsl hs;rw[hf] at *
 generalize Zd ps.length ls fs=S at *
 generalize ps.length=n at *
 generalize ls.length=k at *
 unfold Zci;go_enter Tryz.func57,Tryz.ntmps57
 go_wp2_with fail
 refine cm_ H1.out ?_;rintro e w1 ⟨rfl,hb1⟩;have Hb1:=hd_ hb1;clear hb1 H1
 go_wp2_with fail
 refine cm_ (H2.out _ Hb1.out) ?_;rintro e w2 ⟨rfl,hb2⟩;have Hb2:=hd_ (Hb1.out.trans (hb2.mono Hb1.out.size));clear hb2 H2 Hb1
 go_wp2_with fail
 refine cm_ (H3.out _ Hb2.out) ?_;rintro e w3 ⟨a,c,rfl,ho,hb3⟩;have Hb3:=hd_ (Hb2.out.trans (hb3.mono Hb2.out.size));have Ho:Hid (Zu w3 w.heap.size a c S):=Zu.lowerD ho Hb2.out.size;have Hr:=hd_ ho.rd;clear hb3 H3 Hb2 ho
 go_wp2_with fail
 refine cm_ (H4.out _ _ _ Hr.out) ?_;rintro e w4 ⟨rfl,hb4⟩;have Hb4:=hd_ (Hb3.out.trans (hb4.mono Hb3.out.size));have Ho4:=hd_ (Ho.out.below hb4 nr_);clear hb4 H4 Hb3 Hr
 go_wp2_with fail
 go_ret2
 exact⟨a,c,rfl,Ho4.out,Hb4.out⟩
theorem Zuf(w:World)(ps:List Int)(a0 a1 a2:Option Addr)(c0 c1 c2:Nat)(la lb:List Rat)(rp:Rd w a0 (Qw ps))(hi:Zf3 ps)(hp:Qv ps=0)(r1:Rd w a1 (Kg la))(r2:Rd w a2 (Kg lb))(l1:la.length=ps.length)(l2:lb.length=ps.length)
  (s1:∀ q∈la,Sm 30 q) (s2:∀ q∈lb,Sm 30 q) (s3:∀ q∈Kx la lb 1 1,Sm 30 q) (L:Qx w) :
  Calls Tryz.prog 40 #[.slice a0 ps.length c0,.slice a1 ps.length c1,.slice a2 ps.length c2] w fun e w'=>∃ a c,e = .returned (.tuple #[.slice a ps.length c,.int .i64 0])∧Zu w' w.heap.size a c (Kx la lb 1 1)∧Below w.heap.size w w':=by
 obtain⟨u,hu⟩:∃ q:Rat,q=1:=⟨_,rfl⟩;obtain⟨v,hv⟩:∃ q:Rat,q=((1:Int):Rat):=⟨_,rfl⟩;have es:Zd ps.length [la,lb] [u,v]=Kx la lb 1 1:=by
  rw[Zc1 _ _ _ _ _ l1 l2,hu,hv,Zb3]
 have hlen:(Kx la lb 1 1).length=ps.length:=by rw[Qr _ _ _ _ (l1.trans l2.symm),l1]
 have Hc:Hid (∀ W g1 g2,Below w.heap.size w W→W.heap[g1]?=some (.cells #[.slice a1 ps.length c1,.slice a2 ps.length c2] 35 (0,0))→W.heap[g2]?=some (.cells #[.string (itx u.num),.string (dec u.den),.string (itx v.num),.string (dec v.den)] 101 (0,0)) →
   Zci 57 #[.slice a0 ps.length c0,.slice (some ⟨g1,0,none⟩) 2 2,.slice (some ⟨g2,0,none⟩) 2 2] W (Kx la lb 1 1)):=fun W g1 g2 hW h1 h2=>by
  have:=Zke W a0 _ _ c0 2 2 ps [la,lb] [u,v] (rp.below hW nr_) hi hp (Ze8 (l1:=la.map qs) (l2:=lb.map qs) (by rw[List.length_map,List.length_map,l1,l2];exact h1) (r1.below hW nr_) (r2.below hW nr_)) (by simp)
   (by intro l hl;simp only[List.mem_cons,List.not_mem_nil,or_false] at hl;rcases hl with rfl | rfl;exact⟨l1,s1⟩;exact⟨l2,s2⟩) (Za1 h2) rfl
   (by intro q hq;simp only[List.mem_cons,List.not_mem_nil,or_false] at hq;rcases hq with rfl | rfl;subst hu;exact Sm.le (D:=1) ⟨by decide +kernel,by decide +kernel⟩ (by decide);subst hv;exact Sm.le (D:=2) ⟨by decide +kernel,by decide +kernel⟩ (by decide)) (by rw[es];exact Zdl s3 (by decide)) (L.below hW)
  rw[es] at this;exact this
 have N1:Hid (∀ W,Below w.heap.size w W→Kc Tryz.prog 58 #[.int .i64 1] W (fr u)):=fun W hW=>by subst hu;exact Zfb W 1 (by decide) (by decide) (L.below hW)
 have N2:Hid (∀ W,Below w.heap.size w W→Kc Tryz.prog 58 #[.int .i64 1] W (fr v)):=fun W hW=>by subst hv;exact Zfb W 1 (by decide) (by decide) (L.below hW)
 unfold fr fv at N1 N2;unfold Zci at Hc;rw[hlen] at Hc;clear hu hv rp hi hp r1 r2 l1 l2 s1 s2 s3 L es hlen;generalize Kx la lb 1 1=S at *
 generalize ps.length=n at *
 have B0:=hd_ ((Below.refl w.heap.size w).alloc nr_ (.cells #[.slice a1 n c1,.slice a2 n c2] 35));have K0:=hd_ (Kq w #[.slice a1 n c1,.slice a2 n c2] 35 _ rfl);go_enter Tryz.func40,Tryz.ntmps40
 go_wp2_with fail
 generalize w.alloc (.cells #[.slice a1 n c1,.slice a2 n c2] 35)=w0 at *
 refine cm_ (N1.out _ B0.out) ?_;rintro e w1 ⟨rfl,hb⟩;have B1:=hd_ (B0.out.trans (hb.mono B0.out.size));have K1:=hd_ (Kd K0.out hb nr_);clear hb B0 K0
 go_wp2_with fail
 refine cm_ (N2.out _ B1.out) ?_;rintro e w2 ⟨rfl,hb⟩;have B2:=hd_ (B1.out.trans (hb.mono B1.out.size));have K2:=hd_ (Kd K1.out hb nr_);clear hb B1 K1 N1 N2
 go_wp2_with fail
 have B3:=hd_ (B2.out.alloc B2.out.size (.cells #[.string (itx u.num),.string (dec u.den),.string (itx v.num),.string (dec v.den)] 101));have K3:=hd_ (Ks K2.out (.cells #[.string (itx u.num),.string (dec u.den),.string (itx v.num),.string (dec v.den)] 101));have M3:=hd_ (Kq w2 #[.string (itx u.num),.string (dec u.den),.string (itx v.num),.string (dec v.den)] 101 _ rfl);generalize w2.alloc (.cells #[.string (itx u.num),.string (dec u.den),.string (itx v.num),.string (dec v.den)] 101)=w3 at *
 refine cm_ (Hc.out _ _ _ B3.out K3.out M3.out) ?_;rintro e w4 ⟨a,c,rfl,hr,hb⟩;have Hr:Hid (Zu w4 w.heap.size a c S):=Zu.lowerD hr B3.out.size;have B4:=hd_ (B3.out.trans (hb.mono B3.out.size));clear hr hb Hc B2 K2 B3 K3 M3
 go_wp2_with fail
 go_ret2
 exact⟨a,c,rfl,Hr.out,B4.out⟩
end Go.Proofs.YtbielfplgbammaaGreatDoor

namespace Go.Proofs.YtbielfplgbammaaGreatDoor.LN
end Go.Proofs.YtbielfplgbammaaGreatDoor.LN

namespace Go.Proofs.YtbielfplgbammaaGreatDoor
open Go.RowKit
end Go.Proofs.YtbielfplgbammaaGreatDoor

namespace Go.Proofs.YtbielfplgbammaaGreatDoor
open Go.RowKit
end Go.Proofs.YtbielfplgbammaaGreatDoor

namespace Go.Proofs.YtbielfplgbammaaGreatDoor
open Go.RowKit
end Go.Proofs.YtbielfplgbammaaGreatDoor

namespace Go.Proofs.YtbielfplgbammaaGreatDoor
open Go.RowKit
end Go.Proofs.YtbielfplgbammaaGreatDoor

namespace Go.Proofs.YtbielfplgbammaaGreatDoor
open Go.RowKit
theorem Sml.kb{N M:Nat}{ps:List Int}{l:List Rat}(hM:0<M)(h:Sml N M l):∀ x∈tlQ ps l,x.2.natAbs≤N:=by
 intro x hx;obtain⟨_,q,hq,_,he⟩:=Zv hx;have e:x.2=LN.ex (Qu l) q:=he;obtain⟨m,hm⟩:=LN.tden_min (fun q hq=>(h q hq).1)
 have h3:=(h q hq).2;rw[hm,Nat.mul_comm,LN.ex_mul (LN.tden_dvd hq),Int.natAbs_mul,Int.natAbs_natCast] at h3;have hm0:0<m:=by
  rcases Nat.eq_zero_or_pos m with h0|h0
  ·rw[h0,Nat.mul_zero] at hm;omega
  ·exact h0
 rw[e];have h4:1*(LN.ex (Qu l) q).natAbs≤m*(LN.ex (Qu l) q).natAbs:=Nat.mul_le_mul_right _ hm0;omega
theorem Sml.den{N:Nat}{l:List Rat}(h:Sml N 12 l):Qu l≤12:=Nat.le_of_dvd (by decide) (LN.tden_min (fun q hq=>(h q hq).1))
def Qb6 (a:Int) (i:Nat) (b:Int) (k j:Nat):Int:=if j=i then (if i=k then a+b else a) else if j=k then b else 0
def Qbe (n:Nat) (a:Int) (i:Nat) (b:Int) (k:Nat):List Rat:=(List.range n).map fun j=>((Qb6 a i b k j:Int):Rat)
def Qbf (ps:List Int) (a:Int) (i:Nat) (b:Int) (k:Nat):Bool:=if i=k then decide (a<b) else decide (LN.sz ps (Qbe ps.length a i (-b) k)<0)
def Zsr (ps v:List Int):Nat:=(List.range v.length).foldl (fun nx i=>if Qbf ps (2*v.getD i 0+1) nx (2*v.getD nx 0+1) i then i else nx) 0
def Zx1 (ps v:List Int):List Int:=v.set (Zsr ps v) (v.getD (Zsr ps v) 0+1)
def PrB (ps:List Int):Prop:=∀ p∈ps,1<p
theorem PrB.pos{ps:List Int}(h:PrB ps):∀ p∈ps,0<p:=fun p hp=>by have:=h p hp;omega
structure VP (ps:List Int):Prop where
 p0:Qv ps=0
 q1:∀ p∈ps,p∈Zw
 nd:ps.Nodup
theorem Zr3{p:Int}(h:p∈Zw):2≤p∧p≤13:=by
 simp only[Zw,List.mem_cons,List.not_mem_nil,or_false] at h;omega
theorem VP.le{ps:List Int}(V:VP ps):∀ p∈ps,2≤p∧p≤13:=fun p hp=>Zr3 (V.q1 p hp)
theorem VP.b{ps:List Int}(V:VP ps):PrB ps:=fun p hp=>by have:=V.le p hp;omega
theorem VP.len{ps:List Int}(V:VP ps):0<ps.length∧ps.length≤6:=by
 have h:=V.p0;unfold Qv at h;split at h
 ·cases h
 ·split at h
  ·cases h
  ·omega
theorem VP.i64{ps:List Int}(V:VP ps):Zf3 ps:=fun p hp=>by have:=V.le p hp;omega
structure Zy4 (n:Nat) (M:Int) (v:List Int):Prop where
 len:v.length=n
 le:∀ i,i<n→0≤v.getD i 0∧v.getD i 0≤M
theorem Zy4.next{ps:List Int}{n:Nat}{M:Int}{v:List Int}(h:Zy4 n M v)(hM:0≤M):Zy4 n (M+1) (Zx1 ps v):=by
 refine⟨by unfold Zx1;rw[List.length_set];exact h.len,fun i hi=>?_⟩
 unfold Zx1;rw[List.getD_eq_getElem?_getD,List.getElem?_set];split
 ·rename_i e
  split
  ·have:=h.le (Zsr ps v) (by omega)
   show 0≤v.getD (Zsr ps v) 0+1∧v.getD (Zsr ps v) 0+1≤M+1
   omega
  ·exact⟨Int.le_refl _,by show (0:Int)≤M+1;omega⟩
 ·have:=h.le i hi
  rw[List.getD_eq_getElem?_getD] at this;omega
/-! Rows that the call owns. -/
theorem Zbu.at{w:World}{B c g:Nat}{l:List Int}(h:Zbu w B (some ⟨g,0,none⟩) c l){i:Nat}(hi:i<l.length):
  w.cell? ⟨g,i,none⟩=some (.int .i64 (l.getD i 0))∧w.frozen? ⟨g,i,none⟩=false∧g<w.heap.size∧B≤g:=by
 obtain⟨g',cap,hv,h1,h2,h3,h4,h5⟩:=Qb h (by omega)
 simp only[Value.slice.injEq,Option.some.injEq,Addr.mk.injEq,and_true] at hv;obtain⟨rfl,-,rfl⟩:=hv;refine⟨?_,h5 i,h2,h1⟩;rw[h4 i (by omega),Vl l i hi,List.getD_eq_getElem?_getD,List.getElem?_eq_getElem hi]
 rfl
theorem Zbu.put{w:World}{B c g:Nat}{l:List Int}(h:Zbu w B (some ⟨g,0,none⟩) c l)(i:Nat)(x:Int):
  Zbu (w.setCell ⟨g,i,none⟩ (.int .i64 x)) B (some ⟨g,0,none⟩) c (l.set i x)∧w.grownBy (w.setCell ⟨g,i,none⟩ (.int .i64 x)) (some g):=by
 have:=World.ownsRow.stored h i (.int .i64 x)
 refine⟨?_,this.2⟩;unfold Zbu;rw[List.length_set,show Qw (l.set i x)=(Qw l).set i (.int .i64 x) by simp[Qw,List.map_set]]
 exact this.1
theorem Zbu.block{w w':World}{B c g:Nat}{l:List Int}(h:Zbu w B (some ⟨g,0,none⟩) c l)(he:w'.heap[g]?=w.heap[g]?):Zbu w' B (some ⟨g,0,none⟩) c l:=by
 refine⟨h.1,?_⟩;rcases h.2 with h1|⟨g',cap,cur,hv,hb,hg,rest⟩
 ·exact .inl h1
 ·simp only[Value.slice.injEq,Option.some.injEq,Addr.mk.injEq,and_true,true_and] at hv;obtain⟨rfl,rfl⟩:=hv;exact .inr ⟨g,c,cur,rfl,hb,by rw[he];exact hg,rest⟩
theorem Zbu.lower{w:World}{B B' c:Nat}{a:Option Addr}{l:List Int}(h:Zbu w B a c l)(hb:B'≤B):Zbu w B' a c l :=
 ⟨h.1,h.2.imp id fun ⟨g,cap,cur,h1,h2,h3⟩=>⟨g,cap,cur,h1,Nat.le_trans hb h2,h3⟩⟩
theorem Zh5{A B:World}(h:Below A.heap.size A B)(r:Option Nat):A.grownBy B r:=⟨h.os,h.tape,h.output,h.size,fun k hk _=>h.block k hk⟩
end Go.Proofs.YtbielfplgbammaaGreatDoor

namespace Go.Proofs.YtbielfplgbammaaGreatDoor
open Go.RowKit Go.Shelf
attribute [local go_sem] Oper.semAt_some
end Go.Proofs.YtbielfplgbammaaGreatDoor

namespace Go.Proofs.YtbielfplgbammaaGreatDoor
open Go.RowKit Go.Shelf
structure KpB (n₀:Nat) (S:List Nat) (X Y:World):Prop where
 b:Below n₀ X Y
 same:∀ i∈S,Y.heap[i]?=X.heap[i]?
theorem KpB.refl(n₀:Nat)(S:List Nat)(X:World):KpB n₀ S X X:=⟨Below.refl _ _,fun _ _=>rfl⟩
theorem KpB.trans{n₀:Nat}{S:List Nat}{X Y Z:World}(h:KpB n₀ S X Y)(k:KpB n₀ S Y Z):KpB n₀ S X Z:=⟨h.b.trans k.b,fun i hi=>(k.same i hi).trans (h.same i hi)⟩
theorem KpB.of{n₀ B:Nat}{S:List Nat}{X Y:World}(h:Below B X Y)(h0:n₀≤B)(hS:∀ i∈S,i<B):KpB n₀ S X Y:=⟨h.mono h0,fun i hi=>h.block i (hS i hi)⟩
theorem KpB.grown{n₀ r:Nat}{S:List Nat}{X Y:World}(h:X.grownBy Y (some r))(h0:n₀≤r)(h1:n₀≤X.heap.size)(hS:∀ i∈S,i<X.heap.size∧i≠r):KpB n₀ S X Y :=
 ⟨⟨h.os,h.tape,h.output,h.size,fun i hi=>h.block i (by omega) (fun e=>by have:=Option.some.inj e;omega)⟩,fun i hi=>h.block i (hS i hi).1 (fun e=>(hS i hi).2 (Option.some.inj e))⟩
attribute [local go_sem] Oper.semAt_some
structure Zn3 (w:World) (B:Nat) (b:Option Addr) (d n:Nat) (L:List (Nat×Nat)) (ls:Nat→List Int):Prop where
 row:w.ownsRow B 33 1 (.slice b L.length d) L.length (L.map fun x => .slice (some ⟨x.1,0,none⟩) n x.2)
 each:∀ i (h1:i<L.length),Zbu w B (some ⟨L[i].1,0,none⟩) L[i].2 (ls i)
 lens:∀ i,(ls i).length=n
theorem Zn3.nil(w:World)(B n:Nat)(ls:Nat→List Int)(h:∀ i,(ls i).length=n):Zn3 w B none 0 n [] ls:=⟨⟨rfl,.inl ⟨rfl,rfl⟩⟩,fun i h1=>by simp at h1,h⟩
theorem Zm4{w:World}{B c g:Nat}{l:List Int}(h:Zbu w B (some ⟨g,0,none⟩) c l):B≤g∧g<w.heap.size:=World.ownsRow.lt h g rfl
theorem Zn3.kept{w w':World}{B r:Nat}{b:Option Addr}{d n:Nat}{L:List (Nat×Nat)}{ls:Nat→List Int}(h:Zn3 w B b d n L ls)(hg:w.grownBy w' (some r))(hr:r<B):Zn3 w' B b d n L ls:=by
 refine⟨h.row.kept hg (.inr fun e=>?_),fun i h1=>(h.each i h1).block (hg.block _ (Zm4 (h.each i h1)).2 fun e=>?_),h.lens⟩
 ·have:=(h.row.lt r e).1
  omega
 ·have:=(Zm4 (h.each i h1)).1
  have:=Option.some.inj e
  omega
theorem Zn3.below{w w':World}{B B':Nat}{b:Option Addr}{d n:Nat}{L:List (Nat×Nat)}{ls:Nat→List Int}(h:Zn3 w B b d n L ls)(hb:Below B' w w')(hB:w.heap.size≤B'):Zn3 w' B b d n L ls :=
 ⟨Vq h.row hb hB,fun i h1=>(h.each i h1).block (hb.block _ (by have:=(Zm4 (h.each i h1)).2;omega)),h.lens⟩
theorem Zn3.lower{w:World}{B B':Nat}{b:Option Addr}{d n:Nat}{L:List (Nat×Nat)}{ls:Nat→List Int}(h:Zn3 w B b d n L ls)(hb:B'≤B):Zn3 w B' b d n L ls :=
 ⟨⟨h.row.1,h.row.2.imp id fun ⟨g,cap,cur,h1,h2,h3⟩=>⟨g,cap,cur,h1,Nat.le_trans hb h2,h3⟩⟩,fun i h1=>(h.each i h1).lower hb,h.lens⟩
theorem Zp9{w:World}{B1 B2 s1 s2 n1 n2:Nat}{e1 e2:TypeId}{v1 v2:Value}{x1 x2:List Value}(h1:w.ownsRow B1 e1 s1 v1 n1 x1)(h2:w.ownsRow B2 e2 s2 v2 n2 x2)(hne:e1≠e2):
  ∀ k,v1.ownBlock=some k→v2.ownBlock≠some k:=by
 intro k hk hk2;rcases h1.2 with⟨rfl,_⟩|⟨g,cap,cur,rfl,_,hg,_⟩
 ·simp[Value.ownBlock] at hk
 ·rcases h2.2 with⟨rfl,_⟩ | ⟨g2,cap2,cur2,rfl,_,hg2,_⟩
  ·simp[Value.ownBlock] at hk2
  ·simp only[Value.ownBlock,Option.some.injEq] at hk hk2;subst hk;subst hk2;rw[hg] at hg2;simp only[Option.some.injEq,Obj.cells.injEq] at hg2;exact hne hg2.2.1
theorem Zn3.put{w1 w3:World}{B d n c g:Nat}{b:Option Addr}{L:List (Nat×Nat)}{ls:Nat→List Int}{v':Value}(h:Zn3 w1 B b d n L ls)(ho:Zbu w1 B (some ⟨g,0,none⟩) c (ls L.length))
  (hown:w3.ownsRow B 33 1 v' (L.length+1) ((L.map fun x=>Value.slice (some ⟨x.1,0,none⟩) n x.2)++[.slice (some ⟨g,0,none⟩) n c])) (hg:(w1.alloc (.cells #[.slice (some ⟨g,0,none⟩) n c] 33)).grownBy w3 (Value.slice b L.length d).ownBlock) :
  ∃ b' d',v' = .slice b' (L.length+1) d'∧Zn3 w3 B b' d' n (L++[(g,c)]) ls:=by
 obtain⟨b',d',rfl⟩:=Ky hown;have hA:Below w1.heap.size w1 (w1.alloc (.cells #[.slice (some ⟨g,0,none⟩) n c] 33)):=(Below.refl _ _).alloc nr_ _;have hrow:=Vq h.row hA nr_;have keep:∀ (a2:Option Addr) (c2:Nat) (l2:List Int),Zbu w1 B a2 c2 l2→Zbu w3 B a2 c2 l2:=fun a2 c2 l2 h2=>by
  have h3:Zbu _ B a2 c2 l2:=h2.below hA nr_;unfold Zbu at h3 ⊢;refine World.ownsRow.kept h3 hg ?_;have hap:=Zp9 hrow h3 (by decide)
  cases hv:(Value.slice b L.length d).ownBlock with
  | none=>cases hv2:(Value.slice a2 l2.length c2).ownBlock<;>simp
  | some k=>exact .inr (hap k hv)
 refine⟨b',d',rfl,?_,?_,h.lens⟩
 ·rw[List.length_append,List.map_append];exact hown
 ·intro i h1
  by_cases hi:i<L.length
  ·simp only[List.getElem_append_left hi];exact keep _ _ _ (h.each i hi)
  ·have e:i=L.length:=by simp at h1;omega
   subst e;simp only[List.getElem_append_right nr_,Nat.sub_self,List.getElem_cons_zero];exact keep _ _ _ ho
structure Qbq (w0:World) (D b5 b6 b7 b9 n:Nat) (high:Int) (ls:Nat→List Int) (k:Nat) (X:World) (b:Option Addr) (d:Nat) (L:List (Nat×Nat)):Prop where
 len:L.length=k
 c9:X.heap[b9]?=some (.cells #[.slice b k d] 72 (0,0))
 own:Zn3 X (D+3) b d n L ls
 c5:X.heap[b5]?=some (.cells #[.int .i64 high] 3 (0,0))
 c6:X.heap[b6]?=some (.cells #[.slice none 0 0] 72 (0,0))
 c7:X.heap[b7]?=some (.cells #[.int .i64 0] 39 (0,0))
 bel:Below w0.heap.size w0 X
theorem Qbq.kept{w0:World}{D b5 b6 b7 b9 n:Nat}{high:Int}{ls:Nat→List Int}{k:Nat}{X Y:World}{b:Option Addr}{d:Nat}{L:List (Nat×Nat)}{r:Nat}(h:Qbq w0 D b5 b6 b7 b9 n high ls k X b d L)(hg:X.grownBy Y (some r))(hr:D≤r∧r≤D+2)
  (h0:w0.heap.size≤D) (h5:b5<D) (h6:b6<D) (h7:b7<D) (h9:b9<D):Qbq w0 D b5 b6 b7 b9 n high ls k Y b d L:=by
 have hk:∀ i,i<D→∀ o,X.heap[i]?=some o→Y.heap[i]?=some o:=fun i hi o ho=>(hg.block i (Array.getElem?_eq_some_iff.1 ho).1 (fun e=>by have:=Option.some.inj e;omega)).trans ho
 refine⟨h.len,hk _ h9 _ h.c9,h.own.kept hg (by omega),hk _ h5 _ h.c5,hk _ h6 _ h.c6,hk _ h7 _ h.c7,h.bel.trans ⟨hg.os,hg.tape,hg.output,hg.size,fun i hi=>hg.block i ?_ (fun e=>by have:=Option.some.inj e;omega)⟩⟩
 have:=h.bel.size
 omega
end Go.Proofs.YtbielfplgbammaaGreatDoor

namespace Go.Proofs.YtbielfplgbammaaGreatDoor
open Go.RowKit Go.Shelf
attribute [local go_sem] Oper.semAt_some
theorem Zql{v:List Int}{i:Nat}(h:i<v.length):(Qw v)[i]?=some (.int .i64 (v.getD i 0)):=by
 rw[Vl v i h,List.getD_eq_getElem?_getD,List.getElem?_eq_getElem h];rfl
theorem Zwh(w:World)(a1:Option Addr)(c1 n:Nat):
  Calls Tryz.prog 86 #[.slice a1 n c1] w fun e w' =>
   e = .returned (.func (.func 169) #[] #[.pointer (some ⟨w.heap.size,0,none⟩)])∧w'=w.alloc (.cells #[.slice a1 n c1] 30):=by
 go_enter Tryz.func86,Tryz.ntmps86;go_wp2;go_ret;exact⟨rfl,rfl⟩
theorem Zwi(r:Nat)(hr1:1≤r)(ys:List Int)(a1:Option Addr)(c1 n:Nat)(W0 W:World)(hb:Below W0.heap.size W0 W)(h1:Rd W0 a1 (Qw ys))(l1:ys.length=n)(hn:n≤64)(hn0:0<n)(b1:Nat)
  (hb1:W.heap[b1]?=some (.cells #[.slice a1 n c1] 30 (0,0))) (l:Nat) (J:Nat→World→Prop)
  (hY:∀ k X,k<n→J k X→Below W0.heap.size W0 X→YieldAt Fence.wide (r-1) Tryz.prog l #[.int .i64 ((n-1-k:Nat):Int),.int .i64 (ys.getD (n-1-k) 0)] X fun e Y=>e = .returned (.bool true)∧J (k+1) Y∧KpB W0.heap.size [b1] X Y)
  (h0:J 0 W) :
  CallsIn Fence.wide r Tryz.prog 169 #[.func (.yield l) #[] #[],.pointer (some ⟨b1,0,none⟩)] W fun e X=>(∃ v,e = .returned v)∧J n X:=by
 have HC1:Hid (∃ g o,a1=some ⟨g,o,none⟩∧∀ W,Below W0.heap.size W0 W→∀ k,k<n→W.cell? ⟨g,o+k,none⟩=some (.int .i64 (ys.getD k 0))):=by
  rcases h1 with h|⟨g,o,e1,e2,e3⟩
  ·have:=congrArg List.length h
   rw[Qm,List.length_nil] at this;omega
  ·exact⟨g,o,e1,fun W hW k hk=>(hW.cell (p:=⟨g,o+k,none⟩) e2).trans (e3 k _ (Zql (by omega)))⟩
 obtain⟨g1,o1,rfl,hc1⟩:=HC1.out;have K1:=hd_ hc1;have Hy:=hd_ hY;have M1:=hd_ hb1;have B0:=hd_ hb;have J0:=hd_ h0;clear h1 hc1 HC1 l1 hY h0 hb;refine callsIn_of_wp Tryz.func169 rfl trivial ?_ rfl;simp only[Tryz.ntmps169,List.size_toArray,List.length_cons,List.length_nil,Nat.reduceAdd,Nat.reduceSub,Array.replicate_succ,Array.replicate_zero,List.push_toArray,List.append_toArray,List.nil_append,List.cons_append];obtain⟨m1,-⟩:=Kp hb1;have hw1:IntKind.i64.wrap ((n:Int)-1)=(n:Int)-1:=iw_ _ (by omega)
 clear hb1
 gi_wp2_with fail
 gi_loopw [3] (fun x wr=>∃ (k:Nat) (z:Int),k≤n∧x = .int .i64 z∧Hid (z=(n:Int)-1-k)∧Hid (J k wr)∧Hid (Below W0.heap.size W0 wr)∧Hid (wr.heap[b1]?=some (.cells #[.slice (some ⟨g1,o1,none⟩) n c1] 30 (0,0)))) (fun x _=>(intOf x+1).toNat)
 case atStart=>exact⟨0,(n:Int)-1,Nat.zero_le _,by first | rfl | (rw[hw1]),by show (n:Int)-1=(n:Int)-1-(0:Nat);omega,J0,B0,M1⟩
 case round =>
  clear J0 B0 M1 hw1;obtain⟨k,z,hk,rfl,Hz,Jk,B,M1⟩:=hrel;obtain⟨m1,-⟩:=Kp M1.out
  by_cases hlt:k<n
  ·obtain⟨q,hq⟩:∃ q:Nat,z=q:=⟨z.toNat,by have:=Hz.out;omega⟩
   subst hq;have hqn:q<n:=by have:=Hz.out;omega
   have hq':(q:Int)<n:=by omega
   have hq0:(0:Int)≤q:=by omega
   have eq:n-1-k=q:=by have:=Hz.out;omega
   have x1:=K1.out _ B.out q hqn;have hy':=Hy.out k wr hlt Jk.out B.out;rw[eq] at hy';have HI:=hd_ hlt;have Hqk:=hd_ (show (q:Int)-1=(n:Int)-1-(k+1:Nat) by have:=Hz.out;omega)
   generalize ys.getD q 0=y at *
   obtain⟨fn,tmps,assign,body,hy,hR⟩:=hy';have hw2:IntKind.i64.wrap ((q:Int)-1)=(q:Int)-1:=iw_ _ (by omega)
   clear Jk eq Hz hlt
   gi_wp2_with fail
   refine hR.mono ?_;rintro e W3 ⟨rfl,hJ3,hk3⟩;have J3:=hd_ hJ3;have B3:=hd_ (B.out.trans hk3.b);have N1:=hd_ ((hk3.same b1 (by simp)).trans M1.out)
   clear hJ3 hk3 hR hy B M1 m1 x1
   gi_wp2_with fail
   go_roundw
   case rel=>exact⟨k+1,(q:Int)-1,HI.out,by first | rfl | (rw[hw2]),Hqk.out,J3,B3,N1⟩
   case measure=>simp[intOf]<;>omega
  ·have hz:z = -1:=by have:=Hz.out;omega
   subst hz;have hkn:n=k:=by omega
   subst hkn;have JX:=hd_ Jk.out
   gi_wp2
   go_end0
   exact⟨⟨_,rfl⟩,JX.out⟩
theorem Zp1{g:Operand}{p1 p2:Tmp}{assign body:Code}{Q:Exit→Act→World→Prop}{a:Act}{n':Nat}(hn':2≤n')
  (ys:List Int) (a1:Option Addr) (c1 n:Nat) (W0 w:World) (hb:Below W0.heap.size W0 w) (h1:Rd W0 a1 (Qw ys)) (l1:ys.length=n) (hn:n≤64) (hn0:0<n) (b1:Nat)
  (hb1:w.heap[b1]?=some (.cells #[.slice a1 n c1] 30 (0,0)))
  (hg:a.eval g = .func (.func 169) #[] #[.pointer (some ⟨b1,0,none⟩)])
  (I:Nat→World→Prop) (hI:∀ k A B r,I k A→A.grownBy B (some r)→w.heap.size≤r∧r≤w.heap.size+1→I k B) (h0:I 0 w) (a₁:Nat→Act)
  (hassign:∀ (k:Nat) (W:World) (K:Act→World→Prop),k<n→K (a₁ k) W →
   assign.wpIn (Fence.wide.inRound (w.heap.size+1)) (n'-1-1) Tryz.prog (Exit.then K (fun _ _ _=>False)) { tmps:=(a.tmps.setIfInBounds p1 (.int .i64 ((n-1-k:Nat):Int))).setIfInBounds p2 (.int .i64 (ys.getD (n-1-k) 0)),defers:=[] } W)
  (hbody:∀ (k:Nat) (X:World),k<n→I k X→Below W0.heap.size W0 X→w.heap.size+1<X.heap.size →
   body.wpIn (Fence.wide.inRound (w.heap.size+1)) (n'-1-1) Tryz.prog (fun e _ Y=>e = .normal∧I (k+1) Y∧KpB W0.heap.size [w.heap.size,w.heap.size+1,b1] X Y) (a₁ k) X)
  (hdone:∀ (W:World),I n W→W.heap[w.heap.size]?=some (.deferred (some []))→Q .normal { a with defers:={ target := .collected w.heap.size,args := #[] }::a.defers } W) :
  (Code.rangeFunc g #[p1,p2] assign body).wpIn Fence.wide n' Tryz.prog Q a w:=by
 refine wpIn_rangeFunc ?_;intro fn hfn;rw[show Fence.wide.round=none from rfl]
 obtain⟨rec,hrec⟩:∃ rec:LoopState→Option Code→Loop,rec=fun st pe=>{ state:=st,pending:=pe,fn,tmps:=a.tmps,params := #[p1,p2],assign,body,defers:=w.heap.size }:=⟨_,rfl⟩
 obtain⟨W1,hW1⟩:∃ W1,(w.alloc (.deferred (some []))).alloc (.loop (rec .ready none))=W1:=⟨_,rfl⟩;have hL1:W1.heap[w.heap.size+1]?=some (.loop (rec .ready none)):=by
  rw[← hW1];have:=World.alloc_heap_new (w.alloc (.deferred (some []))) (.loop (rec .ready none));rwa [World.size_alloc] at this
 have hK1:W1.heap[w.heap.size]?=some (.deferred (some [])):=by
  rw[← hW1];exact(Below.heap_alloc _ _ _ (by simp)).trans (World.alloc_heap_new w _)
 have hG1:Below w.heap.size w W1:=by rw[← hW1];exact((Below.refl _ w).alloc nr_ _).alloc (by simp) _
 have hI1:I 0 W1:=hI 0 w W1 w.heap.size h0 (Zh5 hG1 _) ⟨Nat.le_refl _,by omega⟩
 have hbW1:Below W0.heap.size W0 W1:=hb.trans (hG1.mono hb.size);have sp1:=(Array.getElem?_eq_some_iff.1 hb1).1;have hb1':=(hG1.block b1 sp1).trans hb1;refine⟨w.heap.size+1,[{ target := .collected w.heap.size,args := #[] }],W1,{ target := .fn (.func 169) #[.pointer (some ⟨b1,0,none⟩)],args := #[.func (.yield (w.heap.size+1)) #[] #[]] },W1,169,
  #[.func (.yield (w.heap.size+1)) #[] #[]] ++ #[.pointer (some ⟨b1,0,none⟩)],W1,?_,?_,?_,?_,fun _=>by omega,?_⟩
 ·rw[← hW1,hrec];exact run_enterLoop_outer _ _ _ _ _
 ·simp only[resolve,hg];simp[go_sem]
 ·intro f' hf';simp[Target.leads] at hf';subst hf';trivial
 ·simp[invoke,go_sem]
 ·refine(Zwi (n'-1) (by omega) ys a1 c1 n W0 W1 hbW1 h1 l1 hn hn0 b1 hb1' (w.heap.size+1)
   (fun k X=>I k X∧X.heap[w.heap.size+1]?=some (.loop (rec .ready none))∧X.heap[w.heap.size]?=some (.deferred (some []))) ?_ ⟨hI1,hL1,hK1⟩).mono ?_
  ·-- ONE ROUND
   rintro k W hkn ⟨hi,hl,hk⟩ hbW;have hlt:w.heap.size+1<W.heap.size:=(Array.getElem?_eq_some_iff.1 hl).1;have hy:=run_yield (P:=Tryz.prog) (args := #[.int .i64 ((n-1-k:Nat):Int),.int .i64 (ys.getD (n-1-k) 0)]) hl (by rw[hrec];simp)
   rw[hrec] at hy;obtain⟨W2,hW2⟩:∃ W2,W.putObj (w.heap.size+1) (.loop { rec .ready none with state := .busy })=W2:=⟨_,rfl⟩
   have hl2:W2.heap[w.heap.size+1]?=some (.loop { rec .ready none with state := .busy }):=by rw[← hW2];exact World.putObj_heap_same hlt
   have hg2:W.grownBy W2 (some (w.heap.size+1)):=by rw[← hW2];exact grownBy_putObj' W _ _
   have hk2:W2.heap[w.heap.size]?=some (.deferred (some [])):=(hg2.block _ (by omega) (fun e=>by have:=Option.some.inj e;omega)).trans hk
   have hi2:I k W2:=hI k W W2 _ hi hg2 ⟨by omega,by omega⟩
   have hz:W0.heap.size≤w.heap.size:=hb.size;have hbW2:Below W0.heap.size W W2:=⟨hg2.os,hg2.tape,hg2.output,hg2.size,fun i hj=>hg2.block i (by omega) (fun e=>by have:=Option.some.inj e;omega)⟩
   have hw:=hbody k W2 hkn hi2 (hbW.trans hbW2) (Nat.lt_of_lt_of_le hlt hg2.size);refine⟨fn,_,assign,body,hy,roundIn_of_wpIn hfn ?_⟩;have ht:((#[p1,p2]:Array Tmp).zip #[Value.int .i64 ((n-1-k:Nat):Int),.int .i64 (ys.getD (n-1-k) 0)]).foldl (fun tmps (t,a)=>tmps.setIfInBounds t a) a.tmps=(a.tmps.setIfInBounds p1 (.int .i64 ((n-1-k:Nat):Int))).setIfInBounds p2 (.int .i64 (ys.getD (n-1-k) 0)):=by simp
   rw[ht];refine hassign k W _ hkn ⟨W2,?_,?_⟩
   ·rw[← hW2];exact run_beginRound hl (by rw[hrec])
   refine wpIn_mono hw ?_;rintro e a3 W3 ⟨rfl,hi3,hk3⟩;have hl3:=(hk3.same (w.heap.size+1) (by simp)).trans hl2
   have hr:=run_endRound (P:=Tryz.prog) none hl3;have hg4:=grownBy_putObj' W3 (w.heap.size+1) (.loop (rec .ready none));rw[hrec] at hr;refine⟨_,_,hr,rfl,⟨?_,?_,?_⟩,⟨?_,?_⟩⟩
   ·have:=hI _ W3 _ _ hi3 hg4 ⟨by omega,by omega⟩
    rw[hrec] at this;exact this
   ·rw[hrec];exact World.putObj_heap_same (Array.getElem?_eq_some_iff.1 hl3).1
   ·exact(World.putObj_heap_other (by omega)).trans ((hk3.same _ (by simp)).trans hk2)
   ·rw[hrec] at hg4;refine(hbW2.trans hk3.b).trans ⟨hg4.os,hg4.tape,hg4.output,hg4.size,fun i hj=>hg4.block i ?_ (fun e=>by have:=Option.some.inj e;omega)⟩
    have:=hk3.b.size
    have:=hg2.size
    omega
   ·intro i hi';have hne:i≠w.heap.size+1∧i<W.heap.size:=by
     simp only[List.mem_cons,List.not_mem_nil,or_false] at hi';omega
    refine(World.putObj_heap_other hne.1).trans ((hk3.same i (by simp only[List.mem_cons,List.not_mem_nil,or_false] at hi' ⊢;omega)).trans (hg2.block i hne.2 (fun e=>hne.1 (Option.some.inj e))))
  ·-- BEHIND THE ITERATOR
   rintro e W2 ⟨⟨v,rfl⟩,hi,hl,hk⟩;refine⟨none,_,by have:=run_endLoop (P:=Tryz.prog) hl (by rw[hrec];simp);rw[hrec] at this;exact this,?_⟩
   exact hdone _ (hI n W2 _ _ hi (grownBy_putObj' _ _ _) ⟨by omega,by omega⟩) ((World.putObj_heap_other (by omega)).trans hk)
end Go.Proofs.YtbielfplgbammaaGreatDoor

namespace Go.Proofs.YtbielfplgbammaaGreatDoor.LN
theorem Zi1(P:Int):∀ l k:List Int,dotI l k=dotI (l.map fun x=>x%P) k+P*dotI (l.map fun x=>x/P) k
 | [],_=>by simp[dotI]
 | _::_,[]=>by simp[dotI]
 | x::l,y::k=>by
  have ih:=Zi1 P l k;simp only[List.map_cons,dotI];rw[ih];have hx:=Int.emod_add_mul_ediv x P;generalize x%P=r at *
  generalize x/P=q at *
  subst hx
  grind
def Zeu (a q:Int) (L:List Int):List Int:=L.map fun l=>(2*q*l+a)/(2*a)
theorem Zet(a q:Int)(L:List Int):(Zeu a q L).length=L.length:=by simp[Zeu]
def Qbv (a q:Int) (L:List Int):Nat:=Zdh (comb a (Zeu a q L) q L)
def Zx2 (a:Int) (L Q:List Int) (K S:Nat):Bool:=decide (0<a)&&Q.all fun q=>decide (Qbv a q L*K+q.natAbs*S<a.natAbs)
def Qbj (a:Int) (L Q:List Int) (V:List (List Int)) (P:Int):Bool :=
 decide (1<P)&&decide (V.length=L.length) &&
 (List.range L.length).all fun i=>decide ((Zeq L.length (V.getD i []) (Q.map fun q=>Zeu a q L)).map (fun x=>x%P)=Ze3 L.length i 1)
theorem Zo2(P:Int):∀ u k:List Int,dotI u (k.map fun x=>P*x)=P*dotI u k
 | [],_=>by simp[dotI]
 | _::_,[]=>by simp[dotI]
 | a::u,b::k=>by
  simp only[List.map_cons,dotI];rw[Zo2 P u k]
  grind
theorem Zye{P:Int}{m:Nat}{U V:List (List Int)}(hU:∀ u∈U,u.length=m)(hI:∀ i,i<m→(Zeq m (V.getD i []) U).map (fun x=>x%P)=Ze3 m i 1)(k:List Int)(hk:k.length=m)(h0:∀ u∈U,dotI u k=0):
  ∀ x∈k,∃ y,x=P*y:=by
 intro x hx;obtain⟨i,hi,rfl⟩:=List.mem_iff_getElem.1 hx;have h1:=hI i (by omega)
 have h2:=Zfg m k (V.getD i []) U hU h0;rw[Zi1 P,h1,Ze3,List.range_eq_range',Zhf 1 _ i 0 k,if_pos (by omega)] at h2
 rw[Nat.sub_zero,List.getD_eq_getElem?_getD,List.getElem?_eq_getElem hi,Option.getD_some,Int.one_mul] at h2;generalize k[i]=y at *
 generalize dotI ((Zeq m (V.getD i []) U).map fun x=>x/P) k=q at *
 exact⟨-q,by rw[Int.mul_neg];omega⟩
theorem Zvr{P:Int}(hP:1<P){m:Nat}{U V:List (List Int)}(hU:∀ u∈U,u.length=m)(hI:∀ i,i<m→(Zeq m (V.getD i []) U).map (fun x=>x%P)=Ze3 m i 1):
  ∀ (n:Nat) (k:List Int),(∀ x∈k,x.natAbs≤n)→k.length=m→(∀ u∈U,dotI u k=0)→∀ x∈k,x=0:=by
 intro n
 induction n using Nat.strongRecOn with
 | ind n ih =>
  intro k hn hk h0
  by_cases hz:n=0
  ·subst hz;intro x hx;have:=hn x hx
   omega
  have hd:=Zye hU hI k hk h0;have e:k=(k.map fun x=>x/P).map fun x=>P*x:=by
   rw[List.map_map];refine List.ext_getElem (by simp) fun i h1 h2=>?_
   obtain⟨y,hy⟩:=hd k[i] (List.getElem_mem h1);rw[List.getElem_map,Function.comp_apply,hy,Int.mul_ediv_cancel_left _ (by omega)]
  have h2:∀ u∈U,dotI u (k.map fun x=>x/P)=0:=fun u hu=>by
   have h:=h0 u hu;rw[e,Zo2] at h;rcases Int.mul_eq_zero.1 h with h|h
   ·omega
   ·exact h
  have h3:∀ x∈k.map (fun x=>x/P),x.natAbs≤n/2:=fun x hx=>by
   obtain⟨z,hz1,rfl⟩:=List.mem_map.1 hx;obtain⟨y,hy⟩:=hd z hz1;have h4:=hn z hz1;rw[hy,Int.mul_ediv_cancel_left _ (by omega)]
   rw[hy,Int.natAbs_mul] at h4;have h5:2*y.natAbs≤P.natAbs*y.natAbs:=Nat.mul_le_mul_right _ (by omega)
   omega
  have h4:=ih (n/2) (by omega) _ h3 (by rw[List.length_map];exact hk) h2
  intro x hx;obtain⟨y,hy⟩:=hd x hx;have h5:=h4 (x/P) (List.mem_map_of_mem hx);rw[hy,Int.mul_ediv_cancel_left _ (by omega)] at h5
  rw[hy,h5,Int.mul_zero]
theorem Zny{a:Int}{L Q:List Int}{V:List (List Int)}{P:Int}{K S:Nat}(hn:Zx2 a L Q K S=true)(hi:Qbj a L Q V P=true)(k:List Int)(hk:k.length=L.length)(hK:∀ x∈k,x.natAbs≤K)(hS:(dotI L k).natAbs<S):
  ∀ x∈k,x=0:=by
 unfold Zx2 at hn;unfold Qbj at hi;simp only[Bool.and_eq_true,decide_eq_true_eq,List.all_eq_true,List.mem_range] at hn hi;obtain⟨ha,hQ⟩:=hn;obtain⟨⟨hP,hV⟩,hI⟩:=hi;refine Zvr hP (m:=L.length) (U:=Q.map fun q=>Zeu a q L) (V:=V) (fun u hu=>?_) hI (Zdh k) k (fun x hx=>?_) hk fun u hu=>?_
 ·obtain⟨q,_,rfl⟩:=List.mem_map.1 hu;exact Zet a q L
 ·clear hS hK hk hI hV;unfold Zdh
  induction k with
  | nil=>cases hx
  | cons y l ih =>
   rw[List.map_cons,List.sum_cons];rcases List.mem_cons.1 hx with rfl|hx
   ·omega
   ·have:=ih hx;omega
 ·obtain⟨q,hq,rfl⟩:=List.mem_map.1 hu;have h1:=hQ q hq;have e:=Zel a q (Zeu a q L) L k (Zet a q L);have b:=Znm K (comb a (Zeu a q L) q L) k hK;unfold Qbv at h1;generalize dotI (Zeu a q L) k=f at *
  generalize dotI L k=T at *
  generalize Zdh (comb a (Zeu a q L) q L)*K=A at *
  rw[e] at b;have h3:(a*f).natAbs≤(a*f-q*T).natAbs+(q*T).natAbs:=by omega
  rw[Int.natAbs_mul,Int.natAbs_mul q T] at h3;have h5:q.natAbs*T.natAbs≤q.natAbs*S:=Nat.mul_le_mul_left _ (by omega)
  have h6:a.natAbs*f.natAbs<a.natAbs*1:=by omega
  have h7:f.natAbs<1:=Nat.lt_of_mul_lt_mul_left h6;omega
def Zys:List Nat:=[2,3,5,7,11,13,17,19,23,29,31,37,41,43,47,53,59,61,67,71,73,79,83,89,97]
def certL25:List Int:=Zys.map fun p=>if p=2 then 2^1024 else (((lg p p.log2 1024 1120).getD 0:Nat):Int)
def Zt1:List Int:=[-0x390cc4547b4cd34f887aebaadaaef6c9e2c25ec48d8f23b26f2a85d828ff28e8bf9ca1f7cfab0d284288c4b575780f820db978a62a9677ad80c583c592139,-0x260814ef7f5ac50a6006d98cfd70b43cacbe2b44c5a6acba00c9e36e133dfaec54ded4a6dbf2b1ee3d9f0170e9040519515ec50467e78cea24b2a987b6ebe,0xc1fe29faf3a552cd8de28a12e2da45a09a6f6ddd51c9fdf123231365c26467b7f0adb74fd1629cde5109fd2ce82ac31cf6a7159b88cbc009f06beb2efe7f1,0xc4d95d3690e9b65f02a176c883e8ec48cac8f51c6e6ac88155fbb552a8d107e0735dfadeafbd00dc15d7affcd74d1aedcc8b5819242d9f5374d744f37864b,0x2fbe3f25a3a7de9b5b481954d1f6339b2cd20553ab9d3ebec152b19718dccca849fa91bd57f1ef5cf6b3fd1de44fed74095a607713b59e5dab526a5bf2d1a,0xb1d4a89456513f0be0db174271d748684707ab7c465b9b152f9cfd46885d014b0b6313fdb7fb0ac0f8c0cbb84fa1114a2fc1ad81d7b46dc68888c7e484443,0xd4fb67b9eee711061c2f484eaeb6714b80931bf0be34de2758afdcfc8ab8d81f286fc368a34abbdee16567d53c8e00633cd4e3c89dc0919dbd4e6776a43bb,0xc899fb23e590a24b56a2adcd8da665a66ae2ec7e27986cc365cb27f6d6036be68c300e821eb425ea7f34efe116edeeffcaca2af99a0269f5b4261db47c314,-0x11d12dd471b033d8f64d3dd96ce360413127b1e913f3ae0a69f58fd7c784be2b7f4730a1aa0e86d39e38d5da6e24bfecc0540ab55bd835eba83548458d713,0xb926771e4e6fa1b1d854b5141a33d1ea69f18e9493e4bd4e7fc79ec59c41a85d36321c75af04f2583ea8a5d6ed566b5e9fa774026a91431b6a7df578e7459,-0x3c28cc5f354ba5a9fc8d241587fa21af31c3e6e94de0dd06347765459067893f4625b14ba63b900137e634223d3e51fc18e23feb9d937a72459c82f489561,-0xd89ae46dcc2d34099da88c0eeebe45a7fd8e4a5b978d5a347365896f552ec37edac4d764c4c88fe731af3bde3060926f6c408fa08ce000932d017724e19ee,-0x8a91da38a2dcab2db4bf4a851cf4bbad9dd11812fb953cccc63d0e4b2da4b049c2e28f859aff65c2f55d66641eec3465bf2cc38578db652cb80d1be86824c,0x895aa15dcf5659cff1497ef77c5517ab5bc635dc394b344b270487efb0c24dd81130969cbd26c4b2570453e614b36072827d534508273926630d8792f1505,0xec0ed674cca733ecec2ec718589c4165668c921ed200cb18f949421f53adfeaf33ee49b77683fd220fda76c247b919730b89f5c86cc2ae2e7467e6288190d,0x1ad4fa358f8a2b0001052337ff5f965738e9ef08c0ab36887e87053178564d3d4733548ea08b2398fa1c8ef38e9b07acf14183670a7557085e371538399213,-0xcf563fd1ab64de44118f0ef591830a98b4375aefbd7643b50b3a2c7dad2ddda31ea6a961f9ff6856f9af1536f3807caa73d0d8bccd1b1748307caca0b514,0x5076fb700c91eb0ad7590020d977e1805d604885b67160daae909a62406d3f401f66fe04cdb504d8309c6f2062ee41b2c29c45d2c01b4a6959315c698416e,-0xe7e496b0d5dae89fd6671905c3b39792af4f23aa9c33ab499c18e57447823ce03c684e8e0d3686afff015d66b6d57f8e91b97946b1f2fb236c8d62708a18a,-0x1797837a78ad5a7cb425ecd55e66c7f45320c2112aa185855f9ac4fbdd0f1a3f868873233f2a91c500731f84bf864689b9ca4ffc44787f78ed85c25d65bafe,0x1f12b1884e6ed34a5d58fcbbd9b64bb0e3620c645f1107b850710f74df8470506f39df5b2c079d54de688969e9b3be651cc671df4be8b0402deeed04d7136f,0x38773a3f3a38ff2f461cc1a498212e2699f4b44c91c4fc8fe76a273f7433e99ad868606c13df7bb8fbc1a0e307aa2305e1edc5fc67267c33693811a24a115a,-0x468f56cd9688ad4444754dc5516780d8a728601272b981c9e540ae5c7eccc37be9aaea74cc4f68a295024dd153707784d1a0f06af7b3318b43396873b153b9,0x29803f6a11e403f7ab8ab7f301e524fd966b213312929531e43177e8e94c4228b3ff35f744d7a0381b47d50f48de84c56fabfe6825e7c594421d4081a2f909,-0x3ba482035175b55cdd54937fbed1357892e1679104490919122bafa83262d982e03a473fabb598916f8baa291f85413607e809cc262654bd47d7d78594adb]
def Zyr:List (List Int):=[[98,118,202,124,83,146,107,201,172,64,12,55,105,153,239,226,195,7,28,1,187,165,30,221,20],[97,27,31,158,30,77,244,51,44,105,139,212,178,232,112,144,112,50,139,194,131,126,250,243,199],[145,223,213,170,95,13,240,130,153,118,135,223,243,186,171,134,207,140,198,195,116,22,35,91,65],[127,43,6,14,138,151,250,70,62,80,184,44,115,51,176,244,145,131,206,236,45,69,179,200,133],[215,29,202,95,72,74,48,4,10,16,59,3,80,6,27,146,155,64,144,191,207,28,47,186,115],[1,23,188,40,44,144,148,45,179,1,2,131,81,130,190,174,102,201,98,127,88,72,69,149,96],[21,40,35,113,140,63,120,23,173,12,30,112,115,247,188,77,109,86,237,6,190,149,14,217,137],[165,242,4,13,24,68,242,68,11,194,105,217,200,25,217,157,134,179,219,36,80,241,64,196,176],[206,4,124,119,72,189,189,146,49,121,239,155,85,23,138,58,180,221,118,48,106,186,171,238,86],[210,99,247,60,139,154,200,40,223,202,137,227,11,116,74,91,113,69,222,174,223,137,100,238,243],[137,154,125,2,209,203,20,147,218,42,113,181,57,132,187,233,7,180,4,13,134,94,179,172,127],[179,210,49,18,55,213,151,96,5,60,141,57,148,95,99,145,82,178,219,173,202,14,84,100,228],[102,62,217,129,14,127,200,224,35,146,125,220,123,9,18,106,211,148,211,96,123,238,196,223,230],[107,242,170,28,59,5,149,152,27,153,45,77,216,213,205,218,113,101,58,81,174,221,44,184,57],[108,175,78,124,22,49,53,21,88,184,52,93,49,179,193,43,94,166,25,71,133,248,120,207,180],[190,12,33,105,31,211,119,39,220,34,3,27,122,55,99,131,239,148,215,72,248,155,198,222,150],[144,6,56,78,4,2,126,114,216,174,212,176,32,191,21,45,218,115,143,120,153,136,150,24,232],[177,196,131,171,223,9,122,185,198,226,118,98,221,101,109,186,72,130,15,250,167,241,109,149,105],[5,109,58,172,46,17,108,71,152,136,247,173,16,175,59,71,120,96,238,26,93,192,136,39,81],[186,19,103,188,193,244,223,99,12,51,155,33,75,7,116,75,27,25,162,116,163,194,41,249,169],[16,165,61,90,34,101,66,39,9,179,6,2,90,243,140,110,154,165,206,43,233,68,70,8,11],[234,230,151,18,15,70,18,94,170,185,103,207,140,194,73,45,240,94,238,202,45,181,231,74,100],[93,157,117,129,100,102,151,37,142,24,195,236,119,121,156,62,96,20,140,202,137,110,136,203,133],[34,56,244,228,180,109,49,144,4,202,26,66,171,139,244,245,65,98,96,38,169,12,38,158,59],[93,79,212,48,179,15,215,149,126,233,223,17,202,226,95,109,96,28,47,201,229,125,122,118,247]]
theorem certL25_head:certL25.head?=some (2^1024):=by decide +kernel
theorem certL25_len:certL25.length=25:=by unfold certL25;rw[List.length_map];rfl
theorem Zsu:Zx2 (2^1024) certL25 Zt1 (2^17) (2^521)=true:=by decide +kernel
theorem Zvs:Qbj (2^1024) certL25 Zt1 Zyr 251=true:=by decide +kernel
theorem cert25_zero(k:List Int)(hk:k.length=certL25.length)(hK:∀ x∈k,x.natAbs≤2^17)(hS:(dotI certL25 k).natAbs<2^521):∀ x∈k,x=0:=Zny Zsu Zvs k hk hK hS
end Go.Proofs.YtbielfplgbammaaGreatDoor.LN

namespace Go.Proofs.YtbielfplgbammaaGreatDoor
open Go.RowKit
theorem LN.ends_decide_of{pr:List Int}{f:Int→Nat}{K S:Nat}(hz:∀ k:List Int,k.length=pr.length→(∀ x∈k,x.natAbs≤K)→(LN.dotI (pr.map fun p=>(f p:Int)) k).natAbs<S→∀ x∈k,x=0)(hp:pr.Nodup)(l:List (Int×Int))(hl:l.length*K≤S)(hne:l≠[])
  (hm:∀ x∈l,x.1∈pr∧x.2≠0∧x.2.natAbs≤K) (hd:(l.map Prod.fst).Nodup):LN.hiS f (LN.negT l)≤LN.loS f l∨LN.hiS f l≤LN.loS f (LN.negT l):=by
 have h1:=LN.hiS_le f K l fun x hx=>(hm x hx).2.2
 have h2:=LN.hiS_le f K (LN.negT l) (by
  intro x hx;obtain⟨y,hy,rfl⟩:=List.mem_map.1 hx;have:=(hm y hy).2.2
  show (-y.2).natAbs≤K
  omega)
 have e:(LN.negT l).length=l.length:=by simp[LN.negT]
 rw[e] at h2;have h3:=LN.sumT_eq f l
 by_cases hT:(LN.sumT f l).natAbs<S
 ·exfalso;rw[← LN.dotI_coef f pr hp l fun x hx=>(hm x hx).1] at hT
  have h4:=hz (pr.map fun p=>LN.coefP p l) (by simp) (by
   intro x hx;obtain⟨p,_,rfl⟩:=List.mem_map.1 hx;exact LN.coefP_le K l hd (fun y hy=>(hm y hy).2.2) p) hT
  match l,hne with
  | x::r,_ =>
   have h5:=h4 _ (List.mem_map.2 ⟨x.1,(hm x List.mem_cons_self).1,rfl⟩);rw[LN.coefP_mem _ hd x List.mem_cons_self] at h5;exact(hm x List.mem_cons_self).2.1 h5
 ·omega
theorem Znx:∀ x∈LN.certL25,(0:Int)≤x:=by decide +kernel
theorem Zqh:Zg2.map (fun p=>LN.lg p p.log2 1024 1120)=LN.certL25.tail.map fun x=>some x.toNat:=by decide +kernel
theorem Zq3:Zpi.map (fun p=>((lf 1024 p:Nat):Int))=LN.certL25:=by
 have h:=Zqh;have h0:=LN.certL25_head;have hp:=Znx;obtain⟨c0,ct,e⟩:∃ c0 ct,LN.certL25=c0::ct:=⟨_,_,rfl⟩;rw[e] at h h0 hp ⊢;rw[Zph,List.map_cons];simp only[List.head?_cons,Option.some.injEq] at h0;rw[Zw6,h0];congr 1;rw[List.tail_cons] at h;rw[List.map_map];have hp':∀ x∈ct,(0:Int)≤x:=fun x hx=>hp x (List.mem_cons_of_mem _ hx)
 clear hp h0 e;have key:∀ (l:List Nat) (ct:List Int),(∀ p∈l,p∈Zg2)→(∀ x∈ct,(0:Int)≤x)→l.map (fun p=>LN.lg p p.log2 1024 1120)=ct.map (fun x=>some x.toNat)→l.map ((fun p=>((lf 1024 p:Nat):Int)) ∘ fun p=>((p:Nat):Int))=ct:=by
  intro l
  induction l with
  | nil =>
   intro ct _ _ h;cases ct with
   | nil=>rfl
   | cons x r=>simp at h
  | cons p l ih =>
   intro ct hl hc h;cases ct with
   | nil=>simp at h
   | cons x r =>
    simp only[List.map_cons,List.cons.injEq] at h;rw[List.map_cons,ih r (fun q hq=>hl q (List.mem_cons_of_mem _ hq)) (fun y hy=>hc y (List.mem_cons_of_mem _ hy)) h.2]
    congr 1;have:=Zw4 (hl p (List.mem_cons_self ..)) (by decide) h.1
    have hx:=hc x (List.mem_cons_self ..)
    show ((lgN p 1024:Nat):Int)=x
    rw[this];omega
 exact key Zg2 ct (fun _ h=>h) hp' h
def Ke:Nat:=2^17
theorem Zkc{tl:List (Int×Int)}(h1:∀ x∈tl,x.1∈Zpi)(h0:∀ x∈tl,x.2≠0)(hd:(tl.map Prod.fst).Nodup)(hk:∀ x∈tl,x.2.natAbs≤Ke)(hl:tl.length≤100)(hne:tl≠[]):Dec tl:=by
 have hS:=@Zis tl.length 17 521 hl (by decide)
 have hz:∀ k:List Int,k.length=Zpi.length→(∀ x∈k,x.natAbs≤Ke)→(LN.dotI (Zpi.map fun p=>((lf 1024 p:Nat):Int)) k).natAbs<2^521→∀ x∈k,x=0:=by
  intro k hk hK hT;rw[Zq3] at hT;exact LN.cert25_zero k (by rw[hk,LN.certL25_len];rfl) hK hT
 have:=LN.ends_decide_of hz (by decide) tl hS hne (fun x hx=>⟨h1 x hx,h0 x hx,hk x hx⟩) hd
 unfold Dec;rw[LN.eLo_eq,LN.eHi_eq];omega
theorem Zf9.all{ps:List Int}{l:List Rat}(h1:∀ p∈ps,p∈Zpi)(h2:ps.Nodup)(hk:∀ x∈tlQ ps l,x.2.natAbs≤Ke):Zf9 ps l :=
 ⟨h1,h2,fun x hx=>Nat.le_trans (hk x hx) (by decide),fun hn hne=>Zkc (fun _ hx=>h1 _ (Zv hx).1) (Zkt h1 h2).nz (Zkt h1 h2).nd hk (Zie hn) hne⟩
end Go.Proofs.YtbielfplgbammaaGreatDoor

namespace Go.Proofs.YtbielfplgbammaaGreatDoor.LN
end Go.Proofs.YtbielfplgbammaaGreatDoor.LN

namespace Go.Proofs.YtbielfplgbammaaGreatDoor
open Go.RowKit
/-! The numbers of the law. -/
theorem Qaa(x:Int):LN.ex 1 (x:Rat)=x:=by
 unfold LN.ex;rw[Rat.num_intCast,Rat.den_intCast];simp
theorem Zyz{p:Int}(h:p∈Zpi):2≤p∧p≤97:=by
 have key:∀ q∈Zpi,2≤q∧q≤97:=by decide
 exact key p h
structure Zxd (ps:List Int):Prop where
 p0:Qv ps=0
 all:∀ p∈ps,p∈Zpi
 nd:ps.Nodup
 n0:0<ps.length
 n6:ps.length≤6
theorem Zxd.pr{ps:List Int}(P:Zxd ps):∀ p∈ps,2≤p∧p≤97:=fun p hp=>Zyz (P.all p hp)
theorem Zxd.pos{ps:List Int}(P:Zxd ps):∀ p∈ps,0<p:=fun p hp=>by have:=P.pr p hp;omega
theorem Zxd.i64{ps:List Int}(P:Zxd ps):Zf3 ps:=fun p hp=>by have:=P.pr p hp;omega
def rq (x:List Int):List Rat:=x.map fun x:Int=>(x:Rat)
def Qa9 (x y:List Int):List Int:=List.zipWith (fun a b=>a-b) x y
def Bd (N:Nat) (x:List Int):Prop:=∀ a∈x,a.natAbs≤N
theorem Bd.le{N K:Nat}{x:List Int}(h:Bd N x)(hK:N≤K):Bd K x:=fun a ha=>Nat.le_trans (h a ha) hK
theorem Bd.sml{N:Nat}{x:List Int}(h:Bd N x):Sml N 1 (rq x):=fun q hq=>by
 obtain⟨a,ha,rfl⟩:=List.mem_map.1 hq;refine⟨by rw[Rat.den_intCast];exact Nat.dvd_refl 1,?_⟩
 rw[Qaa];exact h a ha
theorem Bd.sm{N D:Nat}{x:List Int}(h:Bd N x)(hD:N<10^D)(h1:1<10^D):∀ q∈rq x,Sm D q:=fun q hq=>by
 obtain⟨a,ha,rfl⟩:=List.mem_map.1 hq;exact⟨by rw[Rat.num_intCast];exact Nat.lt_of_le_of_lt (h a ha) hD,by rw[Rat.den_intCast];exact h1⟩
theorem Xs.bd{x:List Int}(h:Xs x):Bd 1000 x:=fun a ha=>by have:=h a ha;omega
theorem Bd.sub{N K:Nat}{x y:List Int}(h:Bd N x)(k:Bd K y):Bd (N+K) (Qa9 x y):=fun a ha=>by
 obtain⟨i,hi,rfl⟩:=List.mem_iff_getElem.1 ha;have hi':i<x.length∧i<y.length:=by simp[Qa9] at hi;omega
 simp only[Qa9,List.getElem_zipWith];have h1:=h _ (List.getElem_mem hi'.1);have h2:=k _ (List.getElem_mem hi'.2);omega
theorem Sml.goodA{N M:Nat}{ps:List Int}{l:List Rat}(hM:0<M)(h:Sml N M l)(hN:N≤Ke)(P:Zxd ps):Zf9 ps l :=
 Zf9.all P.all P.nd fun x hx=>Nat.le_trans (h.kb hM x hx) hN
theorem Bd.good{N:Nat}{x ps:List Int}(h:Bd N x)(hN:N≤Ke)(P:Zxd ps):Zf9 ps (rq x):=(h.sml).goodA (by decide) hN P
structure Zre (w:World) (V:List Value) (ls:List (List Int)):Prop where
 len:V.length=ls.length
 at_:∀ i,i<ls.length→∃ a' c',V[i]?=some (.slice a' (ls.getD i []).length c')∧Rd w a' (Qw (ls.getD i []))
theorem Zre.below{w w':World}{V:List Value}{ls:List (List Int)}{B:Nat}(h:Zre w V ls)(hb:Below B w w')(hB:w.heap.size≤B):Zre w' V ls :=
 ⟨h.len,fun i hi=>by obtain⟨a',c',h1,h2⟩:=h.at_ i hi;exact⟨a',c',h1,h2.below hb hB⟩⟩
theorem Zre.nil(w:World):Zre w [] []:=⟨rfl,fun i hi=>absurd hi (Nat.not_lt_zero i)⟩
theorem Zre.append{w:World}{V V':List Value}{ls ls':List (List Int)}(h:Zre w V ls)(k:Zre w V' ls'):Zre w (V++V') (ls++ls'):=by
 refine⟨by simp[h.len,k.len],fun i hi=>?_⟩
 by_cases hi1:i<ls.length
 ·obtain⟨a',c',h1,h2⟩:=h.at_ i hi1;have e:(ls++ls').getD i []=ls.getD i []:=by rw[List.getD_eq_getElem?_getD,List.getD_eq_getElem?_getD,List.getElem?_append_left hi1]
  rw[e];exact⟨a',c',by rw[List.getElem?_append_left (by rw[h.len];exact hi1)];exact h1,h2⟩
 ·rw[List.length_append] at hi;obtain⟨a',c',h1,h2⟩:=k.at_ (i-ls.length) (by omega)
  have e:(ls++ls').getD i []=ls'.getD (i-ls.length) []:=by rw[List.getD_eq_getElem?_getD,List.getD_eq_getElem?_getD,List.getElem?_append_right (by omega)]
  rw[e];exact⟨a',c',by rw[List.getElem?_append_right (by rw[h.len];omega),h.len];exact h1,h2⟩
theorem Zre.one{w:World}{V:List Value}{ls:List (List Int)}(h:Zre w V ls):∀ u∈V,u.oneCell'=true:=fun u hu=>by
 obtain⟨i,hi,rfl⟩:=List.mem_iff_getElem.1 hu;obtain⟨a',c',h1,_⟩:=h.at_ i (by rw[← h.len];exact hi)
 rw[List.getElem?_eq_getElem hi] at h1;rw[Option.some.inj h1];rfl
theorem RdI.vals{w:World}{a:Option Addr}{ls:List (List Int)}(h:RdI w a ls):∃ V,Zre w V ls∧Rd w a V:=by
 rcases h with rfl|⟨b,off,rfl,hb,hc⟩
 ·exact⟨[],Zre.nil w,.inl rfl⟩
 ·refine⟨(List.range ls.length).map fun i=>(w.cell? ⟨b,off+i,none⟩).getD (.slice none 0 0),⟨by simp,fun i hi=>?_⟩,.inr ⟨b,off,rfl,hb,fun i v hv=>?_⟩⟩
  ·obtain⟨a',c',h1,h2⟩:=hc i hi;refine⟨a',c',?_,h2⟩;rw[List.getElem?_map,List.getElem?_range hi,Option.map_some,h1];rfl
  ·have hi:i<ls.length:=by
    have:=(List.getElem?_eq_some_iff.1 hv).1
    simpa using this
   obtain⟨a',c',h1,h2⟩:=hc i hi;rw[List.getElem?_map,List.getElem?_range hi,Option.map_some,h1] at hv;rw[h1,← Option.some.inj hv];rfl
theorem Kk{P:Program}{w:World}{ops:Array Oper}{rest:List Oper}{o:Oper}{a:Act}{Q:Exit→Act→World→Prop}(hgd:o.guard=none)(s x:Operand)(t:TypeId)
  (ho:o.op = .call { callee := .builtin .append,args := #[s,x],argTypes := #[t,t] }) {e:TypeId} {z:Value} {bytes:Nat} (E:Zac P t e z 1 bytes)
  (v:Value) (hs:a.eval s=v) {base n:Nat} {xs:List Value} (hown:w.ownsRow base e 1 v n xs) (ad:Option Addr) (m c:Nat) (V:List Value) (hx:a.eval x = .slice ad m c) (hnil:ad=none→m=0∧c=0) (hl:V.length=m) (hr:Rd w ad V) (h1:∀ u∈V,u.oneCell'=true)
  (h63:n+m≤4611686018427387904) (hbytes:(n+m)*bytes≤140737488355328) (hbase:base≤w.heap.size)
  (h:∀ v' w',w'.ownsRow base e 1 v' (n+m) (xs++V)→w.grownBy w' v.ownBlock→wpList P ops Q rest (a.put o.dst v') w'):wpList P ops Q (o::rest) a w:=by
 obtain⟨i,hi,hz,hsize,hby⟩:=E.info
 match ad,hr,hnil with
 | none,hr,hnil =>
  obtain⟨rfl,rfl⟩:=hnil rfl;obtain rfl:V=[]:=List.eq_nil_of_length_eq_zero hl;refine wpList_append_own_none hgd s x t ho base e i 1 E.ht hi v n xs hs hown hx ?_;exact h v w (by simpa using hown) ⟨rfl,rfl,rfl,Nat.le_refl _,fun _ _ _=>rfl⟩
 | some ad,hr,_ =>
  refine wpList_append_own _ hgd s x t ho base e i z 1 bytes E.ht hi hz hsize hby E.hzs E.pos v n xs hs hown ad m c V hx (by omega) ?_ h1 (by unfold maxLen;omega) hbytes hbase fun v' w' h2 h3 _=>h v' w' h2 h3
  intro j u hj;rcases hr with rfl|⟨b,off,hb,_,hc⟩
  ·simp at hj
  ·obtain rfl:=Option.some.inj hb;have:=hc j u hj
   have hadd:(⟨b,off,none⟩:Addr).add j=⟨b,off+j,none⟩:=by unfold Addr.add;split<;>simp_all
   rw[hadd];exact this
def Qb1 (w:World) (n:Nat) (l:List Int) (e:Ending):Prop:=(mx l=0∧∃ a c,e = .returned (.tuple #[.slice a n c,.int .i64 0])∧Rd w a (Qw l))∨(mx l≠0∧e = .returned (.tuple #[.slice none 0 0,.int .i64 4]))
theorem Qb1.form{w:World}{n:Nat}{l:List Int}{e:Ending}(h:Qb1 w n l e):∃ v1 v2,e = .returned (.tuple #[v1,v2]):=by
 rcases h with⟨_,a,c,h,_⟩|⟨_,h⟩
 ·exact⟨_,_,h⟩
 ·exact⟨_,_,h⟩
structure Qa6 (w:World) (n:Nat) (g:Nat) (la lb:List Rat):Prop where
 lt:g<w.heap.size
 k0:∃ a c,w.cell? ⟨g,0,none⟩=some (.slice a n c)∧Rd w a (Kg la)
 k1:∃ a c,w.cell? ⟨g,1,none⟩=some (.slice a n c)∧Rd w a (Kg lb)
def Qb0 (w:World) (n:Nat) (l:List Int) (q:Int) (e:Ending):Prop:=(mx l=0∧∃ a c,e = .returned (.tuple #[.slice a n c,.int .i64 q,.int .i64 0])∧Rd w a (Qw l))∨(mx l≠0∧e = .returned (.tuple #[.slice none 0 0,.int .i64 0,.int .i64 4]))
theorem Qb0.form{w:World}{n:Nat}{l:List Int}{q:Int}{e:Ending}(h:Qb0 w n l q e):∃ v1 v2 v3,e = .returned (.tuple #[v1,v2,v3]):=by
 rcases h with⟨_,a,c,h,_⟩|⟨_,h⟩
 ·exact⟨_,_,_,h⟩
 ·exact⟨_,_,_,h⟩
end Go.Proofs.YtbielfplgbammaaGreatDoor

namespace Go.Proofs.YtbielfplgbammaaGreatDoor
def Zzl (n:Nat) (m:Int):List Int:=List.replicate n (-m)
def Zzu (m:Int):List Int→List Int
 | []=>[]
 | a::r=>if a=m then -m::Zzu m r else (a+1)::r
def seqB (n:Nat) (m:Int):Nat→List Int
 | 0=>Zzl n m
 | k+1=>Zzu m (seqB n m k)
end Go.Proofs.YtbielfplgbammaaGreatDoor

namespace Go.Proofs.YtbielfplgbammaaGreatDoor
open Go.RowKit
def Qb7 (a0:Option Addr) (n c0:Nat) (most:Int) (a1:Option Addr) (m1 c1:Nat) (a2:Option Addr) (m2 c2:Nat):Array Value := #[.slice a0 n c0,.int .i64 most,.slice a1 m1 c1,.slice a2 m2 c2]
structure Zy6 (W:World) (ps low high:List Int) (a0:Option Addr) (c0:Nat) (g1 g2:Nat):Prop where
 box:∃ most a1 m1 c1 a2 m2 c2,W.heap[g1]?=some (.cells (Qb7 a0 ps.length c0 most a1 m1 c1 a2 m2 c2) 164 (0,0))
 lst:∃ g d,W.heap[g2]?=some (.cells #[.slice (some ⟨g,0,none⟩) 2 d] 54 (0,0))∧Qa6 W ps.length g (rq low) (rq high)
 rp:Rd W a0 (Qw ps)
theorem Qa6.below{W W':World}{n g:Nat}{la lb:List Rat}(h:Qa6 W n g la lb)(hb:Below W.heap.size W W'):Qa6 W' n g la lb:=by
 obtain⟨h1,⟨a,c,k0,r0⟩,⟨a',c',k1,r1⟩⟩:=h;exact⟨Nat.lt_of_lt_of_le h1 hb.size,⟨a,c,(hb.cell (p:=⟨g,0,none⟩) h1).trans k0,r0.below hb nr_⟩,⟨a',c',(hb.cell (p:=⟨g,1,none⟩) h1).trans k1,r1.below hb nr_⟩⟩
theorem Zy6.below{W W':World}{ps low high:List Int}{a0:Option Addr}{c0 g1 g2:Nat}(h:Zy6 W ps low high a0 c0 g1 g2)(hb:Below W.heap.size W W'):Zy6 W' ps low high a0 c0 g1 g2:=by
 obtain⟨⟨most,a1,m1,c1,a2,m2,c2,h1⟩,⟨g,d,h2,T⟩,rp⟩:=h;exact⟨⟨most,a1,m1,c1,a2,m2,c2,Kd h1 hb nr_⟩,⟨g,d,Kd h2 hb nr_,T.below hb⟩,rp.below hb nr_⟩
end Go.Proofs.YtbielfplgbammaaGreatDoor

namespace Go.Proofs.YtbielfplgbammaaGreatDoor
open Go.RowKit Go.Shelf
attribute [local go_sem] Oper.semAt_some
theorem Zbu.block15{w w':World}{B c g:Nat}{l:List Int}(h:Zbu w B (some ⟨g,0,none⟩) c l)(he:w'.heap[g]?=w.heap[g]?):Zbu w' B (some ⟨g,0,none⟩) c l:=by
 refine⟨h.1,?_⟩;rcases h.2 with h1|⟨g',cap,cur,hv,hb,hg,rest⟩
 ·exact .inl h1
 ·simp only[Value.slice.injEq,Option.some.injEq,Addr.mk.injEq,and_true,true_and] at hv;obtain⟨rfl,rfl⟩:=hv;exact .inr ⟨g,c,cur,rfl,hb,by rw[he];exact hg,rest⟩
theorem Zbu.lower15{w:World}{B B' c:Nat}{a:Option Addr}{l:List Int}(h:Zbu w B a c l)(hb:B'≤B):Zbu w B' a c l :=
 ⟨h.1,h.2.imp id fun ⟨g,cap,cur,h1,h2,h3⟩=>⟨g,cap,cur,h1,Nat.le_trans hb h2,h3⟩⟩
end Go.Proofs.YtbielfplgbammaaGreatDoor

namespace Go.Proofs.YtbielfplgbammaaGreatDoor
open Go.RowKit Go.Shelf
structure KpC (n₀:Nat) (S:List Nat) (X Y:World):Prop where
 b:Below n₀ X Y
 same:∀ i∈S,Y.heap[i]?=X.heap[i]?
theorem KpC.refl(n₀:Nat)(S:List Nat)(X:World):KpC n₀ S X X:=⟨Below.refl _ _,fun _ _=>rfl⟩
theorem KpC.trans{n₀:Nat}{S:List Nat}{X Y Z:World}(h:KpC n₀ S X Y)(k:KpC n₀ S Y Z):KpC n₀ S X Z:=⟨h.b.trans k.b,fun i hi=>(k.same i hi).trans (h.same i hi)⟩
theorem KpC.of{n₀ B:Nat}{S:List Nat}{X Y:World}(h:Below B X Y)(h0:n₀≤B)(hS:∀ i∈S,i<B):KpC n₀ S X Y:=⟨h.mono h0,fun i hi=>h.block i (hS i hi)⟩
theorem KpC.grown{n₀ r:Nat}{S:List Nat}{X Y:World}(h:X.grownBy Y (some r))(h0:n₀≤r)(h1:n₀≤X.heap.size)(hS:∀ i∈S,i<X.heap.size∧i≠r):KpC n₀ S X Y :=
 ⟨⟨h.os,h.tape,h.output,h.size,fun i hi=>h.block i (by omega) (fun e=>by have:=Option.some.inj e;omega)⟩,fun i hi=>h.block i (hS i hi).1 (fun e=>(hS i hi).2 (Option.some.inj e))⟩
attribute [local go_sem] Oper.semAt_some
structure Zkk (w:World) (B:Nat) (b:Option Addr) (d n:Nat) (L:List (Nat×Nat)) (ls:Nat→List Int):Prop where
 row:w.ownsRow B 33 1 (.slice b L.length d) L.length (L.map fun x => .slice (some ⟨x.1,0,none⟩) n x.2)
 each:∀ i (h1:i<L.length),Zbu w B (some ⟨L[i].1,0,none⟩) L[i].2 (ls i)
 lens:∀ i,(ls i).length=n
theorem Zkk.nil(w:World)(B n:Nat)(ls:Nat→List Int)(h:∀ i,(ls i).length=n):Zkk w B none 0 n [] ls:=⟨⟨rfl,.inl ⟨rfl,rfl⟩⟩,fun i h1=>by simp at h1,h⟩
theorem Zg1{w:World}{B c g:Nat}{l:List Int}(h:Zbu w B (some ⟨g,0,none⟩) c l):B≤g∧g<w.heap.size:=World.ownsRow.lt h g rfl
theorem Zkk.kept{w w':World}{B r:Nat}{b:Option Addr}{d n:Nat}{L:List (Nat×Nat)}{ls:Nat→List Int}(h:Zkk w B b d n L ls)(hg:w.grownBy w' (some r))(hr:r<B):Zkk w' B b d n L ls:=by
 refine⟨h.row.kept hg (.inr fun e=>?_),fun i h1=>(h.each i h1).block15 (hg.block _ (Zg1 (h.each i h1)).2 fun e=>?_),h.lens⟩
 ·have:=(h.row.lt r e).1
  omega
 ·have:=(Zg1 (h.each i h1)).1
  have:=Option.some.inj e
  omega
theorem Zkk.below{w w':World}{B B':Nat}{b:Option Addr}{d n:Nat}{L:List (Nat×Nat)}{ls:Nat→List Int}(h:Zkk w B b d n L ls)(hb:Below B' w w')(hB:w.heap.size≤B'):Zkk w' B b d n L ls :=
 ⟨Vq h.row hb hB,fun i h1=>(h.each i h1).block15 (hb.block _ (by have:=(Zg1 (h.each i h1)).2;omega)),h.lens⟩
theorem Zkk.lower{w:World}{B B':Nat}{b:Option Addr}{d n:Nat}{L:List (Nat×Nat)}{ls:Nat→List Int}(h:Zkk w B b d n L ls)(hb:B'≤B):Zkk w B' b d n L ls :=
 ⟨⟨h.row.1,h.row.2.imp id fun ⟨g,cap,cur,h1,h2,h3⟩=>⟨g,cap,cur,h1,Nat.le_trans hb h2,h3⟩⟩,fun i h1=>(h.each i h1).lower15 hb,h.lens⟩
theorem Zp8{w:World}{B1 B2 s1 s2 n1 n2:Nat}{e1 e2:TypeId}{v1 v2:Value}{x1 x2:List Value}(h1:w.ownsRow B1 e1 s1 v1 n1 x1)(h2:w.ownsRow B2 e2 s2 v2 n2 x2)(hne:e1≠e2):
  ∀ k,v1.ownBlock=some k→v2.ownBlock≠some k:=by
 intro k hk hk2;rcases h1.2 with⟨rfl,_⟩|⟨g,cap,cur,rfl,_,hg,_⟩
 ·simp[Value.ownBlock] at hk
 ·rcases h2.2 with⟨rfl,_⟩ | ⟨g2,cap2,cur2,rfl,_,hg2,_⟩
  ·simp[Value.ownBlock] at hk2
  ·simp only[Value.ownBlock,Option.some.injEq] at hk hk2;subst hk;subst hk2;rw[hg] at hg2;simp only[Option.some.injEq,Obj.cells.injEq] at hg2;exact hne hg2.2.1
theorem Zkk.put{w1 w3:World}{B d n c g:Nat}{b:Option Addr}{L:List (Nat×Nat)}{ls:Nat→List Int}{v':Value}(h:Zkk w1 B b d n L ls)(ho:Zbu w1 B (some ⟨g,0,none⟩) c (ls L.length))
  (hown:w3.ownsRow B 33 1 v' (L.length+1) ((L.map fun x=>Value.slice (some ⟨x.1,0,none⟩) n x.2)++[.slice (some ⟨g,0,none⟩) n c])) (hg:(w1.alloc (.cells #[.slice (some ⟨g,0,none⟩) n c] 33)).grownBy w3 (Value.slice b L.length d).ownBlock) :
  ∃ b' d',v' = .slice b' (L.length+1) d'∧Zkk w3 B b' d' n (L++[(g,c)]) ls:=by
 obtain⟨b',d',rfl⟩:=Ky hown;have hA:Below w1.heap.size w1 (w1.alloc (.cells #[.slice (some ⟨g,0,none⟩) n c] 33)):=(Below.refl _ _).alloc nr_ _;have hrow:=Vq h.row hA nr_;have keep:∀ (a2:Option Addr) (c2:Nat) (l2:List Int),Zbu w1 B a2 c2 l2→Zbu w3 B a2 c2 l2:=fun a2 c2 l2 h2=>by
  have h3:Zbu _ B a2 c2 l2:=h2.below hA nr_;unfold Zbu at h3 ⊢;refine World.ownsRow.kept h3 hg ?_;have hap:=Zp8 hrow h3 (by decide)
  cases hv:(Value.slice b L.length d).ownBlock with
  | none=>cases hv2:(Value.slice a2 l2.length c2).ownBlock<;>simp
  | some k=>exact .inr (hap k hv)
 refine⟨b',d',rfl,?_,?_,h.lens⟩
 ·rw[List.length_append,List.map_append];exact hown
 ·intro i h1
  by_cases hi:i<L.length
  ·simp only[List.getElem_append_left hi];exact keep _ _ _ (h.each i hi)
  ·have e:i=L.length:=by simp at h1;omega
   subst e;simp only[List.getElem_append_right nr_,Nat.sub_self,List.getElem_cons_zero];exact keep _ _ _ ho
end Go.Proofs.YtbielfplgbammaaGreatDoor

namespace Go.Proofs.YtbielfplgbammaaGreatDoor
def Zmw (l:List (List Int)) (F:Nat→Nat):List (List Int):=(List.range l.length).map fun k=>l.getD (F k) []
theorem Zfq(l:List (List Int))(F:Nat→Nat):(Zmw l F).length=l.length:=by simp[Zmw]
end Go.Proofs.YtbielfplgbammaaGreatDoor

namespace Go.Proofs.YtbielfplgbammaaGreatDoor
open Go.RowKit Go.Shelf
attribute [local go_sem] Oper.semAt_some
def vF (LL:List (Nat×Nat)) (n:Nat) (F:Nat→Nat) (k:Nat):List Value:=(List.range k).map fun j=>Value.slice (some ⟨(LL.getD (F j) (0,0)).1,0,none⟩) n (LL.getD (F j) (0,0)).2
theorem Zro(LL:List (Nat×Nat))(n:Nat)(F:Nat→Nat)(k:Nat):(vF LL n F k).length=k:=by simp[vF]
theorem Zkk.cellAt{w:World}{B d n:Nat}{b:Option Addr}{L:List (Nat×Nat)}{ls:Nat→List Int}(h:Zkk w B b d n L ls){i:Nat}(hi:i<L.length):
  ∃ g,b=some ⟨g,0,none⟩∧w.cell? ⟨g,i,none⟩=some (.slice (some ⟨(L.getD i (0,0)).1,0,none⟩) n (L.getD i (0,0)).2):=by
 obtain⟨g,cap,hv,-,h2,-,h4,-⟩:=Qb h.row (by omega)
 simp only[Value.slice.injEq] at hv;obtain⟨rfl,-,-⟩:=hv;refine⟨g,rfl,?_⟩;rw[h4 i (by omega),List.getElem?_map,List.getElem?_eq_getElem hi,List.getD_eq_getElem?_getD,List.getElem?_eq_getElem hi]
 rfl
theorem Zkk.sorted{w:World}{B d n:Nat}{b:Option Addr}{L:List (Nat×Nat)}{ls:Nat→List Int}(h:Zkk w B b d n L ls){l:List (List Int)}{F:Nat→Nat}(hl:L.length=l.length)(he:∀ i,i<l.length→l.getD i []=ls i)(hF:∀ k,k<l.length→F k<l.length){a:Option Addr}(hr:Rd w a (vF L n F l.length)):RdI w a (Zmw l F):=by
 rcases hr with h0|⟨g,o,rfl,hg,hc⟩
 ·have:=congrArg List.length h0
  rw[Zro] at this;exact .inl (List.eq_nil_of_length_eq_zero (by rw[Zfq];exact this))
 ·refine .inr ⟨g,o,rfl,hg,fun i hi=>?_⟩
  rw[Zfq] at hi;have e:(Zmw l F).getD i []=ls (F i):=by
   unfold Zmw;rw[List.getD_eq_getElem?_getD,List.getElem?_map,List.getElem?_range hi];exact he _ (hF i hi)
  have hFi:F i<L.length:=by rw[hl];exact hF i hi
  refine⟨some ⟨L[F i].1,0,none⟩,L[F i].2,?_,?_⟩
  ·rw[e,h.lens];refine hc i _ ?_;unfold vF;rw[List.getElem?_map,List.getElem?_range hi];simp only[Option.map_some];rw[List.getD_eq_getElem?_getD,List.getElem?_eq_getElem hFi];rfl
  ·rw[e];exact(h.each (F i) hFi).rd
structure Qbo (wi:World) (D n:Nat) (ls:Nat→List Int) (cnt:Nat) (X:World) (b:Option Addr) (d:Nat) (LL:List (Nat×Nat)):Prop where
 len:LL.length=cnt
 c6:X.heap[wi.heap.size]?=some (.cells #[.slice b cnt d] 72 (0,0))
 own:Zkk X (D+3) b d n LL ls
 bel:Below wi.heap.size wi X
theorem Qbo.kept{wi:World}{D n cnt:Nat}{ls:Nat→List Int}{X Y:World}{b:Option Addr}{d:Nat}{LL:List (Nat×Nat)}{r:Nat}(h:Qbo wi D n ls cnt X b d LL)(hg:X.grownBy Y (some r))(hr:D≤r∧r≤D+2)(h0:wi.heap.size<D):Qbo wi D n ls cnt Y b d LL:=by
 refine⟨h.len,(hg.block _ (Array.getElem?_eq_some_iff.1 h.c6).1 (fun e=>by have:=Option.some.inj e;omega)).trans h.c6,h.own.kept hg (by omega),h.bel.trans ⟨hg.os,hg.tape,hg.output,hg.size,fun i hi=>hg.block i ?_ (fun e=>by have:=Option.some.inj e;omega)⟩⟩
 have:=h.bel.size
 omega
theorem Zs5(w:World)(bx:Array Value)(y z:Value)(t u v:TypeId)(w0:World)(h:((w.alloc (.cells bx t)).alloc (.cells #[y] u)).alloc (.cells #[z] v)=w0):
  w0.heap[w.heap.size]?=some (.cells bx t (0,0))∧w0.heap[w.heap.size+1]?=some (.cells #[y] u (0,0))∧w0.heap[w.heap.size+1+1]?=some (.cells #[z] v (0,0))∧Below w.heap.size w w0∧w0.heap.size=w.heap.size+3:=by
 subst h;refine⟨Ks (Ks (Kq w _ _ _ rfl) _) _,Ks (Kq _ _ _ _ (by simp)) _,Kq _ _ _ _ (by simp),(((Below.refl _ w).alloc nr_ _).alloc (by simp) _).alloc (by simp;omega) _,by simp⟩
theorem Zm8{X:World}{n₀ s1 s2:Nat}{x6 x7:Value}{t6 t7:TypeId}(v6 v7:Value)(c6:X.heap[s1]?=some (.cells #[x6] t6 (0,0)))(c7:X.heap[s2]?=some (.cells #[x7] t7 (0,0)))(hne:s1≠s2)(h1:n₀≤s1)(h2:n₀≤s2):
  ((X.setCell ⟨s1,0,none⟩ v6).setCell ⟨s2,0,none⟩ v7).heap[s1]?=some (.cells #[v6] t6 (0,0))∧((X.setCell ⟨s1,0,none⟩ v6).setCell ⟨s2,0,none⟩ v7).heap[s2]?=some (.cells #[v7] t7 (0,0)) ∧
   (∀ i,i≠s1→i≠s2→((X.setCell ⟨s1,0,none⟩ v6).setCell ⟨s2,0,none⟩ v7).heap[i]?=X.heap[i]?)∧Below n₀ X ((X.setCell ⟨s1,0,none⟩ v6).setCell ⟨s2,0,none⟩ v7):=by
 have b6:Boxed X s1 t6 x6:=c6;have b7:Boxed X s2 t7 x7:=c7;refine⟨(b6.set v6).kept (grownBy_setCell' _ _ _) (fun e=>hne (Option.some.inj e)),(b7.kept (grownBy_setCell' _ _ _) (fun e=>hne (Option.some.inj e).symm)).set v7,fun i h3 h4=>?_,((Below.refl _ X).setCell (p:=⟨s1,0,none⟩) h1 v6).setCell (p:=⟨s2,0,none⟩) h2 v7⟩
 rw[Below.heap_setCell _ _ _ i h4,Below.heap_setCell _ _ _ i h3]
def Zwl (ps:List Int) (ll:List (List Int)) (w':World) (e:Ending):Prop :=
 (ll.length≤600∧∃ a c F,e = .returned (.tuple #[.slice a ll.length c,.int .i64 0])∧Zpl (cS ps (ll.map rq)) ll.length F∧RdI w' a (Zmw ll F))∨(600<ll.length∧e = .returned (.tuple #[.slice none 0 0,.int .i64 4]))
theorem Zwl.ok{ps:List Int}{ll:List (List Int)}{w':World}{a:Option Addr}{c:Nat}{F:Nat→Nat}(h:ll.length≤600)(hF:Zpl (cS ps (ll.map rq)) ll.length F)(hr:RdI w' a (Zmw ll F)):Zwl ps ll w' (.returned (.tuple #[.slice a ll.length c,.int .i64 0])) := .inl ⟨h,a,c,F,rfl,hF,hr⟩
theorem Zwl.big{ps:List Int}{ll:List (List Int)}{w':World}(h:600<ll.length):Zwl ps ll w' (.returned (.tuple #[.slice none 0 0,.int .i64 4])) := .inr ⟨h,rfl⟩
end Go.Proofs.YtbielfplgbammaaGreatDoor

namespace Go.Proofs.YtbielfplgbammaaGreatDoor
open Go.RowKit
structure Qbx (w:World) (ps:List Int) (a0 a1 a2:Option Addr) (l1 l2:Zch):Prop where
 rp:Rd w a0 (Qw ps)
 hi:Zf3 ps
 hl:ps.length≤1000
 r1:Rd w a1 (Qf l1)
 r2:Rd w a2 (Qf l2)
 n1:l1.length≤1000
 n2:l2.length≤1000
 s1:Ssz l1
 s2:Ssz l2
 L:Qx w
theorem Qbx.all{w W:World}{ps:List Int}{a0 a1 a2:Option Addr}{l1 l2:Zch}(H:Qbx w ps a0 a1 a2 l1 l2)(hW:Below w.heap.size w W){g c0 c1 c2:Nat}(hg:W.heap[g]?=some (.cells #[.slice a1 l1.length c1,.slice a2 l2.length c2] 35 (0,0))):
  Kc Tryz.prog 20 #[.slice a0 ps.length c0,.slice (some ⟨g,0,none⟩) 2 2] W (.int .i64 (Zj4 ps [l1,l2])) :=
 Yc W a0 _ c0 2 ps [l1,l2] (H.rp.below hW nr_) H.hi (Nat.le_trans H.hl (by decide)) (Ze8 hg (H.r1.below hW nr_) (H.r2.below hW nr_)) (by simp)
  (by intro l hl;simp only[List.mem_cons,List.not_mem_nil,or_false] at hl;rcases hl with rfl | rfl;exact⟨Nat.le_trans H.n1 (by decide),H.s1⟩;exact⟨Nat.le_trans H.n2 (by decide),H.s2⟩) (H.L.below hW)
theorem Zyk(x y:ByteArray×ByteArray):(x.1.toList==y.1.toList&&x.2.toList==y.2.toList)=decide (x=y):=by
 by_cases h:x=y
 ·subst h;simp
 ·rw[decide_eq_false h,Bool.eq_false_iff];intro hc;rw[Bool.and_eq_true] at hc;exact h (Prod.ext (toList_inj hc.1) (toList_inj hc.2))
theorem Zp2{C:World→Prop}{K:Act→Prop}{a:Act}{o:Oper}(x y:Operand)(r:TypeId)(p q:ByteArray×ByteArray)(h:o.op = .binOp .neq 101 x y r)(hx:a.eval x = .agg #[.string p.1,.string p.2])(hy:a.eval y = .agg #[.string q.1,.string q.2])
  (hk:K (a.put o.dst (.bool (!decide (p=q))))):o.quiet Tryz.prog a C K :=
 ⟨_,fun w _=>by
  unfold Oper.quietAt execOp;rw[h];simp only[Sem.run_bind,hx,hy,Zqr,Zvb,Result.andThen_ok,Sem.run_pure,Zyk];exact⟨rfl,rfl⟩,hk⟩
theorem Zwv{w wr:World}{a:Option Addr}{l:Zch}{B:Nat}(h:Rd w a (Qf l))(hb:Below B w wr)(hB:w.heap.size≤B)(k:Nat)(hk:k<l.length):
  ∃ b off,a=some ⟨b,off,none⟩∧wr.cell? ⟨b,off+k*2,none⟩=some (.string l[k].1)∧wr.cell? ⟨b,off+k*2+1,none⟩=some (.string l[k].2):=by
 obtain⟨b,off,rfl,hbl,hcells⟩:=h.open (by rw[Qp];omega)
 obtain⟨x0,x1⟩:=Zy hcells k hk;have e:l.getD k default=l[k]:=by rw[List.getD_eq_getElem?_getD,List.getElem?_eq_getElem hk];rfl
 rw[← hb.cell (p:=⟨b,off+k*2,none⟩) (Nat.lt_of_lt_of_le hbl hB),e] at x0;rw[← hb.cell (p:=⟨b,off+k*2+1,none⟩) (Nat.lt_of_lt_of_le hbl hB),e] at x1;exact⟨b,off,rfl,x0,x1⟩
theorem Zpz(w:World)(a1 a2:Option Addr)(c1 c2:Nat)(la lb:Zch)(r1:Rd w a1 (Qf la))(r2:Rd w a2 (Qf lb))(hbig:la.length≤1000000):
  Kc Tryz.prog 104 #[.slice a1 la.length c1,.slice a2 lb.length c2] w (.bool (decide (la=lb))):=by
 unfold Kc
 by_cases hl:la.length=lb.length
 ·have R1:=hd_ r1;have R2:=hd_ r2;have Hyes:Hid (∀ k,(∀ j (h1:j<la.length) (h2:j<lb.length),j<k→la[j]=lb[j])→k=la.length→la=lb):=fun k h hk=>List.ext_getElem hl fun i h1 h2=>h i h1 h2 (by omega)
  have Hno:Hid (∀ k (h1:k<la.length) (h2:k<lb.length),la[k]≠lb[k]→¬ la=lb):=fun k h1 h2 hne he=>hne (by subst he;rfl)
  obtain⟨n,hn⟩:∃ n,la.length=n:=⟨_,rfl⟩;have hm:lb.length=n:=hl.symm.trans hn;rw[hn] at hbig;rw[hn,hm];have Hn:=hd_ hn;have Hm:=hd_ hm;clear hl r1 r2 hn hm;go_enter Tryz.func104,Tryz.ntmps104
  go_wp2_with fail
  go_loopw [13] (fun i wr=>∃ k:Nat,k≤n∧i = .int .i64 k∧Hid (∀ j (h1:j<la.length) (h2:j<lb.length),j<k→la[j]=lb[j])∧Hid (Below w.heap.size w wr)) (fun i _=>n-(intOf i).toNat)
  case atStart=>exact⟨0,Nat.zero_le _,rfl,fun j _ _ hj=>absurd hj (Nat.not_lt_zero _),Below.refl _ _⟩
  case round =>
   obtain⟨k,hk,rfl,Hp,B⟩:=hrel
   by_cases hlt:k<n
   ·have hlt':(k:Int)<n:=by omega
    have h1:k<la.length:=by rw[Hn.out];exact hlt
    have h2:k<lb.length:=by rw[Hm.out];exact hlt
    obtain⟨b,off,rfl,x0,x1⟩:=Zwv R1.out B.out nr_ k h1;obtain⟨b',off',rfl,y0,y1⟩:=Zwv R2.out B.out nr_ k h2;have Hp':Hid (la[k]=lb[k]→∀ j (h1:j<la.length) (h2:j<lb.length),j<k+1→la[j]=lb[j]):=fun he j g1 g2 hj=>by
     rcases Nat.lt_or_ge j k with h|h
     ·exact Hp.out j g1 g2 h
     ·have e:j=k:=by omega
      subst e;exact he
    have Hnk:=hd_ (Hno.out k h1 h2);clear Hp;generalize la[k]=p at *
    generalize lb[k]=q at *
    have q0:=cell_regrown x0;have q1:=cell_regrown x1;have q2:=cell_regrown y0;have q3:=cell_regrown y1;have HK:=hd_ hlt
    go_wp2_with fail
    clear x0 x1 y0 y1;refine wp_region_quiet_below (by kernel_rfl) (by kernel_rfl) ?_
    repeat (first | go_big_quiet_step (fail) | quiet_step (fail))
    refine BigFrame.wpQuiet_want rfl fun K hK=>Zp2 _ _ _ p q rfl rfl rfl (hK _ ?_)
    refine wpQuiet_nil ?_;intro w6 hw6;obtain⟨⟨dq,osq⟩,rfl⟩:=hw6;have B6:=hd_ (B.out.trans ((below_regrown wr dq osq).mono B.out.size));clear q0 q1 q2 q3 B;generalize Go.Sort.grow (redrawn wr dq) osq=w6 at *
    by_cases hpq:p=q
    ·rw[decide_eq_true hpq];have Hq:=hd_ (Hp'.out hpq);clear hpq Hp' Hnk
     go_wp2_with fail
     go_roundw
     case rel=>exact⟨k+1,HK.out,by go_num,Hq,B6⟩
     case measure=>simp[intOf];omega
    ·rw[decide_eq_false hpq];have Hz:Hid (decide (la=lb)=false):=decide_eq_false (Hnk.out hpq);clear hpq Hp' Hnk
     go_wp2_with fail
     go_ret;exact⟨by rw[Hz.out];rfl,B6.out⟩
   ·have hlt':¬ (k:Int)<n:=by omega
    have Hz:Hid (decide (la=lb)=true):=decide_eq_true (Hyes.out k Hp.out (by rw[Hn.out];omega))
    clear Hp
    go_wp2_with fail
    go_ret;exact⟨by rw[Hz.out];rfl,B.out⟩
 ·have Hz:Hid (decide (la=lb)=false):=decide_eq_false fun h=>hl (by rw[h])
  have hne:((la.length:Int)==lb.length)=false:=by rw[beq_eq_false_iff_ne];omega
  clear r1 r2 hl;generalize la.length=n at *
  generalize lb.length=m at *
  go_enter Tryz.func104,Tryz.ntmps104
  go_wp2_with fail
  go_ret;exact⟨by rw[Hz.out];rfl,Below.refl _ _⟩
theorem Zd5(w:World)(a1 a2:Option Addr)(c1 c2:Nat)(la lb:Zch)(r1:Rd w a1 (Qf la))(r2:Rd w a2 (Qf lb))(hbig:la.length≤1000000):
  Kc Tryz.prog 41 #[.slice a1 la.length c1,.slice a2 lb.length c2] w (.bool (decide (la=lb))):=by
 have HA:=hd_ (Zpz w a1 a2 c1 c2 la lb r1 r2 hbig);unfold Kc at *
 clear r1 r2 hbig;generalize decide (la=lb)=z at *
 generalize la.length=n at *
 generalize lb.length=m at *
 go_enter Tryz.func41,Tryz.ntmps41
 go_wp2_with fail
 refine cm_ HA.out ?_;rintro e w1 ⟨rfl,hb⟩;have B1:=hd_ hb;clear hb HA
 go_wp2_with fail
 go_ret;exact⟨rfl,B1.out⟩
end Go.Proofs.YtbielfplgbammaaGreatDoor
