/- Lemmas for the laws of this seat, part 3. -/
import Derived.Maps.AppendAt
import Derived.RangeFuncNested
import Derived.RangeFuncBound
import Derived.RangeFuncCalls
import Derived.RangeFuncLeaves
import Derived.Shelf.Abstract
import Derived.Shelf.RegionOpen
import Derived.OwnWalkIn
import Derived.TacticsInMore
import Derived.LoopNIn
import Derived.LoopIn
import Derived.Laws.BitsLemmas
import Derived.Laws.Bits64
import Derived.OrdersIn
import Derived.RegionIn
import Derived.BigRegionIn
import Derived.WalkMore
import Derived.Scope
import Derived.Great.BuildSlice
import Derived.Laws.StructEq
import Derived.Lib.Join
import Derived.Shelf.Strings.OnBuilder
import Derived.Test.YtkoicfghplmghaaGreatDoorNa2
set_option maxRecDepth 100000
set_option maxHeartbeats 16000000
namespace Go.Proofs.YtkoicfghplmghaaGreatDoor
open Go.RowKit
def tden (l:List Rat):Nat:=l.foldl (fun d q=>Nat.lcm d q.den) 1
def tlist (D:Nat) (ps:List Int) (l:List Rat):List (Int×Int) :=
 (ps.zip l).filterMap fun x=>if x.2.num=0 then none else some (x.1,x.2.num * ((D / x.2.den:Nat):Int))
theorem tden_succ (l:List Rat) (k:Nat) (h:k < l.length):tden (l.take (k + 1))=Nat.lcm (tden (l.take k)) l[k].den:=by
 unfold tden
 rw [List.take_add_one,List.getElem?_eq_getElem h,List.foldl_append]; rfl
theorem tden_pos (l:List Rat):∀ k,k≤l.length→0 < tden (l.take k)
 | 0,_=>Nat.one_pos
 | k + 1,h=>by
  rw [tden_succ l k (by omega)]
  exact Nat.lcm_pos (tden_pos l k (by omega)) l[k].den_pos
theorem tden_lt (l:List Rat) (D:Nat) (hs:∀ q∈l,Sm D q):∀ k,k≤l.length→tden (l.take k) < 10 ^ (1 + k * D)
 | 0,_=>by show 1 < 10 ^ (1 + 0 * D); rw [Nat.zero_mul]; decide
 | k + 1,h=>by
  rw [tden_succ l k (by omega)]
  have h1:=tden_lt l D hs k (by omega)
  have h2:=(hs _ (List.getElem_mem (show k < l.length by omega))).2
  have h3:=pow_ten_mul h1 h2
  have h4:Nat.lcm (tden (l.take k)) l[k].den≤tden (l.take k) * l[k].den:=Nat.le_of_dvd (Nat.mul_pos (tden_pos l k (by omega)) l[k].den_pos) (Nat.lcm_dvd_mul _ _)
  rw [show 1 + (k + 1) * D=1 + k * D + D by rw [Nat.add_mul]; omega]
  omega
theorem tlist_succ (D:Nat) (ps:List Int) (l:List Rat) (k:Nat) (h1:k < ps.length) (h2:k < l.length) :
  tlist D (ps.take (k + 1)) (l.take (k + 1))=tlist D (ps.take k) (l.take k) ++ (if l[k].num=0 then [] else [(ps[k],l[k].num * ((D / l[k].den:Nat):Int))]):=by
 unfold tlist
 have e:∀ n,(ps.take n).zip (l.take n)=(ps.zip l).take n:=fun n=>(List.take_zipWith ..).symm
 rw [e,e,List.take_add_one,List.getElem?_eq_getElem (by rw [List.length_zip]; omega),List.filterMap_append]
 congr 1
 rw [List.getElem_zip]
 by_cases h:l[k].num=0
 ·rw [if_pos h]
  show List.filterMap _ [(ps[k],l[k])]=[]
  rw [List.filterMap_cons]
  rw [if_pos h]; rfl
 ·rw [if_neg h]
  show List.filterMap _ [(ps[k],l[k])]=_
  rw [List.filterMap_cons]
  rw [if_neg h]; rfl
theorem tlist_length (D:Nat) (ps:List Int) (l:List Rat):(tlist D ps l).length≤l.length:=by
 unfold tlist
 refine Nat.le_trans (List.length_filterMap_le _ _) ?_
 rw [List.length_zip]; omega
def strs (l:List ByteArray):List Value:=l.map Value.string
theorem strs_length (l:List ByteArray):(strs l).length=l.length:=by simp [strs]
theorem strs_append (l m:List ByteArray):strs (l ++ m)=strs l ++ strs m:=by simp [strs]
def termsV (v1 v2:Value) (d:Nat):Value := .agg #[v1,v2,.string (dec d)]
def termsO (v1 v2:Value) (s:ByteArray):Obj := .cells #[v1,v2,.string s] 141
theorem infoP:(Tryz.prog.info? 3).map (fun i=>(i.zero,i.size,i.bytes))=some (some (.int .i64 0),1,8):=by kernel_rfl
theorem infoZ:(Tryz.prog.info? 56).map (fun i=>(i.zero,i.size,i.bytes))=some (some (.string ⟨#[]⟩),1,16):=by kernel_rfl
theorem obj_cells3 {w:World} {g:Nat} {a b c:Value} {t:TypeId} (h:w.heap[g]?=some (.cells #[a,b,c] t (0,0))) :
  w.cell? ⟨g,0,none⟩=some a∧w.cell? ⟨g,1,none⟩=some b∧w.cell? ⟨g,2,none⟩=some c∧(∀ j,w.frozen? ⟨g,j,none⟩=false):=by
 refine ⟨by rw [cell_of_row w g 0 _ t (0,0) h]; rfl,by rw [cell_of_row w g 1 _ t (0,0) h]; rfl,by rw [cell_of_row w g 2 _ t (0,0) h]; rfl,fun j=>?_⟩
 simp [World.frozen?,h]
theorem own_rd {w:World} {base n c:Nat} {e:TypeId} {a:Option Addr} {xs:List Value} (h:w.ownsRow base e 1 (.slice a n c) n xs):Rd w a xs:=by
 have hlen:=h.1
 by_cases hn:0 < n
 ·obtain ⟨g,cap,hv,h1,h2,h3,h4,h5⟩:=own_open h hn
  simp only [Value.slice.injEq] at hv
  obtain ⟨rfl,-,rfl⟩:=hv
  refine .inr ⟨g,0,rfl,h2,fun i v hi=>?_⟩
  rw [Nat.zero_add,h4 i (by have:=(List.getElem?_eq_some_iff.1 hi).1; omega)]
  exact hi
 ·exact .inl (List.eq_nil_of_length_eq_zero (by omega))
def TermsOut (w:World) (tl:List (Int×Int)) (D:Nat) (e:Ending) (w':World):Prop :=
 ∃ b1 d1 b2 d2,e = .returned (termsV (.slice b1 tl.length d1) (.slice b2 tl.length d2) D)∧Rd w' b1 (ints (tl.map Prod.fst))∧Rd w' b2 (strs (tl.map fun x=>itx x.2))∧Below w.heap.size w w'
theorem obj_set {w:World} {g:Nat} {cs:Array Value} {t:TypeId} (h:w.heap[g]?=some (.cells cs t (0,0))) (j:Nat) (x:Value) :
  (w.setCell ⟨g,j,none⟩ x).heap[g]?=some (.cells (cs.setIfInBounds j x) t (0,0)):=by
 simp [World.setCell,Array.getElem?_modify,h]
theorem obj_other {w:World} {g k:Nat} (h:g≠k) (j:Nat) (x:Value):(w.setCell ⟨g,j,none⟩ x).heap[k]?=w.heap[k]?:=by
 simp [World.setCell,Array.getElem?_modify,h]
structure TW (b5 g9:Nat) (v1 v2 v3 x0 x1:Value) (p:Addr) (vp:Value) where
 w:World
 h5:w.heap[b5]?=some (.cells #[v1,v2,v3] 141 (0,0))
 h9:w.heap[g9]?=some (.cells #[x0,x1] 58 (0,0))
 hp:w.cell? p=some vp
section
variable {b5 g9:Nat} {v1 v2 v3 x0 x1:Value} {p:Addr} {vp:Value}
theorem TW.q0 (t:TW b5 g9 v1 v2 v3 x0 x1 p vp):t.w.cell? ⟨b5,0,none⟩=some v1:=(obj_cells3 t.h5).1
theorem TW.q1 (t:TW b5 g9 v1 v2 v3 x0 x1 p vp):t.w.cell? ⟨b5,1,none⟩=some v2:=(obj_cells3 t.h5).2.1
theorem TW.q2 (t:TW b5 g9 v1 v2 v3 x0 x1 p vp):t.w.cell? ⟨g9,0,none⟩=some x0:=(two_cells t.h9).1
end
structure TT (w:World) (s1 s2:Value) (D:Nat) (V1:Value) (n1:Nat) (L1:List Value) (V2:Value) (n2:Nat) (L2:List Value) (wr:World):Prop where
 h4:wr.heap[w.heap.size]?=some (termsO (.slice none 0 0) (.slice none 0 0) ⟨#[]⟩)
 h5:wr.heap[w.heap.size + 1]?=some (termsO s1 s2 (dec D))
 o1:wr.ownsRow (w.heap.size + 2) 3 1 V1 n1 L1
 o2:wr.ownsRow (w.heap.size + 2) 56 1 V2 n2 L2
 ap:∀ k,V1.ownBlock=some k→V2.ownBlock≠some k
 bel:Below w.heap.size w wr
 siz:w.heap.size + 2≤wr.heap.size
section
variable {w:World} {s1 s2:Value} {D:Nat} {V1:Value} {n1:Nat} {L1:List Value} {V2:Value} {n2:Nat} {L2:List Value} {wr:World}
theorem TT.next {w':World} (h:TT w s1 s2 D V1 n1 L1 V2 n2 L2 wr) (hb:Below wr.heap.size wr w'):TT w s1 s2 D V1 n1 L1 V2 n2 L2 w' :=
 ⟨(hb.block _ (Array.getElem?_eq_some_iff.1 h.h4).1).trans h.h4,(hb.block _ (Array.getElem?_eq_some_iff.1 h.h5).1).trans h.h5,own_below h.o1 hb nr_,own_below h.o2 hb nr_,h.ap,h.bel.trans (hb.mono h.bel.size),Nat.le_trans h.siz hb.size⟩
theorem TT.grow1 {w':World} (h:TT w s1 s2 D V1 n1 L1 V2 n2 L2 wr) {V':Value} {n':Nat} {L':List Value} (own:w'.ownsRow (w.heap.size + 2) 3 1 V' n' L') (hg:wr.grownBy w' V1.ownBlock)
  (hat:V'.ownBlock=V1.ownBlock∨V'.ownBlock=some wr.heap.size):TT w s1 s2 D V' n' L' V2 n2 L2 w':=by
 have hlow:∀ k,k < w.heap.size + 2→w'.heap[k]?=wr.heap[k]?:=fun k hk=>hg.block k (by have:=h.siz; omega) (fun e=>by have:=(World.ownsRow.lt h.o1 k e.symm).1; omega)
 refine ⟨(hlow _ (by omega)).trans h.h4,(hlow _ (by omega)).trans h.h5,own,?_,?_,?_,Nat.le_trans h.siz hg.size⟩
 ·refine World.ownsRow.kept h.o2 hg ?_
  cases hv:V1.ownBlock with
  | none=>cases hv2:V2.ownBlock <;> simp
  | some k=>exact .inr (h.ap k hv)
 ·intro k hk
  rcases hat with e | e
  ·exact h.ap k (by rw [← e]; exact hk)
  ·intro h2
   have h3:=(World.ownsRow.lt h.o2 k h2).2
   rw [e] at hk
   injection hk with hk
   omega
 ·exact h.bel.grown hg (by have:=h.siz; omega) (fun k hk=>by have:=(World.ownsRow.lt h.o1 k hk).1; omega)
theorem TT.grow2 {w':World} (h:TT w s1 s2 D V1 n1 L1 V2 n2 L2 wr) {V':Value} {n':Nat} {L':List Value} (own:w'.ownsRow (w.heap.size + 2) 56 1 V' n' L') (hg:wr.grownBy w' V2.ownBlock)
  (hat:V'.ownBlock=V2.ownBlock∨V'.ownBlock=some wr.heap.size):TT w s1 s2 D V1 n1 L1 V' n' L' w':=by
 have hlow:∀ k,k < w.heap.size + 2→w'.heap[k]?=wr.heap[k]?:=fun k hk=>hg.block k (by have:=h.siz; omega) (fun e=>by have:=(World.ownsRow.lt h.o2 k e.symm).1; omega)
 refine ⟨(hlow _ (by omega)).trans h.h4,(hlow _ (by omega)).trans h.h5,?_,own,?_,?_,Nat.le_trans h.siz hg.size⟩
 ·refine World.ownsRow.kept h.o1 hg ?_
  cases hv:V2.ownBlock with
  | none=>cases hv2:V1.ownBlock <;> simp
  | some k=>exact .inr (fun h1=>h.ap k h1 hv)
 ·intro k hk
  rcases hat with e | e
  ·rw [e]; exact h.ap k hk
  ·rw [e]
   intro h2
   have h3:=(World.ownsRow.lt h.o1 k hk).2
   injection h2 with h2
   omega
 ·exact h.bel.grown hg (by have:=h.siz; omega) (fun k hk=>by have:=(World.ownsRow.lt h.o2 k hk).1; omega)
theorem TT.store1 (h:TT w s1 s2 D V1 n1 L1 V2 n2 L2 wr) (x:Value):TT w x s2 D V1 n1 L1 V2 n2 L2 (wr.setCell ⟨w.heap.size + 1,0,none⟩ x):=by
 refine ⟨(obj_other (by omega) _ _).trans h.h4,(obj_set h.h5 0 x).trans rfl,?_,?_,h.ap,h.bel.setCell (p:=⟨w.heap.size + 1,0,none⟩) (by simp) _,by simpa using h.siz⟩
 ·exact ownsRow_setCell_below h.o1 (by show w.heap.size + 1 < w.heap.size + 2; omega) _
 ·exact ownsRow_setCell_below h.o2 (by show w.heap.size + 1 < w.heap.size + 2; omega) _
theorem TT.store2 (h:TT w s1 s2 D V1 n1 L1 V2 n2 L2 wr) (x:Value):TT w s1 x D V1 n1 L1 V2 n2 L2 (wr.setCell ⟨w.heap.size + 1,1,none⟩ x):=by
 refine ⟨(obj_other (by omega) _ _).trans h.h4,(obj_set h.h5 1 x).trans rfl,?_,?_,h.ap,h.bel.setCell (p:=⟨w.heap.size + 1,1,none⟩) (by simp) _,by simpa using h.siz⟩
 ·exact ownsRow_setCell_below h.o1 (by show w.heap.size + 1 < w.heap.size + 2; omega) _
 ·exact ownsRow_setCell_below h.o2 (by show w.heap.size + 1 < w.heap.size + 2; omega) _
end
abbrev TS (w:World) (tl:List (Int×Int)) (D:Nat) (b1:Option Addr) (d1:Nat) (b2:Option Addr) (d2:Nat) (wr:World):Prop :=
 TT w (.slice b1 tl.length d1) (.slice b2 tl.length d2) D (.slice b1 tl.length d1) tl.length (ints (tl.map Prod.fst)) (.slice b2 tl.length d2) tl.length (strs (tl.map fun x=>itx x.2)) wr
theorem termsOf_any (w:World) (a1 a2:Option Addr) (c1 c2:Nat) (ps:List Int) (l:List Rat) (D:Nat) (hp:Rd w a1 (ints ps)) (hr:Rd w a2 (cellsQ l)) (hpl:ps.length=l.length)
  (hs:∀ q∈l,Sm D q) (hl:l.length≤1000) (hD:3 + (l.length + 2) * D≤900000) (L:Laid w) :
  Calls Tryz.prog 82 #[.slice a1 ps.length c1,.slice a2 l.length c2] w (TermsOut w (tlist (tden l) ps l) (tden l)):=by
 have HL:=hd_ L
 have Hs:=hd_ hs
 have Hr:=hd_ hr
 have Hp:=hd_ hp
 have HD:=hd_ hD
 have Hpl:=hd_ hpl
 rw [hpl]
 clear hs hr hp L hD hpl
 generalize hn:l.length=n at *
 have Hn:=hd_ hn
 clear hn
 go_enter Tryz.func82,Tryz.ntmps82
 go_wp2_with fail
 go_loopw [16] (fun i wr=>∃ k:Nat,k≤n∧i = .int .i64 k∧Hid (wr.heap[w.heap.size]?=some (termsO (.slice none 0 0) (.slice none 0 0) ⟨#[]⟩))∧Hid (wr.heap[w.heap.size + 1]?=some (termsO (.slice none 0 0) (.slice none 0 0) (dec (tden (l.take k)))))∧Hid (Below w.heap.size w wr)) (fun i _=>n - (intOf i).toNat)
 case atStart =>
  refine ⟨0,Nat.zero_le _,rfl,?_,?_,?_⟩
  ·show _=_
   rw [Go.heap_alloc_old _ _ (by simp)]
   exact Go.heap_alloc_new _ _
  ·show _=_
   have:=Go.heap_alloc_new (w.alloc (Obj.cells #[Value.slice none 0 0,Value.slice none 0 0,Value.string { data := #[] }] 141)) (Obj.cells #[Value.slice none 0 0,Value.slice none 0 0,Value.string { data := #[49] }] 141)
   rw [World.size_alloc] at this
   rw [this,show tden (l.take 0)=1 from rfl,dec_one]; rfl
  ·exact ((Below.refl w.heap.size w).alloc nr_ _).alloc (by simp) _
 case round =>
  obtain ⟨k,hk,rfl,H4,H5,Hb⟩:=hrel
  by_cases hlt:k < n
  ·have hlt':(k:Int) < n:=by omega
   have hkl:k < l.length:=by rw [Hn.out]; exact hlt
   obtain ⟨b,off,rfl,hb,hcells⟩:=Hr.out.open (by rw [cellsQ_length]; omega)
   obtain ⟨c0,c1⟩:=cellsS_rd hcells k (by rw [List.length_map]; exact hkl)
   rw [← Hb.out.cell (p:=⟨b,off + k * 2,none⟩) hb,qs_getD _ k hkl] at c0
   rw [← Hb.out.cell (p:=⟨b,off + k * 2 + 1,none⟩) hb,qs_getD _ k hkl] at c1
   have Hsucc:Hid (tden (l.take (k + 1))=Nat.lcm (tden (l.take k)) l[k].den):=tden_succ l k hkl
   have hsm:=Hs.out _ (List.getElem_mem hkl)
   have htl:=tden_lt l D Hs.out k (by omega)
   have hkD:k * D≤(n + 2) * D:=Nat.mul_le_mul_right _ (by omega)
   have hDD:=HD.out
   have hDpos:=hsm.pos
   have hD1:1 * D≤(n + 2) * D:=Nat.mul_le_mul_right _ (by omega)
   have Hlc:Hid (∀ W,Below w.heap.size w W→Gives Tryz.prog 132 #[.string (dec (tden (l.take k))),.string (dec l[k].den)] W (.string (dec (Nat.lcm (tden (l.take k)) l[k].den)))):=fun W hW=>by
    have:=lcmz_any W (tden (l.take k):Int) (l[k].den:Int) (num_pow htl (by omega) (by omega)) (num_pow hsm.2 hDpos (by omega)) (HL.out.below hW)
    rw [itx_nat,itx_nat,Int.lcm_natCast_natCast] at this
    exact this
   clear hcells hsm htl hkD hDD hDpos hD1
   generalize l[k]=q at *
   generalize tden (l.take k)=d at *
   generalize Nat.lcm d q.den=d2 at *
   simp only [qs] at c0 c1
   have Hb0:=hd_ (Hb.out.alloc Hb.out.size (.cells #[.string (itx q.num),.string (dec q.den)] 58))
   have Hwr:=hd_ ((Below.refl wr.heap.size wr).alloc nr_ (.cells #[.string (itx q.num),.string (dec q.den)] 58))
   have Hnew:Hid ((wr.alloc (.cells #[.string (itx q.num),.string (dec q.den)] 58)).heap[wr.heap.size]?=some (.cells #[.string (itx q.num),.string (dec q.den)] 58 (0,0))):=heap_alloc_new wr _
   have H5a:=hd_ ((Hwr.out.block _ (Array.getElem?_eq_some_iff.1 H5.out).1).trans H5.out)
   have H4a:=hd_ ((Hwr.out.block _ (Array.getElem?_eq_some_iff.1 H4.out).1).trans H4.out)
   obtain ⟨k0,k1,-,-⟩:=two_cells Hnew.out
   obtain ⟨m0,m1,m2,m3⟩:=obj_cells3 H5a.out
   clear m3
   go_wp2_with fail
   generalize wr.alloc (.cells #[.string (itx q.num),.string (dec q.den)] 58)=W0 at *
   clear c0 c1 k0 k1 m0 m1 m2 Hnew H4 H5 Hwr
   refine cm_ (Hlc.out _ Hb0.out) ?_
   rintro e w1 ⟨rfl,hb1⟩
   have H5b:=hd_ ((hb1.block _ (Array.getElem?_eq_some_iff.1 H5a.out).1).trans H5a.out)
   have H4b:=hd_ ((hb1.block _ (Array.getElem?_eq_some_iff.1 H4a.out).1).trans H4a.out)
   have Hb1:=hd_ (Hb0.out.trans (hb1.mono Hb0.out.size))
   clear hb1 Hlc Hb0 H5a H4a
   obtain ⟨m0,m1,m2,m3⟩:=obj_cells3 H5b.out
   have f2:=m3 2
   clear m3
   go_wp2
   go_roundw
   case rel =>
    refine ⟨k + 1,by omega,by go_num,?_,?_,?_⟩
    ·show _=_
     rw [obj_other (by omega)]; exact H4b.out
    ·show _=_
     rw [obj_set H5b.out,Hsucc.out]; rfl
    ·exact Hb1.out.setCell (p:=⟨w.heap.size + 1,2,none⟩) (by simp) _
   case measure=>simp [intOf]; omega
  ·have hlt':¬ (k:Int) < n:=by omega
   have hkn:k=n:=by omega
   subst hkn
   rw [show l.take k=l by rw [← Hn.out,List.take_length]] at H5
   have Hts0:Hid (TS w (tlist (tden l) (ps.take 0) (l.take 0)) (tden l) none 0 none 0 wr) :=
    ⟨H4.out,H5.out,World.ownsRow_nil ..,World.ownsRow_nil ..,fun k hk=>by simp [Value.ownBlock] at hk,Hb.out,(Array.getElem?_eq_some_iff.1 H5.out).1⟩
   have Htl:=hd_ (fun j hj=>tden_lt l D Hs.out j hj)
   clear H4 H5 Hb
   go_wp2_with fail
   have hDp:=tden_pos l l.length nr_
   rw [List.take_length] at hDp
   have Hdp:=hd_ hDp
   have Hdl:Hid (tden l < 10 ^ (1 + k * D)):=by
    show _ < _
    have:=Htl.out l.length nr_
    rw [List.take_length,Hn.out] at this
    exact this
   clear hDp Htl
   have Hw0:=hd_ Hts0.out.bel
   go_loopw [29] (fun i wr=>∃ (j:Nat) (b1:Option Addr) (d1:Nat) (b2:Option Addr) (d2:Nat),j≤k∧i = .int .i64 j∧Hid (TS w (tlist (tden l) (ps.take j) (l.take j)) (tden l) b1 d1 b2 d2 wr)) (fun i _=>k - (intOf i).toNat)
   case atStart=>exact ⟨0,none,0,none,0,Nat.zero_le _,rfl,Hts0⟩
   case round =>
    obtain ⟨j,b1,d1,b2,d2,hj,rfl,Hts⟩:=hrel
    by_cases hlt2:j < k
    ·have hlt2':(j:Int) < k:=by omega
     have hjl:j < l.length:=by rw [Hn.out]; exact hlt2
     have hjp:j < ps.length:=by rw [Hpl.out]; exact hlt2
     obtain ⟨b,off,rfl,hb,hcells⟩:=Hr.out.open (by rw [cellsQ_length]; omega)
     obtain ⟨c0,c1⟩:=cellsS_rd hcells j (by rw [List.length_map]; exact hjl)
     rw [← Hts.out.bel.cell (p:=⟨b,off + j * 2,none⟩) hb,qs_getD _ j hjl] at c0
     rw [← Hts.out.bel.cell (p:=⟨b,off + j * 2 + 1,none⟩) hb,qs_getD _ j hjl] at c1
     have Hsucc:=hd_ (tlist_succ (tden l) ps l j hjp hjl)
     have hsm:=Hs.out _ (List.getElem_mem hjl)
     have hq:=itx_isz l[j].num
     obtain ⟨bp,op,rfl,hbp,hcp⟩:=Hp.out.open (by rw [ints_length]; omega)
     have Hcp:Hid (w.cell? ⟨bp,op + j,none⟩=some (.int .i64 ps[j])):=hcp j _ (ints_get ps j hjp)
     clear hcells hcp
     generalize l[j]=q at *
     simp only [qs] at c0 c1
     have Hwr:=hd_ ((Below.refl wr.heap.size wr).alloc nr_ (.cells #[.string (itx q.num),.string (dec q.den)] 58))
     have Hnew:Hid ((wr.alloc (.cells #[.string (itx q.num),.string (dec q.den)] 58)).heap[wr.heap.size]?=some (.cells #[.string (itx q.num),.string (dec q.den)] 58 (0,0))):=heap_alloc_new wr _
     have Hts1:=hd_ (Hts.out.next Hwr.out)
     have Hlo1:=hd_ (fun k hk=>(World.ownsRow.lt Hts.out.o1 k hk).2)
     have Hlo2:=hd_ (fun k hk=>(World.ownsRow.lt Hts.out.o2 k hk).2)
     have Hmx:=hd_ (tlist_length (tden l) (ps.take j) (l.take j))
     obtain ⟨k0,k1,-,-⟩:=two_cells Hnew.out
     by_cases hz:q.num=0
     ·rw [if_pos hz,List.append_nil] at Hsucc
      rw [decide_eq_true hz] at hq
      clear hz Hnew Hwr Hts hsm
      go_wp2
      go_roundw
      case rel=>exact ⟨j + 1,b1,d1,b2,d2,by omega,by go_num,by rw [Hsucc.out]; exact Hts1⟩
      case measure=>simp [intOf]; omega
     ·rw [if_neg hz] at Hsucc
      rw [decide_eq_false hz] at hq
      clear hz
      obtain ⟨m0,m1,m2,m3⟩:=obj_cells3 Hts1.out.h5
      clear m3
      have hDD:=HD.out
      have hDpos:=hsm.pos
      have hkD:(k + 2) * D=k * D + 2 * D:=by rw [Nat.add_mul]
      have h10:10 ^ (1 + k * D) < 10 ^ (1 + k * D + 1):=Nat.pow_lt_pow_right (by decide) (by omega)
      have hdl:=Hdl.out
      have Hdm:Hid (∀ W,Below w.heap.size w W→Gives Tryz.prog 133 #[.string (dec (tden l)),.string (dec q.den)] W (.tuple #[.string (dec (tden l / q.den)),.string (itx ((tden l:Int) % (q.den:Int))),.int .i64 0])):=fun W hW=>by
       have:=divmodz_any W (tden l:Int) q.den (num_pow hdl (by omega) (by omega)) (num_pow hsm.2 hDpos (by omega)) q.den_pos (num_pow (D:=1 + k * D + 1) (show (tden l + 1) < 10 ^ (1 + k * D + 1) by omega) (by omega) (by omega)) (HL.out.below hW)
       rw [itx_nat,← Int.natCast_ediv,itx_nat] at this
       exact this
      have hdv:tden l / q.den≤tden l:=Nat.div_le_self _ _
      have hpr:(q.num * ((tden l / q.den:Nat):Int)).natAbs < 10 ^ (D + (1 + k * D)):=by
       rw [Int.natAbs_mul]; exact pow_ten_mul hsm.1 (Nat.lt_of_le_of_lt hdv hdl)
      have Hmu:Hid (∀ W,Below w.heap.size w W→Gives Tryz.prog 134 #[.string (itx q.num),.string (dec (tden l / q.den))] W (.string (itx (q.num * ((tden l / q.den:Nat):Int))))):=fun W hW=>by
       have:=mulz_any W q.num ((tden l / q.den:Nat):Int) (num_pow hsm.1 hDpos (by omega)) (num_pow (Nat.lt_of_le_of_lt hdv hdl) (by omega) (by omega)) (num_pow hpr (by omega) (by omega)) (HL.out.below hW)
       rw [itx_nat] at this
       exact this
      clear hDD hDpos hkD h10 hdl hdv hpr hsm
      generalize hfq:q.num * ((tden l / q.den:Nat):Int)=fq at *
      have Hfq:=hd_ hfq
      clear hfq
      generalize dec (tden l / q.den)=sq at *
      go_wp2_with fail
      generalize wr.alloc (.cells #[.string (itx q.num),.string (dec q.den)] 58)=W0 at *
      clear c0 c1 k0 k1 m0 m1 m2
      refine cm_ (Hdm.out _ Hts1.out.bel) ?_
      rintro e w1 ⟨rfl,hb1⟩
      have Hnew1:=hd_ (stored_cell Hnew.out hb1)
      have Hts2:=hd_ (Hts1.out.next hb1)
      clear hb1 Hdm Hts1 Hnew Hwr Hts
      obtain ⟨k0,k1,-,-⟩:=two_cells Hnew1.out
      obtain ⟨m0,m1,m2,m3⟩:=obj_cells3 Hts2.out.h5
      have f0:=m3 0
      have f1:=m3 1
      clear m3
      go_wp2_with fail
      have Hcq:Hid (w1.cell? ⟨bp,op + j,none⟩=some (.int .i64 ps[j])):=(Hts2.out.bel.cell (p:=⟨bp,op + j,none⟩) hbp).trans Hcp.out
      generalize ps[j]=pj at *
      refine RY.wp_region_readers 17 [(1,0),(1,1),(1,2),(1,3),(1,4),(1,5),(1,8),(1,9),(1,10),(1,11),(2,12),(0,6),(0,7),(2,16),(0,13),(0,14),(0,15),(0,17),(2,18),(0,19)]
       (fun w'=>∃ p:TW (w.heap.size + 1) wr.heap.size (.slice b1 (tlist (tden l) (ps.take j) (l.take j)).length d1) (.slice b2 (tlist (tden l) (ps.take j) (l.take j)).length d2) (.string (dec (tden l))) (.string (itx q.num)) (.string (dec q.den)) ⟨bp,op + j,none⟩ (.int .i64 pj),w'=p.w)
       (by kernel_rfl) (by kernel_rfl) ?_ ?_
      ·exact ⟨⟨{ w1 with drawn:=w1.drawn + 1 },Hts2.out.h5,Hnew1.out,Hcq.out⟩,rfl⟩
      have q0:=@TW.q0
      have q1:=@TW.q1
      have q2:=@TW.q2
      have q3:=@TW.hp
      have hne:Nonempty (TW (w.heap.size + 1) wr.heap.size (.slice b1 (tlist (tden l) (ps.take j) (l.take j)).length d1) (.slice b2 (tlist (tden l) (ps.take j) (l.take j)).length d2) (.string (dec (tden l))) (.string (itx q.num)) (.string (dec q.den)) ⟨bp,op + j,none⟩ (.int .i64 pj)):=⟨⟨w1,Hts2.out.h5,Hnew1.out,Hcq.out⟩⟩
      iterate 10 (refine RY.walkR_read ?_; simp only [dsc_,dz_,tsc_,tz_]; go_big_quiet_step (fail); refine wpQuiet_nil ?_)
      refine RY.walkR_any ?_
      simp only [dsc_,dz_,tsc_,tz_]
      go_big_quiet_step (fail)
      refine wpQuiet_nil ?_
      clear q0 q1 q2 q3 hne
      refine RY.walkR_move ?_
      simp only [dsc_,dz_,tsc_,tz_]
      go_wp2_with fail
      have Hts3:=hd_ (Hts2.out.next (w':=(w1.alloc (Obj.cells #[Value.int IntKind.i64 pj] 3)).drew) ((Below.refl w1.heap.size w1).alloc nr_ _).drew)
      have Hb13:=hd_ ((((Below.refl w1.heap.size w1).alloc nr_ (Obj.cells #[Value.int IntKind.i64 pj] 3)).drew))
      have Hnew3:=hd_ (stored_cell Hnew1.out Hb13.out)
      have Hone:Hid (∀ jj u,[Value.int IntKind.i64 pj][jj]?=some u→((w1.alloc (Obj.cells #[Value.int IntKind.i64 pj] 3)).drew).cell? ((⟨w1.heap.size,0,none⟩:Addr).add jj)=some u):=fun jj u hj=>cell_one_new w1 _ _ jj u hj
      have hgl:wr.heap.size < w1.heap.size:=(Array.getElem?_eq_some_iff.1 Hnew1.out).1
      have Hsz13:Hid (w1.heap.size < ((w1.alloc (Obj.cells #[Value.int IntKind.i64 pj] 3)).drew).heap.size):=by show _ < _; show w1.heap.size < (w1.alloc _).heap.size; simp
      have Hcq3:Hid (((w1.alloc (Obj.cells #[Value.int IntKind.i64 pj] 3)).drew).cell? ⟨bp,op + j,none⟩=some (.int .i64 pj)):=(Hb13.out.cell (p:=⟨bp,op + j,none⟩) (block_lt_of_cell Hcq.out)).trans Hcq.out
      generalize (w1.alloc (Obj.cells #[Value.int IntKind.i64 pj] 3)).drew=w3 at *
      refine ⟨⟨⟨w3,Hts3.out.h5,Hnew3.out,Hcq3.out⟩,rfl⟩,?_⟩
      refine RY.walkR_move ?_
      simp only [dsc_,dz_,tsc_,tz_]
      obtain ⟨iP,hi,hz0,hz1,hz2⟩:=info_parts infoP
      refine wpList_append_own_at w3 rfl (.tmp 47) (.tmp 52) 24 rfl (w.heap.size + 2) 3 iP (.int .i64 0) 1 8 Tryz.underlying24 hi hz0 hz1 hz2 rfl (by decide) _ _ _ rfl Hts3.out.o1 ⟨w1.heap.size,0,none⟩ 1 1 [.int .i64 pj] rfl rfl Hone.out (by simp [Value.oneCell']) (by have:=Hmx.out; rw [List.length_take] at this; unfold maxLen; omega) (by have:=Hmx.out; rw [List.length_take] at this; omega) Hts3.out.siz ?_
      intro v' w4 own4 hg4 hnil4 hat4
      have Hts4:=hd_ (Hts3.out.grow1 own4 hg4 hat4)
      obtain ⟨e1,f1c,rfl⟩:=own_form own4
      have Hnew4:Hid (w4.heap[wr.heap.size]?=some (.cells #[.string (itx q.num),.string (dec q.den)] 58 (0,0))):=by
       show _=_
       rw [hg4.block _ (Array.getElem?_eq_some_iff.1 Hnew3.out).1 (fun e=>by have:=Hlo1.out _ e.symm; omega)]
       exact Hnew3.out
      have Hcq4:Hid (w4.cell? ⟨bp,op + j,none⟩=some (.int .i64 pj)):=(Hts4.out.bel.cell (p:=⟨bp,op + j,none⟩) hbp).trans Hcp.out
      clear own4 hg4 hnil4 hat4
      go_wp2_with fail
      refine ⟨⟨⟨w4,Hts4.out.h5,Hnew4.out,Hcq4.out⟩,rfl⟩,?_⟩
      refine RY.walkR_any ?_
      simp only [dsc_,dz_,tsc_,tz_]
      go_big_quiet_step (fail)
      refine wpQuiet_nil ?_
      -- the factor
      refine RY.walkR_move ?_
      simp only [dsc_,dz_,tsc_,tz_]
      go_wp2_with fail
      refine cm_ (Hmu.out _ Hts4.out.bel) ?_
      rintro e w5 ⟨rfl,hb5⟩
      have Hts5:=hd_ (Hts4.out.next hb5)
      have Hnew5:=hd_ (stored_cell Hnew4.out hb5)
      have Hcq5:Hid (w5.cell? ⟨bp,op + j,none⟩=some (.int .i64 pj)):=(Hts5.out.bel.cell (p:=⟨bp,op + j,none⟩) hbp).trans Hcp.out
      clear hb5 Hmu
      go_wp2_with fail
      refine ⟨⟨⟨w5,Hts5.out.h5,Hnew5.out,Hcq5.out⟩,rfl⟩,?_⟩
      refine RY.walkR_move ?_
      simp only [dsc_,dz_,tsc_,tz_]
      go_wp2_with fail
      have Hb56:=hd_ ((Below.refl w5.heap.size w5).alloc nr_ (Obj.cells #[Value.string (itx fq)] 56))
      have Hts6:=hd_ (Hts5.out.next Hb56.out)
      have Hnew6:=hd_ (stored_cell Hnew5.out Hb56.out)
      have Hone6:Hid (∀ jj u,[Value.string (itx fq)][jj]?=some u→(w5.alloc (Obj.cells #[Value.string (itx fq)] 56)).cell? ((⟨w5.heap.size,0,none⟩:Addr).add jj)=some u):=fun jj u hj=>cell_one_new w5 _ _ jj u hj
      have Hcq6:Hid ((w5.alloc (Obj.cells #[Value.string (itx fq)] 56)).cell? ⟨bp,op + j,none⟩=some (.int .i64 pj)):=(Hts6.out.bel.cell (p:=⟨bp,op + j,none⟩) hbp).trans Hcp.out
      generalize w5.alloc (Obj.cells #[Value.string (itx fq)] 56)=w6 at *
      refine ⟨⟨⟨w6,Hts6.out.h5,Hnew6.out,Hcq6.out⟩,rfl⟩,?_⟩
      refine RY.walkR_move ?_
      simp only [dsc_,dz_,tsc_,tz_]
      obtain ⟨iZ,hiZ,hzZ0,hzZ1,hzZ2⟩:=info_parts infoZ
      refine wpList_append_own_at w6 rfl (.tmp 55) (.tmp 60) 139 rfl (w.heap.size + 2) 56 iZ (.string ⟨#[]⟩) 1 16 Tryz.underlying139 hiZ hzZ0 hzZ1 hzZ2 rfl (by decide) _ _ _ rfl Hts6.out.o2 ⟨w5.heap.size,0,none⟩ 1 1 [.string (itx fq)] rfl rfl Hone6.out (by simp [Value.oneCell']) (by have:=Hmx.out; rw [List.length_take] at this; unfold maxLen; omega) (by have:=Hmx.out; rw [List.length_take] at this; omega) Hts6.out.siz ?_
      intro v' w7 own7 hg7 hnil7 hat7
      have Hts7:=hd_ (Hts6.out.grow2 own7 hg7 hat7)
      obtain ⟨e2,f2c,rfl⟩:=own_form own7
      have Hnew7:Hid (w7.heap[wr.heap.size]?=some (.cells #[.string (itx q.num),.string (dec q.den)] 58 (0,0))):=by
       show _=_
       rw [hg7.block _ (Array.getElem?_eq_some_iff.1 Hnew6.out).1 (fun e=>by have:=Hlo2.out _ e.symm; omega)]
       exact Hnew6.out
      have Hcq7:Hid (w7.cell? ⟨bp,op + j,none⟩=some (.int .i64 pj)):=(Hts7.out.bel.cell (p:=⟨bp,op + j,none⟩) hbp).trans Hcp.out
      clear own7 hg7 hnil7 hat7
      go_wp2_with fail
      refine ⟨⟨⟨w7,Hts7.out.h5,Hnew7.out,Hcq7.out⟩,rfl⟩,?_⟩
      -- the stores
      obtain ⟨m0,m1,m2,m3⟩:=obj_cells3 Hts7.out.h5
      have f0:=m3 0
      have f1:=m3 1
      clear m3
      refine RY.walkR_move ?_
      simp only [dsc_,dz_,tsc_,tz_]
      go_wp2_with fail
      have Hts8:=hd_ (Hts7.out.store1 (Value.slice e1 ((tlist (tden l) (List.take j ps) (List.take j l)).length + 1) f1c))
      clear m0 m1 m2 f0 f1
      generalize w7.setCell { block:=w.heap.size + 1,off:=0 } (Value.slice e1 ((tlist (tden l) (List.take j ps) (List.take j l)).length + 1) f1c)=w8 at *
      refine RY.walkR_any ?_
      simp only [dsc_,dz_,tsc_,tz_]
      go_big_quiet_step (fail)
      refine wpQuiet_nil ?_
      obtain ⟨m0,m1,m2,m3⟩:=obj_cells3 Hts8.out.h5
      have f0:=m3 0
      have f1:=m3 1
      clear m3
      refine RY.walkR_move ?_
      simp only [dsc_,dz_,tsc_,tz_]
      go_wp2_with fail
      have Hts9:=hd_ (Hts8.out.store2 (Value.slice e2 ((tlist (tden l) (List.take j ps) (List.take j l)).length + 1) f2c))
      clear m0 m1 m2 f0 f1
      generalize w8.setCell { block:=w.heap.size + 1,off:=1 } (Value.slice e2 ((tlist (tden l) (List.take j ps) (List.take j l)).length + 1) f2c)=w9 at *
      simp only [RY.walkR]
      go_wp2
      go_roundw
      case rel =>
       refine ⟨j + 1,e1,f1c,e2,f2c,by omega,by go_num,?_⟩
       show TS _ _ _ _ _ _ _ _
       rw [Hsucc.out]
       unfold TS
       simp only [List.map_append,List.length_append,List.length_cons,List.length_nil,ints_append,strs_append,List.map_cons,List.map_nil]
       exact Hts9.out
      case measure=>simp [intOf]; omega
    ·have hlt2':¬ (j:Int) < k:=by omega
     have hjk:j=k:=by omega
     subst hjk
     have hfull:tlist (tden l) (ps.take j) (l.take j)=tlist (tden l) ps l:=by
      rw [show ps.take j=ps by rw [← Hpl.out,List.take_length],show l.take j=l by rw [← Hn.out,List.take_length]]
     rw [hfull] at Hts
     clear hfull Hts0 Hdp Hdl Hw0
     obtain ⟨m0,m1,m2,m3⟩:=obj_cells3 Hts.out.h5
     clear m3
     obtain ⟨r0,r1,r2,r3⟩:=obj_cells3 Hts.out.h4
     have f0:=r3 0
     have f1:=r3 1
     have f2:=r3 2
     clear r3
     go_wp2_with fail
     have h10:=obj_set (obj_set (obj_set Hts.out.h4 0 (Value.slice b1 (tlist (tden l) ps l).length d1)) 1 (Value.slice b2 (tlist (tden l) ps l).length d2)) 2 (.string (dec (tden l)))
     have o1:=own_rd (ownsRow_setCell_below (ownsRow_setCell_below (ownsRow_setCell_below Hts.out.o1 (a:=⟨w.heap.size,0,none⟩) (by show w.heap.size < w.heap.size + 2; omega) (Value.slice b1 (tlist (tden l) ps l).length d1)) (a:=⟨w.heap.size,1,none⟩) (by show w.heap.size < w.heap.size + 2; omega) (Value.slice b2 (tlist (tden l) ps l).length d2)) (a:=⟨w.heap.size,2,none⟩) (by show w.heap.size < w.heap.size + 2; omega) (.string (dec (tden l))))
     have o2:=own_rd (ownsRow_setCell_below (ownsRow_setCell_below (ownsRow_setCell_below Hts.out.o2 (a:=⟨w.heap.size,0,none⟩) (by show w.heap.size < w.heap.size + 2; omega) (Value.slice b1 (tlist (tden l) ps l).length d1)) (a:=⟨w.heap.size,1,none⟩) (by show w.heap.size < w.heap.size + 2; omega) (Value.slice b2 (tlist (tden l) ps l).length d2)) (a:=⟨w.heap.size,2,none⟩) (by show w.heap.size < w.heap.size + 2; omega) (.string (dec (tden l))))
     have hbl:=((Hts.out.bel.setCell (p:=⟨w.heap.size,0,none⟩) nr_ (Value.slice b1 (tlist (tden l) ps l).length d1)).setCell (p:=⟨w.heap.size,1,none⟩) nr_ (Value.slice b2 (tlist (tden l) ps l).length d2)).setCell (p:=⟨w.heap.size,2,none⟩) nr_ (.string (dec (tden l)))
     generalize ((wr.setCell { block:=w.heap.size,off:=0 } (Value.slice b1 (tlist (tden l) ps l).length d1)).setCell { block:=w.heap.size,off:=1 } (Value.slice b2 (tlist (tden l) ps l).length d2)).setCell { block:=w.heap.size,off:=2 } (Value.string (dec (tden l)))=w10 at *
     obtain ⟨t0,t1,t2,-⟩:=obj_cells3 (a:=Value.slice b1 (tlist (tden l) ps l).length d1) (b:=Value.slice b2 (tlist (tden l) ps l).length d2) (c := .string (dec (tden l))) h10
     exact bodyPost_ret (v:=termsV (Value.slice b1 (tlist (tden l) ps l).length d1) (Value.slice b2 (tlist (tden l) ps l).length d2) (tden l)) (by simp [termsV,results,Tryz.results82,go_sem,t0,t1,t2]) rfl ⟨b1,d1,b2,d2,rfl,o1,o2,hbl⟩
end Go.Proofs.YtkoicfghplmghaaGreatDoor

namespace Go.Proofs.YtkoicfghplmghaaGreatDoor
open Go.RowKit Go.Shelf
attribute [local go_sem] Oper.semAt_some
abbrev tcells (b1:Option Addr) (d1:Nat) (b2:Option Addr) (d2 m D:Nat):Array Value := #[.slice b1 m d1,.slice b2 m d2,.string (dec D)]
theorem all_any (w:World) (b1 b2:Option Addr) (d1 d2 m D:Nat) :
  Calls Tryz.prog 173 #[.agg (tcells b1 d1 b2 d2 m D)] w fun e w' =>
   e = .returned (.func (.func 211) #[] #[.pointer (some ⟨w.heap.size,0,none⟩)])∧w'=w.alloc (.cells (tcells b1 d1 b2 d2 m D) 141):=by
 go_enter Tryz.func173,Tryz.ntmps173
 go_wp2
 go_ret
 exact ⟨rfl,rfl⟩
abbrev encT (tl:List (Int×Int)) (x:{x // x∈tl}):Array Value := #[.int .i64 x.1.1,.string (itx x.1.2)]
def KT (n₀ Bn:Nat) (W W':World):Prop:=Below n₀ W W'∧W'.heap[Bn]?=W.heap[Bn]?
theorem kt_t {n₀ Bn:Nat} {A B C:World} (h:KT n₀ Bn A B) (k:KT n₀ Bn B C):KT n₀ Bn A C:=⟨h.1.trans k.1,k.2.trans h.2⟩
theorem kt_b {n₀ Bn:Nat} {w:World} (hn:n₀≤w.heap.size) (hB:Bn < w.heap.size) (W:World) (l:Nat) (o o':Obj) (hl:w.heap.size≤l) (h:W.heap[l]?=some o) (h1:o.isCells=false) (h2:o.isWalk=false):KT n₀ Bn W (W.putObj l o') :=
 ⟨belowK_b hn W l o o' hl h h1 h2,World.putObj_heap_other (by omega)⟩
theorem all_stops (n:Nat) (hn:1≤n) (w00 w:World) (h00:Below w00.heap.size w00 w) (Bn:Nat) (b1 b2:Option Addr) (d1 d2 D:Nat) (tl:List (Int×Int)) (hl:tl.length≤1000)
  (hB:w.heap[Bn]?=some (.cells (tcells b1 d1 b2 d2 tl.length D) 141 (0,0))) (hr1:Rd w00 b1 (ints (tl.map Prod.fst))) (hr2:Rd w00 b2 (strs (tl.map fun x=>itx x.2))) :
  SeqStopsK Fence.wide n Tryz.prog 211 #[.pointer (some ⟨Bn,0,none⟩)] (encT tl) (KT w00.heap.size Bn) (fun xs=>xs=tl.attach) (fun pre=>pre <+: tl.attach) tl.length w:=fun l J Jx W hW hJ hJx hY h0=>by
 have HB:=hd_ ((hW.block _ (Array.getElem?_eq_some_iff.1 hB).1).trans hB)
 have Hrd1:=hd_ hr1
 have Hrd2:=hd_ hr2
 have HW:=hd_ (h00.trans (hW.mono h00.size))
 clear hr1 hr2 hB hW h00
 refine callsIn_of_wp Tryz.func211 rfl trivial ?_ rfl
 simp only [Tryz.ntmps211,List.size_toArray,List.length_cons,List.length_nil,Nat.reduceAdd,Nat.reduceSub,Array.replicate_succ,Array.replicate_zero,List.push_toArray,List.append_toArray,List.nil_append,List.cons_append]
 obtain ⟨m0,m1,m2,m3⟩:=obj_cells3 HB.out
 clear m3
 gi_wp2
 gi_loopw [8] (fun p wr=>∃ k:Nat,k≤tl.length∧p = .int .i64 k∧J (tl.attach.take k) wr∧Hid (Below w00.heap.size w00 wr)∧Hid (wr.heap[Bn]?=some (.cells (tcells b1 d1 b2 d2 tl.length D) 141 (0,0))))
  (fun p wr=>tl.length - (intOf p).toNat)
 case atStart=>exact ⟨0,Nat.zero_le _,rfl,h0,HW,HB⟩
 case round =>
  obtain ⟨k,hk,rfl,hJk,Hb,HBk⟩:=hrel
  by_cases hlt:k < tl.length
  ·have hlt':(k:Int) < tl.length:=by omega
   have hk0:(0:Int)≤k:=by omega
   obtain ⟨g1,o1,rfl,hg1,hc1⟩:=Hrd1.out.open (by rw [ints_length,List.length_map]; omega)
   obtain ⟨g2,o2,rfl,hg2,hc2⟩:=Hrd2.out.open (by rw [strs_length,List.length_map]; omega)
   have x1:wr.cell? ⟨g1,o1 + k,none⟩=some (.int .i64 (tl[k]).1):=by
    rw [Hb.out.cell (p:=⟨g1,o1 + k,none⟩) hg1]
    refine hc1 k _ ?_
    rw [ints_get _ k (by rw [List.length_map]; exact hlt),List.getElem_map]
   have x2:wr.cell? ⟨g2,o2 + k,none⟩=some (.string (itx (tl[k]).2)):=by
    rw [Hb.out.cell (p:=⟨g2,o2 + k,none⟩) hg2]
    refine hc2 k _ ?_
    simp [strs,hlt]
   obtain ⟨m0,m1,m2,m3⟩:=obj_cells3 HBk.out
   clear m3 hc1 hc2
   obtain ⟨fn,tmps,assign,body,hy,hR⟩:=hY (tl.attach.take k) ⟨tl[k],List.getElem_mem hlt⟩ wr hJk (by rw [List.length_take,List.length_attach]; omega)
   dsimp only [encT] at hy
   have Hnext:Hid (tl.attach.take k ++ [⟨tl[k],List.getElem_mem hlt⟩]=tl.attach.take (k + 1)):=by
    show _=_
    rw [List.take_add_one,List.getElem?_eq_getElem (by rw [List.length_attach]; exact hlt),List.getElem_attach]; rfl
   have hn0:(tl.length:Int)≤1000:=by omega
   gi_wp2_with fail
   refine hR.mono ?_
   rintro e W3 (⟨rfl,hJ3,hk3⟩ | ⟨rfl,hJx3⟩)
   ·rw [Hnext.out] at hJ3
    have Hb3:=hd_ (Hb.out.trans hk3.1)
    have HB3:=hd_ (hk3.2.trans HBk.out)
    clear hk3 x1 x2 m0 m1 m2 hR hy
    gi_wp2
    go_roundw
    case rel=>exact ⟨k + 1,by omega,by go_num,hJ3,Hb3,HB3⟩
    case measure=>simp [intOf]; omega
   ·rw [Hnext.out] at hJx3
    gi_wp2
    refine bodyPost_ret (results_none rfl _ _ _) rfl ?_
    exact ⟨⟨_,rfl⟩,.inr ⟨tl.attach.take (k + 1),List.take_prefix _ _,hJx3⟩⟩
  ·have hlt':¬ (k:Int) < tl.length:=by omega
   have hall:tl.attach.take k=tl.attach:=List.take_of_length_le (by rw [List.length_attach]; omega)
   rw [hall] at hJk
   gi_wp2
   go_end0
   exact ⟨⟨_,rfl⟩,.inl hJk⟩
end Go.Proofs.YtkoicfghplmghaaGreatDoor

namespace Go.Proofs.YtkoicfghplmghaaGreatDoor
open Go.RowKit
def IsLg (p N a:Nat):Prop:=2 ^ a≤p ^ N∧p ^ N < 2 ^ (a + 1)
def digStep (unit:Nat) (s:Nat×Nat×Nat):Option (Nat×Nat×Nat) :=
 let low:=s.1 * s.1 / unit
 let high:=s.2.1 * s.2.1 / unit + 1
 if 2 * unit≤low then some (low / 2,high / 2 + 1,2 * s.2.2 + 1)
 else if 2 * unit≤high then none
 else some (low,high,2 * s.2.2)
def digs (p more:Nat):Nat→Option (Nat×Nat×Nat)
 | 0=>some (p * 2 ^ (more - p.log2),p * 2 ^ (more - p.log2),p.log2)
 | n + 1=>(digs p more n).bind (digStep (2 ^ more))
structure DigInv (p unit N:Nat) (s:Nat×Nat×Nat):Prop where
 lg:IsLg p N s.2.2
 lo:s.1 * 2 ^ s.2.2≤unit * p ^ N
 hi:unit * p ^ N≤s.2.1 * 2 ^ s.2.2
theorem digStep_inv {p unit N:Nat} {s t:Nat×Nat×Nat} (h0:0 < unit) (h:DigInv p unit N s) (hs:digStep unit s=some t):DigInv p unit (2 * N) t:=by
 obtain ⟨l,h',o⟩:=s
 obtain ⟨⟨g1,g2⟩,lo,hi⟩:=h
 simp only at g1 g2 lo hi
 simp only [digStep] at hs
 have hP:p ^ (2 * N)=p ^ N * p ^ N:=by rw [Nat.two_mul,Nat.pow_add]
 have hO:2 ^ (2 * o)=2 ^ o * 2 ^ o:=by rw [Nat.two_mul,Nat.pow_add]
 have hO1:2 ^ (2 * o + 1)=2 * (2 ^ o * 2 ^ o):=by rw [Nat.pow_succ,hO,Nat.mul_comm]
 have hO2:2 ^ (2 * o + 1 + 1)=4 * (2 ^ o * 2 ^ o):=by rw [Nat.pow_succ,hO1]; omega
 have hq:=Nat.div_mul_le_self (l * l) unit
 have hr:=Nat.lt_div_mul_add (a:=h' * h') h0
 generalize hA:l * l / unit=A at *
 generalize hB:h' * h' / unit=B at *
 rw [Nat.pow_succ] at g2
 generalize 2 ^ o=T at *
 generalize p ^ N=P at *
 -- A * (T * T) ≤ unit * (P * P)
 have e1:A * (T * T)≤unit * (P * P):=by
  have h1:A * unit * (T * T)≤(l * l) * (T * T):=Nat.mul_le_mul_right _ hq
  have h2:(l * T) * (l * T)≤(unit * P) * (unit * P):=Nat.mul_le_mul lo lo
  have h3:unit * (A * (T * T))≤unit * (unit * (P * P)):=by
   calc unit * (A * (T * T))=A * unit * (T * T):=by ac_rfl
    _≤(l * l) * (T * T):=h1
    _=(l * T) * (l * T):=by ac_rfl
    _≤_:=h2
    _=unit * (unit * (P * P)):=by ac_rfl
  exact Nat.le_of_mul_le_mul_left h3 h0
 have e2:unit * (P * P)≤(B + 1) * (T * T):=by
  have h1:h' * h' * (T * T)≤((B + 1) * unit) * (T * T):=Nat.mul_le_mul_right _ (by rw [Nat.add_mul,Nat.one_mul]; omega)
  have h2:(unit * P) * (unit * P)≤(h' * T) * (h' * T):=Nat.mul_le_mul hi hi
  have h3:unit * (unit * (P * P))≤unit * ((B + 1) * (T * T)):=by
   calc unit * (unit * (P * P))=(unit * P) * (unit * P):=by ac_rfl
    _≤_:=h2
    _=h' * h' * (T * T):=by ac_rfl
    _≤_:=h1
    _=unit * ((B + 1) * (T * T)):=by ac_rfl
  exact Nat.le_of_mul_le_mul_left h3 h0
 have e3:T * T≤P * P:=Nat.mul_le_mul g1 g1
 have e4:P * P < 4 * (T * T):=by
  have:=Nat.mul_lt_mul'' g2 g2
  have h4:T * 2 * (T * 2)=4 * (T * T):=by
   calc T * 2 * (T * 2)=(2 * 2) * (T * T):=by ac_rfl
    _=_:=rfl
  omega
 by_cases hl:2 * unit≤A
 ·rw [if_pos hl] at hs
  cases hs
  have e5:unit * (2 * (T * T))≤unit * (P * P):=by
   calc unit * (2 * (T * T))=2 * unit * (T * T):=by ac_rfl
    _≤A * (T * T):=Nat.mul_le_mul_right _ hl
    _≤_:=e1
  have e6:2 * (T * T)≤P * P:=Nat.le_of_mul_le_mul_left e5 h0
  refine ⟨⟨?_,?_⟩,?_,?_⟩
  ·simp only; rw [hO1,hP]; exact e6
  ·simp only; rw [hO2,hP]; exact e4
  ·simp only; rw [hO1,hP]
   have h5:A / 2 * 2 * (T * T)≤A * (T * T):=Nat.mul_le_mul_right _ (by omega)
   rw [Nat.mul_assoc] at h5
   exact Nat.le_trans h5 e1
  ·simp only; rw [hO1,hP]
   have h5:(B + 1) * (T * T)≤((B + 1) / 2 + 1) * 2 * (T * T):=Nat.mul_le_mul_right _ (by omega)
   rw [Nat.mul_assoc] at h5
   exact Nat.le_trans e2 h5
 ·rw [if_neg hl] at hs
  by_cases hh:2 * unit≤B + 1
  ·rw [if_pos hh] at hs; cases hs
  ·rw [if_neg hh] at hs
   cases hs
   have e7:unit * (P * P) < unit * (2 * (T * T)):=by
    have hT:0 < T * T:=by
     rcases Nat.eq_zero_or_pos (T * T) with h | h
     ·omega
     ·exact h
    calc unit * (P * P)≤(B + 1) * (T * T):=e2
     _ < 2 * unit * (T * T):=Nat.mul_lt_mul_of_pos_right (by omega) hT
     _=unit * (2 * (T * T)):=by ac_rfl
   have e8:P * P < 2 * (T * T):=Nat.lt_of_mul_lt_mul_left e7
   refine ⟨⟨?_,?_⟩,?_,?_⟩
   ·simp only; rw [hO,hP]; exact e3
   ·simp only; rw [hO1,hP]; exact e8
   ·simp only; rw [hO,hP]; exact e1
   ·simp only; rw [hO,hP]; exact e2
theorem digs_inv (p more:Nat) (hp:0 < p) (hm:p.log2≤more):∀ n s,digs p more n=some s→DigInv p (2 ^ more) (2 ^ n) s
 | 0,s,h=>by
  simp only [digs,Option.some.injEq] at h
  subst h
  refine ⟨⟨?_,?_⟩,?_,?_⟩
  ·simp only [Nat.pow_zero,Nat.pow_one]; exact Nat.log2_self_le (by omega)
  ·simp only [Nat.pow_zero,Nat.pow_one]; exact Nat.lt_log2_self
  all_goals
   simp only [Nat.pow_zero,Nat.pow_one]
   rw [Nat.mul_assoc,← Nat.pow_add,Nat.sub_add_cancel hm,Nat.mul_comm]
   exact Nat.le_refl _
 | n + 1,s,h=>by
  simp only [digs] at h
  obtain ⟨t,ht,hs⟩:=Option.bind_eq_some_iff.1 h
  have:=digStep_inv (Nat.two_pow_pos more) (digs_inv p more hp hm n t ht) hs
  rw [Nat.pow_succ,Nat.mul_comm]
  exact this
theorem or_shift (H b:Nat) (hb:b < 4):(H * 4) ||| b=H * 4 + b:=by
 have:=Nat.shiftLeft_add_eq_or_of_lt (b:=b) (i:=2) hb H
 rw [Nat.shiftLeft_eq] at this
 exact this.symm
theorem bits_cat (H L:Nat) (hH:H < 4611686018427387904) (hL:L < 18446744073709551616):bits .or .u64 ((H:Int) * 4) ((L:Int) / 4611686018427387904)=((H * 4 + L / 4611686018427387904:Nat):Int):=by
 have h:=(bits_nat .u64 64 (by decide) (fun n h0 h1=>by rw [IntKind.wrap_u64]; omega) (H * 4) (L / 4611686018427387904) (by omega) (by omega)).2
 rw [or_shift H _ (by omega)] at h
 simpa using h
theorem bitLen_log (p:Nat) (hp:0 < p) (hp2:p≤97):Lib.bitLen p=p.log2 + 1:=by
 have key:∀ q,q < 98→0 < q→Lib.bitLen q=q.log2 + 1:=by decide +kernel
 exact key p (by omega) hp
structure DigFit (j:Nat) (s:Nat×Nat×Nat):Prop where
 lo:s.1 < 9223372036854775808
 hi:s.2.1 < 9223372036854775808
 out:s.2.2 + 1≤7 * 2 ^ j
theorem digs_fit (p:Nat) (hp:2≤p) (hp2:p≤97):∀ j s,digs p 62 j=some s→DigFit j s
 | 0,s,h=>by
  simp only [digs,Option.some.injEq] at h
  subst h
  have h1:p < 2 ^ (p.log2 + 1):=Nat.lt_log2_self
  have h2:p.log2≤6:=by
   have:=(Nat.log2_lt (n:=p) (k:=7) (by omega)).2 (by omega)
   omega
  have h3:p * 2 ^ (62 - p.log2) < 2 ^ (p.log2 + 1) * 2 ^ (62 - p.log2):=Nat.mul_lt_mul_of_pos_right h1 (Nat.two_pow_pos _)
  rw [← Nat.pow_add,show p.log2 + 1 + (62 - p.log2)=63 by omega] at h3
  exact ⟨h3,h3,by simp; omega⟩
 | j + 1,s,h=>by
  simp only [digs] at h
  obtain ⟨t,ht,hs⟩:=Option.bind_eq_some_iff.1 h
  obtain ⟨f1,f2,f3⟩:=digs_fit p hp hp2 j t ht
  obtain ⟨l,g,o⟩:=t
  simp only at f1 f2 f3
  simp only [digStep] at hs
  have q1:l * l≤9223372036854775807 * 9223372036854775807:=Nat.mul_le_mul (by omega) (by omega)
  have q2:g * g≤9223372036854775807 * 9223372036854775807:=Nat.mul_le_mul (by omega) (by omega)
  have e:2 ^ (j + 1)=2 * 2 ^ j:=by rw [Nat.pow_succ]; omega
  rw [show (2:Nat) ^ 62=4611686018427387904 from rfl] at hs
  by_cases h1:2 * 4611686018427387904≤l * l / 4611686018427387904
  ·rw [if_pos h1] at hs
   cases hs
   exact ⟨by simp only; omega,by simp only; omega,by simp only; omega⟩
  ·rw [if_neg h1] at hs
   by_cases h2:2 * 4611686018427387904≤g * g / 4611686018427387904 + 1
   ·rw [if_pos h2] at hs; cases hs
   ·rw [if_neg h2] at hs
    cases hs
    exact ⟨by simp only; omega,by simp only; omega,by simp only; omega⟩
def fastV (p:Nat):Value:=match digs p 62 26 with
 | some s => .tuple #[.int .i64 s.2.2,.bool true]
 | none => .tuple #[.int .i64 0,.bool false]
theorem fast_any (w:World) (p:Nat) (hp:2≤p) (hp2:p≤97):Gives Tryz.prog 210 #[.int .i64 p] w (fastV p):=by
 unfold Gives
 have hln:=hd_ (Tryz.bits_Len p w (by omega) (by omega))
 rw [show ((p:Nat):Int).toNat=p from rfl,bitLen_log p (by omega) hp2] at hln
 have hk:p.log2≤6:=by
  have:=(Nat.log2_lt (n:=p) (k:=7) (by omega)).2 (by omega)
  omega
 have hw1:IntKind.i64.wrap (((p.log2 + 1:Nat):Int) - 1)=(p.log2:Int):=by rw [show ((p.log2 + 1:Nat):Int) - 1=(p.log2:Int) by omega]; exact iw_ _ (by omega)
 have hw2:IntKind.u64.wrap (p:Int)=p:=IntWalk.u64_in _ (by omega)
 have hw3:IntKind.i64.wrap (62 - (p.log2:Int))=((62 - p.log2:Nat):Int):=by rw [show 62 - (p.log2:Int)=((62 - p.log2:Nat):Int) by omega]; exact iw_ _ (by omega)
 go_enter Tryz.func210,Tryz.ntmps210
 go_wp2_with fail
 refine cm_ hln.out ?_
 rintro e w1 ⟨rfl,rfl⟩
 have hw4:IntKind.u64.wrap ((p:Int) * 2 ^ (62 - p.log2))=((p * 2 ^ (62 - p.log2):Nat):Int):=by
  have h0:=(digs_fit p hp hp2 0 _ rfl).lo
  simp only at h0
  rw [show ((p * 2 ^ (62 - p.log2):Nat):Int)=(p:Int) * 2 ^ (62 - p.log2) by simp]
  rw [← show ((p * 2 ^ (62 - p.log2):Nat):Int)=(p:Int) * 2 ^ (62 - p.log2) by simp]
  exact IntWalk.u64_in _ (by omega)
 have H0:Hid (digs p 62 0=some (p * 2 ^ (62 - p.log2),p * 2 ^ (62 - p.log2),p.log2)):=rfl
 have Hfit:=hd_ (digs_fit p hp hp2)
 have Hmul:=hd_ (fun x hx=>Tryz.bits_Mul64 x x hx hx w1)
 clear hln
 go_wp2_with fail
 go_loopw [5,6,7,21] (fun a b c i wr=>∃ (j lo hi o:Nat),j≤26∧Hid (digs p 62 j=some (lo,hi,o))∧a = .int .u64 lo∧b = .int .u64 hi∧c = .int .i64 o∧i = .int .i64 j∧wr=w1) (fun _ _ _ i _=>26 - (intOf i).toNat)
 case atStart=>exact ⟨0,_,_,_,by omega,H0,rfl,rfl,rfl,rfl,rfl⟩
 case round =>
  obtain ⟨j,lo,hi,o,hj,Hd,rfl,rfl,rfl,rfl,rfl⟩:=hrel
  by_cases hlt:j < 26
  ·have hlt':(j:Int) < 26:=by omega
   obtain ⟨f1,f2,f3⟩:=Hfit.out j _ Hd.out
   simp only at f1 f2 f3
   have hpw:2 ^ j≤2 ^ 26:=Nat.pow_le_pow_right (by decide) (by omega)
   rw [show (2:Nat) ^ 26=67108864 from rfl] at hpw
   have ho:o≤469762048:=by omega
   have q1:lo * lo≤9223372036854775807 * 9223372036854775807:=Nat.mul_le_mul (by omega) (by omega)
   have q2:hi * hi≤9223372036854775807 * 9223372036854775807:=Nat.mul_le_mul (by omega) (by omega)
   have hm1:=Hmul.out lo (by omega)
   have hm2:=Hmul.out hi (by omega)
   have Hstep:Hid (digs p 62 (j + 1)=digStep (2 ^ 62) (lo,hi,o)):=by
    show _=_
    simp only [digs,Hd.out,Option.bind_some]
   have hh1:lo * lo / 18446744073709551616 < 4611686018427387904:=by omega
   have hl1:lo * lo % 18446744073709551616 < 18446744073709551616:=Nat.mod_lt _ (by decide)
   have hx1:lo * lo / 18446744073709551616 * 4 + lo * lo % 18446744073709551616 / 4611686018427387904=lo * lo / 4611686018427387904:=by omega
   have hh2:hi * hi / 18446744073709551616 < 4611686018427387904:=by omega
   have hl2:hi * hi % 18446744073709551616 < 18446744073709551616:=Nat.mod_lt _ (by decide)
   have hx2:hi * hi / 18446744073709551616 * 4 + hi * hi % 18446744073709551616 / 4611686018427387904=hi * hi / 4611686018427387904:=by omega
   have hb1:=bits_cat _ _ hh1 hl1
   have hb2:=bits_cat _ _ hh2 hl2
   rw [hx1] at hb1
   rw [hx2] at hb2
   have hX1:lo * lo / 4611686018427387904≤18446744073709551612:=by omega
   have hX2:hi * hi / 4611686018427387904≤18446744073709551612:=by omega
   simp only [digStep] at Hstep
   rw [show (2:Nat) ^ 62=4611686018427387904 from rfl] at Hstep
   clear f3 hpw hx1 hx2 q1 q2
   generalize lo * lo / 18446744073709551616=H1 at *
   generalize lo * lo % 18446744073709551616=L1 at *
   generalize hi * hi / 18446744073709551616=H2 at *
   generalize hi * hi % 18446744073709551616=L2 at *
   generalize lo * lo / 4611686018427387904=X1 at *
   generalize hi * hi / 4611686018427387904=X2 at *
   clear f1 f2
   obtain ⟨x1,hx1⟩:∃ x1:Int,(X1:Int)=x1:=⟨_,rfl⟩
   obtain ⟨x2,hx2⟩:∃ x2:Int,(X2:Int) + 1=x2:=⟨_,rfl⟩
   have hwX:IntKind.u64.wrap ((X2:Int) + 1)=(X2:Int) + 1:=IntWalk.u64_in _ (by omega)
   have hx2':(X2:Int)=x2 - 1:=by omega
   rw [hx1] at hb1
   rw [hx2'] at hb2 hwX
   have hwX2:IntKind.u64.wrap (x2 - 1 + 1)=x2:=by rw [hwX]; omega
   have Hx1:=hd_ hx1
   have Hx2:=hd_ hx2
   have hx1b:0≤x1∧x1≤18446744073709551612:=by omega
   have hx2b:1≤x2∧x2≤18446744073709551613:=by omega
   clear hwX hx1 hx2 hx2'
   have hwH1:IntKind.u64.wrap ((H1:Int) * 4)=(H1:Int) * 4:=IntWalk.u64_in _ (by omega)
   have hwH2:IntKind.u64.wrap ((H2:Int) * 4)=(H2:Int) * 4:=IntWalk.u64_in _ (by omega)
   clear hX1 hX2 hh1 hh2 hl1 hl2
   go_wp2_with fail
   refine cm_ hm1 ?_
   rintro e w2 ⟨rfl,rfl⟩
   clear hm1
   go_wp2_with fail
   refine cm_ hm2 ?_
   rintro e w2 ⟨rfl,rfl⟩
   clear hm2
   go_wp2_with fail
   ·rename_i hc1
    have Hst:Hid (digs p 62 (j + 1)=some (X1 / 2,(X2 + 1) / 2 + 1,2 * o + 1)):=by
     show _=_
     rw [Hstep.out,if_pos (by have:=Hx1.out; omega)]
    go_roundw
    case rel=>exact ⟨j + 1,X1 / 2,(X2 + 1) / 2 + 1,2 * o + 1,by omega,Hst,by rw [← Hx1.out]; go_num,by rw [← Hx2.out]; go_num,by go_num,by go_num,trivial⟩
    case measure=>simp [intOf]; omega
   ·rename_i hc1 hc2
    have Hst:Hid (digs p 62 (j + 1)=none):=by
     show _=_
     rw [Hstep.out,if_neg (by have:=Hx1.out; omega),if_pos (by have:=Hx2.out; omega)]
    have Hnone:Hid (fastV p = .tuple #[.int .i64 0,.bool false]):=by
     have key:∀ m,digs p 62 (j + 1 + m)=none:=fun m=>by
      induction m with
      | zero=>exact Hst.out
      | succ m ih=>rw [← Nat.add_assoc]; show (digs p 62 (j + 1 + m)).bind _=none; rw [ih]; rfl
     show _=_
     unfold fastV
     have:=key (25 - j)
     rw [show j + 1 + (25 - j)=26 by omega] at this
     rw [this]
    go_ret2
    exact ⟨by rw [Hnone.out]; rfl,Below.refl _ _⟩
   ·rename_i hc1 hc2
    have Hst:Hid (digs p 62 (j + 1)=some (X1,X2 + 1,2 * o)):=by
     show _=_
     rw [Hstep.out,if_neg (by have:=Hx1.out; omega),if_neg (by have:=Hx2.out; omega)]
    go_roundw
    case rel=>exact ⟨j + 1,X1,X2 + 1,2 * o,by omega,Hst,by rw [← Hx1.out],by rw [← Hx2.out]; go_num,by go_num,by go_num,trivial⟩
    case measure=>simp [intOf]; omega
  ·have hlt':¬ (j:Int) < 26:=by omega
   have hj26:j=26:=by omega
   subst hj26
   have Hsome:Hid (fastV p = .tuple #[.int .i64 o,.bool true]):=by
    show _=_
    unfold fastV
    rw [Hd.out]
   go_wp2
   go_ret2
   exact ⟨by rw [Hsome.out]; rfl,Below.refl _ _⟩
end Go.Proofs.YtkoicfghplmghaaGreatDoor

namespace Go.Proofs.YtkoicfghplmghaaGreatDoor
def digIt (unit:Nat):Nat→Nat×Nat×Nat→Option (Nat×Nat×Nat)
 | 0,s=>some s
 | n + 1,s=>(digStep unit s).bind (digIt unit n)
theorem digIt_snoc (unit:Nat):∀ (n:Nat) (s:Nat×Nat×Nat),digIt unit (n + 1) s=(digIt unit n s).bind (digStep unit)
 | 0,s=>by simp [digIt]
 | n + 1,s=>by
  show (digStep unit s).bind (digIt unit (n + 1))=((digStep unit s).bind (digIt unit n)).bind (digStep unit)
  cases digStep unit s with
  | none=>rfl
  | some t=>exact digIt_snoc unit n t
theorem digs_it (p more:Nat):∀ n,digs p more n=digIt (2 ^ more) n (p * 2 ^ (more - p.log2),p * 2 ^ (more - p.log2),p.log2)
 | 0=>rfl
 | n + 1=>by rw [digIt_snoc,← digs_it p more n]; rfl
theorem lgGo_it (unit:Nat):∀ (n lo hi out:Nat),LN.lgGo unit n lo hi out=(digIt unit n (lo,hi,out)).map fun s=>s.2.2
 | 0,_,_,_=>rfl
 | n + 1,lo,hi,out=>by
  unfold LN.lgGo digIt digStep
  simp only
  split
  ·rw [lgGo_it unit n]; rfl
  ·split
   ·rfl
   ·rw [lgGo_it unit n]; rfl
theorem lg_digs (p n more:Nat):LN.lg p p.log2 n more=(digs p more n).map fun s=>s.2.2:=by
 rw [digs_it]; exact lgGo_it _ _ _ _ _
structure Finer (u:Nat) (s t:Nat×Nat×Nat):Prop where
 lo:s.1 * u≤t.1
 hi:t.2.1≤s.2.1 * u
 out:t.2.2=s.2.2
 le:t.1≤t.2.1
theorem finer_step {unit u:Nat} (hu:0 < u) (h0:0 < unit) {s t s':Nat×Nat×Nat} (h:Finer u s t) (hs:digStep unit s=some s'):∃ t',digStep (unit * u) t=some t'∧Finer u s' t':=by
 obtain ⟨l,g,o⟩:=s
 obtain ⟨l2,g2,o2⟩:=t
 obtain ⟨hl,hg,ho,hle⟩:=h
 simp only at hl hg ho hle
 subst ho
 have q1:l * l / unit * u≤l2 * l2 / (unit * u):=by
  rw [Nat.le_div_iff_mul_le (Nat.mul_pos h0 hu)]
  have a:=Nat.div_mul_le_self (l * l) unit
  calc l * l / unit * u * (unit * u)=(l * l / unit * unit) * (u * u):=by ac_rfl
   _≤l * l * (u * u):=Nat.mul_le_mul_right _ a
   _=(l * u) * (l * u):=by ac_rfl
   _≤_:=Nat.mul_le_mul hl hl
 have q2:g2 * g2 / (unit * u) + 1≤(g * g / unit + 1) * u:=by
  rw [Nat.add_one_le_iff,Nat.div_lt_iff_lt_mul (Nat.mul_pos h0 hu)]
  have a:=Nat.lt_div_mul_add (a:=g * g) h0
  have b:g * g < (g * g / unit + 1) * unit:=by rw [Nat.add_mul,Nat.one_mul]; exact a
  calc g2 * g2≤(g * u) * (g * u):=Nat.mul_le_mul hg hg
   _=g * g * (u * u):=by ac_rfl
   _ < (g * g / unit + 1) * unit * (u * u):=Nat.mul_lt_mul_of_pos_right b (Nat.mul_pos hu hu)
   _=_:=by ac_rfl
 have q3:l2 * l2 / (unit * u)≤g2 * g2 / (unit * u) + 1:=Nat.le_succ_of_le (Nat.div_le_div_right (Nat.mul_le_mul hle hle))
 have e2:2 * (unit * u)=2 * unit * u:=by rw [Nat.mul_assoc]
 simp only [digStep] at hs ⊢
 generalize l * l / unit=A at *
 generalize g * g / unit + 1=B at *
 generalize l2 * l2 / (unit * u)=A2 at *
 generalize g2 * g2 / (unit * u) + 1=B2 at *
 by_cases h1:2 * unit≤A
 ·rw [if_pos h1] at hs
  cases hs
  have h2:2 * (unit * u)≤A2:=by rw [e2]; exact Nat.le_trans (Nat.mul_le_mul_right _ h1) q1
  rw [if_pos h2]
  refine ⟨_,rfl,?_,?_,rfl,by simp only; omega⟩
  ·show A / 2 * u≤A2 / 2
   rw [Nat.le_div_iff_mul_le (by decide)]
   calc A / 2 * u * 2=A / 2 * 2 * u:=by ac_rfl
    _≤A * u:=Nat.mul_le_mul_right _ (Nat.div_mul_le_self _ _)
    _≤_:=q1
  ·show B2 / 2 + 1≤(B / 2 + 1) * u
   have h3:B2 / 2 < (B / 2 + 1) * u:=by
    rw [Nat.div_lt_iff_lt_mul (by decide)]
    have h4:B + 1≤(B / 2 + 1) * 2:=by omega
    have h5:(B + 1) * u≤(B / 2 + 1) * 2 * u:=Nat.mul_le_mul_right _ h4
    have h6:(B / 2 + 1) * 2 * u=(B / 2 + 1) * u * 2:=by ac_rfl
    rw [Nat.add_mul] at h5
    omega
   exact h3
 ·rw [if_neg h1] at hs
  by_cases h2:2 * unit≤B
  ·rw [if_pos h2] at hs; cases hs
  ·rw [if_neg h2] at hs
   cases hs
   have h3:B2 < 2 * (unit * u):=by
    rw [e2]
    exact Nat.lt_of_le_of_lt q2 (Nat.mul_lt_mul_of_pos_right (by omega) hu)
   rw [if_neg (by omega),if_neg (by omega)]
   exact ⟨_,rfl,q1,q2,rfl,q3⟩
theorem finer_it {unit u:Nat} (hu:0 < u) (h0:0 < unit):∀ (n:Nat) {s t s':Nat×Nat×Nat},Finer u s t→digIt unit n s=some s'→∃ t',digIt (unit * u) n t=some t'∧Finer u s' t'
 | 0,s,t,s',h,hs=>by cases hs; exact ⟨t,rfl,h⟩
 | n + 1,s,t,s',h,hs=>by
  obtain ⟨m,h1,h2⟩:=Option.bind_eq_some_iff.1 hs
  obtain ⟨m',h3,h4⟩:=finer_step hu h0 h h1
  obtain ⟨t',h5,h6⟩:=finer_it hu h0 n h4 h2
  exact ⟨t',by show (digStep (unit * u) t).bind _=_; rw [h3]; exact h5,h6⟩
theorem digs_more {p more m2 n:Nat} (hp:p.log2≤more) (hm:more≤m2) {s:Nat×Nat×Nat} (h:digs p more n=some s):∃ t,digs p m2 n=some t∧t.2.2=s.2.2:=by
 rw [digs_it] at h ⊢
 have e:(2:Nat) ^ m2=2 ^ more * 2 ^ (m2 - more):=by rw [← Nat.pow_add]; congr 1; omega
 have e2:p * 2 ^ (m2 - p.log2)=p * 2 ^ (more - p.log2) * 2 ^ (m2 - more):=by rw [Nat.mul_assoc,← Nat.pow_add]; congr 2; omega
 obtain ⟨t,h1,h2⟩:=finer_it (Nat.two_pow_pos (m2 - more)) (Nat.two_pow_pos more) n (s:=(p * 2 ^ (more - p.log2),p * 2 ^ (more - p.log2),p.log2)) (t:=(p * 2 ^ (m2 - p.log2),p * 2 ^ (m2 - p.log2),p.log2)) ⟨by rw [e2]; exact Nat.le_refl _,by rw [e2]; exact Nat.le_refl _,rfl,Nat.le_refl _⟩ h
 rw [e]
 exact ⟨t,h1,h2.out⟩
theorem digs_fewer {p more:Nat}:∀ {n m:Nat},m≤n→(digs p more n).isSome=true→(digs p more m).isSome=true
 | 0,m,h,hs=>by rw [Nat.le_zero.1 h]; exact hs
 | n + 1,m,h,hs=>by
  rcases Nat.lt_or_eq_of_le h with h | h
  ·refine digs_fewer (Nat.lt_succ_iff.1 h) ?_
   cases hd:digs p more n with
   | none=>rw [digs,hd] at hs; cases hs
   | some s=>rfl
  ·rw [h]; exact hs
theorem digs_some_of_lg {p n more:Nat} (h:(LN.lg p p.log2 n more).isSome=true):(digs p more n).isSome=true:=by
 rw [lg_digs] at h
 simpa using h
def oddP:List Nat:=[3,5,7,11,13,17,19,23,29,31,37,41,43,47,53,59,61,67,71,73,79,83,89,97]
theorem lg_all:oddP.all (fun p=>(LN.lg p p.log2 1056 1120).isSome)=true:=by decide +kernel
theorem oddP_log {p:Nat} (h:p∈oddP):p.log2≤6:=by
 have:∀ q∈oddP,q.log2≤6:=by decide
 exact this p h
theorem oddP_odd {p:Nat} (h:p∈oddP):p % 2=1∧3≤p∧p≤97:=by
 have:∀ q∈oddP,q % 2=1∧3≤q∧q≤97:=by decide
 exact this p h
theorem digs_ok {p n more:Nat} (hp:p∈oddP) (hn:n≤1056) (hm:1120≤more):(digs p more n).isSome=true:=by
 have h:=lg_all
 rw [List.all_eq_true] at h
 have h1:=digs_fewer (m:=n) hn (digs_some_of_lg (h p hp))
 have hl:=oddP_log hp
 obtain ⟨s,hs⟩:=Option.isSome_iff_exists.1 h1
 obtain ⟨t,ht,_⟩:=digs_more (m2:=more) (by omega) (by omega) hs
 rw [ht]; rfl
theorem isLg_one {p N a b:Nat} (h1:IsLg p N a) (h2:IsLg p N b):a=b:=by
 have e1:2 ^ a < 2 ^ (b + 1):=Nat.lt_of_le_of_lt h1.1 h2.2
 have e2:2 ^ b < 2 ^ (a + 1):=Nat.lt_of_le_of_lt h2.1 h1.2
 have f1:=(Nat.pow_lt_pow_iff_right (by decide)).1 e1
 have f2:=(Nat.pow_lt_pow_iff_right (by decide)).1 e2
 omega
def lgN (p:Int) (n:Nat):Nat:=if p=2 then 2 ^ n else match digs p.toNat 1120 n with
 | some s=>s.2.2
 | none=>0
theorem digs_lgN {p n more:Nat} (hp:p∈oddP) (hn:n≤1056) (hm:6≤more) {s:Nat×Nat×Nat} (h:digs p more n=some s):s.2.2=lgN p n:=by
 have hl:=oddP_log hp
 have ho:=oddP_odd hp
 have h1:=(digs_inv p more (by omega) (by omega) n s h).lg
 obtain ⟨t,ht⟩:=Option.isSome_iff_exists.1 (digs_ok hp hn (Nat.le_refl 1120))
 have h2:=(digs_inv p 1120 (by omega) (by omega) n t ht).lg
 have e:lgN p n=t.2.2:=by
  unfold lgN
  rw [if_neg (by omega),Int.toNat_natCast,ht]
 rw [e]
 exact isLg_one h1 h2
theorem lgN_is {p n:Nat} (hp:p∈oddP) (hn:n≤1056):IsLg p (2 ^ n) (lgN p n):=by
 have hl:=oddP_log hp
 have ho:=oddP_odd hp
 obtain ⟨t,ht⟩:=Option.isSome_iff_exists.1 (digs_ok hp hn (Nat.le_refl 1120))
 have h2:=(digs_inv p 1120 (by omega) (by omega) n t ht).lg
 rw [digs_lgN hp hn (by decide) ht] at h2
 exact h2
theorem lgN_two (n:Nat):lgN 2 n=2 ^ n:=by unfold lgN; rw [if_pos rfl]
theorem lgN_le {p n:Nat} (hp:p=2∨p∈oddP) (hn:n≤1056):lgN p n < 7 * 2 ^ n:=by
 rcases hp with rfl | hp
 ·have:=Nat.two_pow_pos n
  rw [show ((2:Nat):Int)=2 from rfl,lgN_two]; omega
 ·have ho:=oddP_odd hp
  have h:=(lgN_is hp hn).1
  have h1:p ^ (2 ^ n) < (2 ^ 7) ^ (2 ^ n):=Nat.pow_lt_pow_left (by omega) (Nat.ne_of_gt (Nat.two_pow_pos n))
  rw [← Nat.pow_mul] at h1
  have h2:=Nat.lt_of_le_of_lt h h1
  exact (Nat.pow_lt_pow_iff_right (by decide)).1 h2
theorem pow_odd (p:Nat) (h:p % 2=1) (m:Nat):p ^ m % 2=1:=by
 induction m with
 | zero=>rfl
 | succ m ih=>rw [Nat.pow_succ,Nat.mul_mod,ih,h]
theorem lgN_at {p n:Nat} (hp:p=2∨p∈oddP) (hn:n≤1056):LN.LogAt n (p:Int) (lgN p n):=by
 rcases hp with rfl | hp
 ·rw [show ((2:Nat):Int)=2 from rfl,lgN_two]
  exact ⟨Nat.le_refl _,Nat.pow_lt_pow_right (by decide) (by omega),fun _=>rfl,fun h=>absurd rfl h⟩
 ·have ho:=oddP_odd hp
  obtain ⟨h1,h2⟩:=lgN_is hp hn
  refine ⟨by rw [Int.toNat_natCast]; exact h1,by rw [Int.toNat_natCast]; exact h2,fun h=>by omega,fun _=>?_⟩
  rw [Int.toNat_natCast]
  refine Nat.lt_of_le_of_ne h1 fun e=>?_
  have h3:=pow_odd p ho.1 (2 ^ n)
  rw [← e] at h3
  by_cases h0:lgN p n=0
  ·rw [h0] at h2
   have:p ^ 1≤p ^ (2 ^ n):=Nat.pow_le_pow_right (by omega) (Nat.two_pow_pos n)
   rw [Nat.pow_one] at this
   omega
  ·obtain ⟨k,hk⟩:=Nat.exists_eq_succ_of_ne_zero h0
   rw [hk,Nat.pow_succ] at h3
   omega
end Go.Proofs.YtkoicfghplmghaaGreatDoor

namespace Go.Proofs.YtkoicfghplmghaaGreatDoor
open Go.RowKit
theorem dec_two:dec 2=⟨#[50]⟩:=by
 have:(dec 2).data = #[50]:=by decide +kernel
 exact ByteArray.ext this
theorem num_two {x K:Nat} (h:x < 2 ^ K) (hK:K < 100000):Num x:=by
 unfold Num
 have h1:(dec x).size≤K + 1:=by
  rw [size_lt _ _ (by omega)]
  exact Nat.lt_of_lt_of_le h (Nat.le_trans (Nat.pow_le_pow_left (by decide) K) (Nat.pow_le_pow_right (by decide) (by omega)))
 omega
theorem wpow2 (w:World) (n:Nat) (hn:n≤4000) (L:Laid w):Gives Tryz.prog 212 #[.string ⟨#[50]⟩,.int .i64 n] w (.tuple #[.string (dec (2 ^ n)),.int .i64 0]):=by
 unfold Gives
 have hs:=split_any w 2
 rw [show itx 2=dec 2 by exact itx_nat 2,show ((2:Int).natAbs)=2 from rfl,dec_two,decide_eq_false (by decide)] at hs
 have Hs:=hd_ hs
 have Hp:Hid (∀ W,Below w.heap.size w W→Gives Tryz.prog 187 #[.string ⟨#[50]⟩,.int .i64 n] W (.tuple #[.string (dec (2 ^ n)),.int .i64 0])):=fun W hW=>by
  have:=power2_any W n hn (L.below hW)
  rw [dec_two] at this
  exact this
 have hN:Num (2 ^ n):=num_two (K:=n + 1) (Nat.pow_lt_pow_right (by decide) (by omega)) (by omega)
 have Hj:Hid (∀ W,Gives Tryz.prog 170 #[.bool false,.string (dec (2 ^ n))] W (.string (dec (2 ^ n)))):=fun W=>by
  have:=join_any W false (2 ^ n) hN
  rw [show jz false (2 ^ n)=((2 ^ n:Nat):Int) from rfl,itx_nat] at this
  exact this
 clear hs L hN
 generalize dec (2 ^ n)=s at *
 have h0:¬ (n:Int) < 0:=by omega
 have h1:¬ (4000:Int) < n:=by omega
 have hsz:((⟨#[50]⟩:ByteArray).size:Int)=1:=rfl
 go_enter Tryz.func212,Tryz.ntmps212
 go_wp2_with fail
 refine cm_ Hs.out ?_
 rintro e w1 ⟨rfl,hb⟩
 have B1:=hd_ hb
 clear hb Hs
 go_wp2_with fail
 refine cm_ (Hp.out _ B1.out) ?_
 rintro e w2 ⟨rfl,hb⟩
 have B2:=hd_ (B1.out.trans (hb.mono B1.out.size))
 clear hb Hp B1
 go_wp2_with fail
 refine cm_ (Hj.out _) ?_
 rintro e w3 ⟨rfl,hb⟩
 have B3:=hd_ (B2.out.trans (hb.mono B2.out.size))
 clear hb Hj B2
 go_wp2_with fail
 go_ret2
 exact ⟨rfl,B3.out⟩
theorem addD (w:World) (a b K:Nat) (hK:K < 90000) (ha:a < 2 ^ K) (hb:b < 2 ^ K) (L:Laid w):Gives Tryz.prog 159 #[.string (dec a),.string (dec b)] w (.string (dec (a + b))):=by
 have hn:=num_two ha (by omega)
 have hm:=num_two hb (by omega)
 have hs:Num (a + b):=num_two (K:=K + 1) (by rw [Nat.pow_succ]; omega) (by omega)
 have:=addz_any w (a:Int) (b:Int) hn hm hs L
 rw [← Int.natCast_add,itx_nat,itx_nat,itx_nat] at this
 exact this
theorem mulD (w:World) (a b K:Nat) (hK:K < 40000) (ha:a < 2 ^ K) (hb:b < 2 ^ K) (L:Laid w):Gives Tryz.prog 134 #[.string (dec a),.string (dec b)] w (.string (dec (a * b))):=by
 have hn:=num_two ha (by omega)
 have hm:=num_two hb (by omega)
 have hs:ZNum ((a:Int) * b):=num_two (K:=K + K) (by rw [← Int.natCast_mul,Int.natAbs_natCast,Nat.pow_add]; exact Nat.mul_lt_mul'' ha hb) (by omega)
 have:=mulz_any w (a:Int) (b:Int) hn hm hs L
 rw [← Int.natCast_mul,itx_nat,itx_nat,itx_nat] at this
 exact this
theorem divD (w:World) (a b K:Nat) (hK:K < 90000) (ha:a < 2 ^ K) (hb:b < 2 ^ K) (h0:0 < b) (L:Laid w):Gives Tryz.prog 133 #[.string (dec a),.string (dec b)] w (.tuple #[.string (dec (a / b)),.string (dec (a % b)),.int .i64 0]):=by
 have hn:=num_two ha (by omega)
 have hm:=num_two hb (by omega)
 have hs:Num ((a:Int).natAbs + 1):=num_two (K:=K + 1) (by rw [Int.natAbs_natCast,Nat.pow_succ]; omega) (by omega)
 have:=divmodz_any w (a:Int) b hn hm h0 hs L
 rw [(ediv_nat a b).1,(ediv_nat a b).2,itx_nat,itx_nat,itx_nat] at this
 exact this
theorem compD (_w:World) (a b K:Nat) (hK:K < 90000) (ha:a < 2 ^ K) (hb:b < 2 ^ K):∃ c:Int,(c = -1∨c=0∨c=1)∧(0≤c↔b≤a)∧∀ W,Gives Tryz.prog 231 #[.string (dec a),.string (dec b)] W (.int .i64 c):=by
 have hn:=num_two ha (by omega)
 have hm:=num_two hb (by omega)
 refine ⟨cmpZ a b,?_,?_,fun W=>?_⟩
 ·unfold cmpZ; split
  ·exact .inl rfl
  ·split
   ·exact .inr (.inl rfl)
   ·exact .inr (.inr rfl)
 ·unfold cmpZ; split
  ·constructor <;> omega
  ·split
   ·constructor <;> omega
   ·constructor <;> omega
 ·have:=comparez_any W (a:Int) (b:Int) hn hm
  rw [itx_nat,itx_nat] at this
  exact this
structure DigB (more n:Nat) (s:Nat×Nat×Nat):Prop where
 lo:s.1 < 2 * 2 ^ more
 hi:s.2.1 < 2 * 2 ^ more
 out:s.2.2 < 2 ^ (n + 3)
theorem log2_le (p:Nat) (hp:2≤p) (hp2:p≤97):p.log2≤6:=by
 have:=(Nat.log2_lt (n:=p) (k:=7) (by omega)).2 (by omega)
 omega
theorem digs_b (p more:Nat) (hp:2≤p) (hp2:p≤97) (hm:64≤more):∀ n s,digs p more n=some s→DigB more n s
 | 0,s,h=>by
  simp only [digs,Option.some.injEq] at h
  subst h
  have h1:p < 2 ^ (p.log2 + 1):=Nat.lt_log2_self
  have h2:=log2_le p hp hp2
  have h3:p * 2 ^ (more - p.log2) < 2 ^ (p.log2 + 1) * 2 ^ (more - p.log2):=Nat.mul_lt_mul_of_pos_right h1 (Nat.two_pow_pos _)
  rw [← Nat.pow_add,show p.log2 + 1 + (more - p.log2)=1 + more by omega,Nat.pow_add,Nat.pow_one] at h3
  exact ⟨h3,h3,by show p.log2 < 2 ^ 3; omega⟩
 | n + 1,s,h=>by
  simp only [digs] at h
  obtain ⟨t,ht,hs⟩:=Option.bind_eq_some_iff.1 h
  obtain ⟨f1,f2,f3⟩:=digs_b p more hp hp2 hm n t ht
  obtain ⟨l,g,o⟩:=t
  simp only at f1 f2 f3
  simp only [digStep] at hs
  have hu:=Nat.two_pow_pos more
  have hu2:2 ^ 1≤2 ^ more:=Nat.pow_le_pow_right (by decide) (by omega)
  obtain ⟨u,eu⟩:∃ u,2 ^ more=u:=⟨_,rfl⟩
  rw [eu] at hu hu2 f1 f2 hs
  have q1:l * l / u < 4 * u:=by
   rw [Nat.div_lt_iff_lt_mul hu]
   calc l * l < 2 * u * (2 * u):=Nat.mul_lt_mul'' f1 f1
    _=4 * u * u:=by grind
  have q2:g * g / u + 1≤4 * u - 3:=by
   have h1:g * g≤(2 * u - 1) * (2 * u - 1):=Nat.mul_le_mul (by omega) (by omega)
   have h2:g * g / u < 4 * u - 3:=by
    rw [Nat.div_lt_iff_lt_mul hu]
    obtain ⟨v,rfl⟩:∃ v,u=v + 1:=⟨u - 1,by omega⟩
    have e1:2 * (v + 1) - 1=2 * v + 1:=by omega
    have e2:4 * (v + 1) - 3=4 * v + 1:=by omega
    rw [e1] at h1
    rw [e2]
    have e3:(2 * v + 1) * (2 * v + 1)=4 * (v * v) + 4 * v + 1:=by grind
    have e4:(4 * v + 1) * (v + 1)=4 * (v * v) + 5 * v + 1:=by grind
    rw [e3] at h1
    rw [e4]
    omega
   omega
  have eo:2 ^ (n + 1 + 3)=2 * 2 ^ (n + 3):=by rw [show n + 1 + 3=n + 3 + 1 by omega,Nat.pow_succ]; omega
  by_cases h1:2 * u≤l * l / u
  ·rw [if_pos h1] at hs
   cases hs
   exact ⟨by simp only; rw [eu]; omega,by simp only; rw [eu]; omega,by simp only; omega⟩
  ·rw [if_neg h1] at hs
   by_cases h2:2 * u≤g * g / u + 1
   ·rw [if_pos h2] at hs; cases hs
   ·rw [if_neg h2] at hs
    cases hs
    exact ⟨by simp only; rw [eu]; omega,by simp only; rw [eu]; omega,by simp only; omega⟩
def digitsV (p n more:Nat):Value:=match digs p more n with
 | some s => .tuple #[.string (dec s.2.2),.bool true]
 | none => .tuple #[.string ⟨#[]⟩,.bool false]
theorem digs_none {p more j n:Nat} (h:digs p more j=none) (hj:j≤n):digs p more n=none:=by
 cases hd:digs p more n with
 | none=>rfl
 | some s =>
  have:=digs_fewer (m:=j) hj (show (digs p more n).isSome=true by rw [hd]; rfl)
  rw [h] at this
  cases this
end Go.Proofs.YtkoicfghplmghaaGreatDoor

namespace Go.Proofs.YtkoicfghplmghaaGreatDoor
open Go.RowKit
theorem sdigits_any (w:World) (p n more:Nat) (hp:2≤p) (hp2:p≤97) (hn:n≤4000) (hm:64≤more) (hm2:more≤4000) (L:Laid w) :
  Gives Tryz.prog 213 #[.int .i64 p,.int .i64 n,.int .i64 more] w (digitsV p n more):=by
 unfold Gives
 have hl:=log2_le p hp hp2
 have hln:=hd_ (Tryz.bits_Len p w (by omega) (by omega))
 rw [show ((p:Nat):Int).toNat=p from rfl,bitLen_log p (by omega) hp2] at hln
 have hw1:IntKind.i64.wrap (((p.log2 + 1:Nat):Int) - 1)=(p.log2:Int):=by rw [show ((p.log2 + 1:Nat):Int) - 1=(p.log2:Int) by omega]; exact iw_ _ (by omega)
 have hw2:IntKind.u64.wrap (p:Int)=p:=IntWalk.u64_in _ (by omega)
 have hw3:IntKind.i64.wrap ((more:Int) - (p.log2:Int))=((more - p.log2:Nat):Int):=by rw [show (more:Int) - (p.log2:Int)=((more - p.log2:Nat):Int) by omega]; exact iw_ _ (by omega)
 have HL:=hd_ L
 clear L
 obtain ⟨K,hK⟩:∃ K:Nat,K=4050:=⟨_,rfl⟩
 have HK:=hd_ hK
 have Hm2:=hd_ hm2
 have Hn:=hd_ hn
 have Hdb:Hid (∀ j lo hi o,digs p more j=some (lo,hi,o)→lo < 2 * 2 ^ more∧hi < 2 * 2 ^ more∧o < 2 ^ (j + 3)):=fun j lo hi o h=>by
  have:=digs_b p more hp hp2 hm j _ h
  exact ⟨this.lo,this.hi,this.out⟩
 have Hnext:Hid (∀ j s,digs p more j=some s→digs p more (j + 1)=digStep (2 ^ more) s):=fun j s h=>by
  simp only [digs,h,Option.bind_some]
 have Hu0:Hid (0 < 2 ^ more):=Nat.two_pow_pos more
 have Hu:Hid (2 ^ more < 2 ^ K):=Nat.pow_lt_pow_right (by decide) (by omega)
 have Huu:Hid (2 ^ more + 2 ^ more=2 * 2 ^ more):=(Nat.two_mul _).symm
 have Hu2:Hid (2 * 2 ^ more < 2 ^ K):=by
  show _ < _
  rw [Nat.mul_comm,← Nat.pow_succ]
  exact Nat.pow_lt_pow_right (by decide) (by omega)
 have Hp2:Hid (∀ W,Below w.heap.size w W→Gives Tryz.prog 212 #[.string ⟨#[50]⟩,.int .i64 more] W (.tuple #[.string (dec (2 ^ more)),.int .i64 0])):=fun W hW=>wpow2 W more hm2 (HL.out.below hW)
 have Hp3:Hid (∀ W,Below w.heap.size w W→Gives Tryz.prog 212 #[.string ⟨#[50]⟩,.int .i64 (more - p.log2:Nat)] W (.tuple #[.string (dec (2 ^ (more - p.log2))),.int .i64 0])):=fun W hW=>wpow2 W (more - p.log2) (by omega) (HL.out.below hW)
 have H0:Hid (digs p more 0=some (p * 2 ^ (more - p.log2),p * 2 ^ (more - p.log2),p.log2)):=rfl
 have Hof1:Hid (∀ W,Below w.heap.size w W→Gives Tryz.prog 85 #[.int .i64 p] W (.string (dec p))):=fun W hW=>by
  have:=ofz_any W p (by omega) (by omega) (HL.out.below hW)
  rw [itx_nat] at this; exact this
 have Hof2:Hid (∀ W,Below w.heap.size w W→Gives Tryz.prog 85 #[.int .i64 p.log2] W (.string (dec p.log2))):=fun W hW=>by
  have:=ofz_any W p.log2 (by omega) (by omega) (HL.out.below hW)
  rw [itx_nat] at this; exact this
 have Had1:Hid (∀ W,Below w.heap.size w W→Gives Tryz.prog 159 #[.string (dec (2 ^ more)),.string (dec (2 ^ more))] W (.string (dec (2 * 2 ^ more)))):=fun W hW=>by
  have:=addD W (2 ^ more) (2 ^ more) K (by have:=HK.out; omega) Hu.out Hu.out (HL.out.below hW)
  rw [Huu.out] at this; exact this
 have Hmu1:Hid (∀ W,Below w.heap.size w W→Gives Tryz.prog 134 #[.string (dec p),.string (dec (2 ^ (more - p.log2)))] W (.string (dec (p * 2 ^ (more - p.log2))))):=fun W hW =>
  mulD W p (2 ^ (more - p.log2)) (K + K) (by have:=HK.out; omega) (Nat.lt_of_lt_of_le (show p < 2 ^ 7 by omega) (Nat.pow_le_pow_right (by decide) (by have:=HK.out; omega))) (Nat.pow_lt_pow_right (by decide) (by omega)) (HL.out.below hW)
 have B0:=hd_ (Below.refl w.heap.size w)
 have hnn:(n:Int)≤4000:=by omega
 rw [show ((more - p.log2:Nat):Int)=(more:Int) - (p.log2:Int) by omega] at Hp3
 clear hp hp2 hK hw3
 have Hd1:=hd_ dec_one
 have Hd2:=hd_ dec_two
 generalize hlp:p.log2=lp at *
 clear hlp
 generalize 2 ^ more=unit at *
 generalize hvv:digitsV p n more=vv at *
 have Hvv:=hd_ hvv
 clear hvv
 go_enter Tryz.func213,Tryz.ntmps213
 go_wp2_with fail
 refine cm_ hln.out ?_
 rintro e w1 ⟨rfl,rfl⟩
 clear hln
 go_wp2_with fail
 refine cm_ (Hp2.out _ B0.out) ?_
 rintro e w2 ⟨rfl,hb⟩
 have B2:=hd_ (B0.out.trans (hb.mono B0.out.size))
 clear hb B0
 go_wp2_with fail
 refine cm_ (Had1.out _ B2.out) ?_
 rintro e w3 ⟨rfl,hb⟩
 have B3:=hd_ (B2.out.trans (hb.mono B2.out.size))
 clear hb B2
 go_wp2_with fail
 refine cm_ (Hp3.out _ B3.out) ?_
 rintro e w4 ⟨rfl,hb⟩
 have B4:=hd_ (B3.out.trans (hb.mono B3.out.size))
 clear hb B3
 go_wp2_with fail
 refine cm_ (Hof1.out _ B4.out) ?_
 rintro e w5 ⟨rfl,hb⟩
 have B5:=hd_ (B4.out.trans (hb.mono B4.out.size))
 clear hb B4
 go_wp2_with fail
 refine cm_ (Hmu1.out _ B5.out) ?_
 rintro e w6 ⟨rfl,hb⟩
 have B6:=hd_ (B5.out.trans (hb.mono B5.out.size))
 clear hb B5
 go_wp2_with fail
 refine cm_ (Hof2.out _ B6.out) ?_
 rintro e w7 ⟨rfl,hb⟩
 have B7:=hd_ (B6.out.trans (hb.mono B6.out.size))
 clear hb B6
 go_wp2_with fail
 clear Hp2 Had1 Hp3 Hof1 Hmu1 Hof2
 generalize p * 2 ^ (more - lp)=st at *
 go_loopw [14,15,16,50] (fun a b c i wr=>∃ (j lo hi o:Nat),j≤n∧Hid (digs p more j=some (lo,hi,o))∧a = .string (dec lo)∧b = .string (dec hi)∧c = .string (dec o)∧i = .int .i64 j∧Hid (Below w1.heap.size w1 wr)) (fun _ _ _ i _=>n - (intOf i).toNat)
 case atStart=>exact ⟨0,_,_,_,by omega,H0,rfl,rfl,rfl,rfl,B7⟩
 case round =>
  clear B7 H0
  obtain ⟨j,lo,hi,o,hj,Hd,rfl,rfl,rfl,rfl,B1⟩:=hrel
  by_cases hlt:j < n
  ·have hlt':(j:Int) < n:=by omega
   obtain ⟨f1,f2,f3⟩:=Hdb.out j _ _ _ Hd.out
   have g1:lo < 2 ^ K:=Nat.lt_trans f1 Hu2.out
   have g2:hi < 2 ^ K:=Nat.lt_trans f2 Hu2.out
   have g3:o < 2 ^ K:=Nat.lt_of_lt_of_le f3 (Nat.pow_le_pow_right (by decide) (by have:=Hn.out; have:=HK.out; omega))
   clear f1 f2 f3
   have k1:lo * lo < 2 ^ (K + K):=by rw [Nat.pow_add]; exact Nat.mul_lt_mul'' g1 g1
   have k2:hi * hi < 2 ^ (K + K):=by rw [Nat.pow_add]; exact Nat.mul_lt_mul'' g2 g2
   have k3:unit < 2 ^ (K + K):=Nat.lt_trans Hu.out (Nat.pow_lt_pow_right (by decide) (by have:=HK.out; omega))
   have k4:2 * unit < 2 ^ (K + K + 1):=Nat.lt_trans Hu2.out (Nat.pow_lt_pow_right (by decide) (by have:=HK.out; omega))
   have k5:lo * lo / unit < 2 ^ (K + K):=Nat.lt_of_le_of_lt (Nat.div_le_self _ _) k1
   have k6:hi * hi / unit < 2 ^ (K + K):=Nat.lt_of_le_of_lt (Nat.div_le_self _ _) k2
   have one:1 < 2 ^ (K + K):=Nat.one_lt_two_pow (by have:=HK.out; omega)
   have k7:hi * hi / unit + 1 < 2 ^ (K + K + 1):=by rw [Nat.pow_succ 2 (K + K)]; omega
   have k8:lo * lo / unit < 2 ^ (K + K + 1):=Nat.lt_trans k5 (Nat.pow_lt_pow_right (by decide) (by have:=HK.out; omega))
   have k9:(hi * hi / unit + 1) / 2 < 2 ^ (K + K + 1):=Nat.lt_of_le_of_lt (Nat.div_le_self _ _) k7
   have one1:1 < 2 ^ (K + K + 1):=Nat.one_lt_two_pow (by have:=HK.out; omega)
   have two1:2 < 2 ^ (K + K + 1):=by
    have:2 ^ 2≤2 ^ (K + K + 1):=Nat.pow_le_pow_right (by decide) (by have:=HK.out; omega)
    omega
   have g3':o < 2 ^ (K + K):=Nat.lt_trans g3 (Nat.pow_lt_pow_right (by decide) (by have:=HK.out; omega))
   have k10:o + o < 2 ^ (K + K + 1):=by rw [Nat.pow_succ 2 (K + K)]; omega
   have BL:=fun W (hW:Below wr.heap.size wr W)=>HL.out.below (B1.out.trans (hW.mono B1.out.size))
   have M1:Hid (∀ W,Below wr.heap.size wr W→Gives Tryz.prog 134 #[.string (dec lo),.string (dec lo)] W (.string (dec (lo * lo)))):=fun W hW=>mulD W lo lo K (by have:=HK.out; omega) g1 g1 (BL W hW)
   have M2:Hid (∀ W,Below wr.heap.size wr W→Gives Tryz.prog 134 #[.string (dec hi),.string (dec hi)] W (.string (dec (hi * hi)))):=fun W hW=>mulD W hi hi K (by have:=HK.out; omega) g2 g2 (BL W hW)
   have D1:Hid (∀ W,Below wr.heap.size wr W→Gives Tryz.prog 133 #[.string (dec (lo * lo)),.string (dec unit)] W (.tuple #[.string (dec (lo * lo / unit)),.string (dec (lo * lo % unit)),.int .i64 0])):=fun W hW=>divD W _ unit (K + K) (by have:=HK.out; omega) k1 k3 Hu0.out (BL W hW)
   have D2:Hid (∀ W,Below wr.heap.size wr W→Gives Tryz.prog 133 #[.string (dec (hi * hi)),.string (dec unit)] W (.tuple #[.string (dec (hi * hi / unit)),.string (dec (hi * hi % unit)),.int .i64 0])):=fun W hW=>divD W _ unit (K + K) (by have:=HK.out; omega) k2 k3 Hu0.out (BL W hW)
   have A1:Hid (∀ W,Below wr.heap.size wr W→Gives Tryz.prog 159 #[.string (dec (hi * hi / unit)),.string ⟨#[49]⟩] W (.string (dec (hi * hi / unit + 1)))):=fun W hW=>by
    have:=addD W _ 1 (K + K) (by have:=HK.out; omega) k6 one (BL W hW)
    rw [Hd1.out] at this; exact this
   have A2:Hid (∀ W,Below wr.heap.size wr W→Gives Tryz.prog 159 #[.string (dec o),.string (dec o)] W (.string (dec (o + o)))):=fun W hW=>addD W o o K (by have:=HK.out; omega) g3 g3 (BL W hW)
   have A3:Hid (∀ W,Below wr.heap.size wr W→Gives Tryz.prog 159 #[.string (dec (o + o)),.string ⟨#[49]⟩] W (.string (dec (o + o + 1)))):=fun W hW=>by
    have:=addD W _ 1 (K + K + 1) (by have:=HK.out; omega) k10 one1 (BL W hW)
    rw [Hd1.out] at this; exact this
   have D3:Hid (∀ W,Below wr.heap.size wr W→Gives Tryz.prog 133 #[.string (dec (lo * lo / unit)),.string ⟨#[50]⟩] W (.tuple #[.string (dec (lo * lo / unit / 2)),.string (dec (lo * lo / unit % 2)),.int .i64 0])):=fun W hW=>by
    have:=divD W _ 2 (K + K + 1) (by have:=HK.out; omega) k8 two1 (by decide) (BL W hW)
    rw [Hd2.out] at this; exact this
   have D4:Hid (∀ W,Below wr.heap.size wr W→Gives Tryz.prog 133 #[.string (dec (hi * hi / unit + 1)),.string ⟨#[50]⟩] W (.tuple #[.string (dec ((hi * hi / unit + 1) / 2)),.string (dec ((hi * hi / unit + 1) % 2)),.int .i64 0])):=fun W hW=>by
    have:=divD W _ 2 (K + K + 1) (by have:=HK.out; omega) k7 two1 (by decide) (BL W hW)
    rw [Hd2.out] at this; exact this
   have A4:Hid (∀ W,Below wr.heap.size wr W→Gives Tryz.prog 159 #[.string (dec ((hi * hi / unit + 1) / 2)),.string ⟨#[49]⟩] W (.string (dec ((hi * hi / unit + 1) / 2 + 1)))):=fun W hW=>by
    have:=addD W _ 1 (K + K + 1) (by have:=HK.out; omega) k9 one1 (BL W hW)
    rw [Hd1.out] at this; exact this
   obtain ⟨c1,hc1,hc1',C1⟩:=compD wr (lo * lo / unit) (2 * unit) (K + K + 1) (by have:=HK.out; omega) k8 k4
   obtain ⟨c2,hc2,hc2',C2⟩:=compD wr (hi * hi / unit + 1) (2 * unit) (K + K + 1) (by have:=HK.out; omega) k7 k4
   have HC1:=hd_ C1
   have HC2:=hd_ C2
   have Hc1:=hd_ hc1'
   have Hc2:=hd_ hc2'
   have Hst:=hd_ (Hnext.out j _ Hd.out)
   simp only [digStep] at Hst
   have Hoo:Hid (2 * o=o + o):=Nat.two_mul o
   rw [Hoo.out] at Hst
   clear C1 C2 hc1' hc2' BL k1 k2 k3 k4 k5 k6 k7 k8 k9 k10 one one1 two1 g1 g2 g3 g3' Hoo
   generalize lo * lo / unit=X1 at *
   generalize hi * hi / unit=X2 at *
   generalize lo * lo % unit=r1 at *
   generalize hi * hi % unit=r2 at *
   generalize lo * lo=q1 at *
   generalize hi * hi=q2 at *
   generalize X1 % 2=r3 at *
   generalize (X2 + 1) % 2=r4 at *
   obtain ⟨Y1,hY1⟩:∃ y,X1 / 2=y:=⟨_,rfl⟩
   obtain ⟨Y2,hY2⟩:∃ y,(X2 + 1) / 2 + 1=y:=⟨_,rfl⟩
   obtain ⟨Y3,hY3⟩:∃ y,X2 + 1=y:=⟨_,rfl⟩
   rw [hY1] at D3 Hst
   rw [hY2] at A4 Hst
   rw [hY3] at D4 A1 HC2 Hst Hc2 A4
   clear hY1 hY2 hY3
   generalize Y3 / 2=Y4 at *
   generalize dec lo=slo at *
   generalize dec hi=shi at *
   generalize dec o=so at *
   generalize o + o=oo at *
   have P0:=hd_ (Below.refl wr.heap.size wr)
   clear Hnext Hdb
   by_cases h1:0≤c1
   ·have Hst1:Hid (digs p more (j + 1)=some (Y1,Y2,oo + 1)):=by
     show _=_
     rw [Hst.out,if_pos (Hc1.out.1 h1)]
    clear Hst Hc1 Hc2 HC2
    go_wp2_with fail
    refine cm_ (M1.out _ P0.out) ?_
    rintro e w1 ⟨rfl,hb⟩
    have P1:=hd_ (P0.out.trans (hb.mono P0.out.size))
    clear hb P0 M1
    go_wp2_with fail
    refine cm_ (D1.out _ P1.out) ?_
    rintro e w2 ⟨rfl,hb⟩
    have P2:=hd_ (P1.out.trans (hb.mono P1.out.size))
    clear hb P1 D1
    go_wp2_with fail
    refine cm_ (M2.out _ P2.out) ?_
    rintro e w3 ⟨rfl,hb⟩
    have P3:=hd_ (P2.out.trans (hb.mono P2.out.size))
    clear hb P2 M2
    go_wp2_with fail
    refine cm_ (D2.out _ P3.out) ?_
    rintro e w4 ⟨rfl,hb⟩
    have P4:=hd_ (P3.out.trans (hb.mono P3.out.size))
    clear hb P3 D2
    go_wp2_with fail
    refine cm_ (A1.out _ P4.out) ?_
    rintro e w5 ⟨rfl,hb⟩
    have P5:=hd_ (P4.out.trans (hb.mono P4.out.size))
    clear hb P4 A1
    go_wp2_with fail
    refine cm_ (A2.out _ P5.out) ?_
    rintro e w6 ⟨rfl,hb⟩
    have P6:=hd_ (P5.out.trans (hb.mono P5.out.size))
    clear hb P5 A2
    go_wp2_with fail
    refine cm_ (HC1.out _) ?_
    rintro e w7 ⟨rfl,hb⟩
    have P7:=hd_ (P6.out.trans (hb.mono P6.out.size))
    clear hb P6 HC1
    go_wp2_with fail
    refine cm_ (A3.out _ P7.out) ?_
    rintro e w8 ⟨rfl,hb⟩
    have P8:=hd_ (P7.out.trans (hb.mono P7.out.size))
    clear hb P7 A3
    go_wp2_with fail
    refine cm_ (D3.out _ P8.out) ?_
    rintro e w9 ⟨rfl,hb⟩
    have P9:=hd_ (P8.out.trans (hb.mono P8.out.size))
    clear hb P8 D3
    go_wp2_with fail
    refine cm_ (D4.out _ P9.out) ?_
    rintro e w10 ⟨rfl,hb⟩
    have P10:=hd_ (P9.out.trans (hb.mono P9.out.size))
    clear hb P9 D4
    go_wp2_with fail
    refine cm_ (A4.out _ P10.out) ?_
    rintro e w11 ⟨rfl,hb⟩
    have P11:=hd_ (P10.out.trans (hb.mono P10.out.size))
    clear hb P10 A4
    go_wp2_with fail
    have B9:=hd_ (B1.out.trans (P11.out.mono B1.out.size))
    go_roundw
    case rel=>exact ⟨j + 1,Y1,Y2,oo + 1,by omega,Hst1,rfl,rfl,rfl,by go_num,B9⟩
    case measure=>simp [intOf]; omega
   ·have h1':c1 < 0:=by omega
    by_cases h2:0≤c2
    ·have Hst1:Hid (digs p more (j + 1)=none):=by
      show _=_
      rw [Hst.out,if_neg (fun h=>h1 (Hc1.out.2 h)),if_pos (Hc2.out.1 h2)]
     have Hv1:Hid (vv = .tuple #[.string ⟨#[]⟩,.bool false]):=by
      show _=_
      rw [← Hvv.out]
      unfold digitsV
      rw [digs_none Hst1.out (by omega)]
     clear Hst Hc1 Hc2 A3 D3 D4 A4
     go_wp2_with fail
     refine cm_ (M1.out _ P0.out) ?_
     rintro e w1 ⟨rfl,hb⟩
     have P1:=hd_ (P0.out.trans (hb.mono P0.out.size))
     clear hb P0 M1
     go_wp2_with fail
     refine cm_ (D1.out _ P1.out) ?_
     rintro e w2 ⟨rfl,hb⟩
     have P2:=hd_ (P1.out.trans (hb.mono P1.out.size))
     clear hb P1 D1
     go_wp2_with fail
     refine cm_ (M2.out _ P2.out) ?_
     rintro e w3 ⟨rfl,hb⟩
     have P3:=hd_ (P2.out.trans (hb.mono P2.out.size))
     clear hb P2 M2
     go_wp2_with fail
     refine cm_ (D2.out _ P3.out) ?_
     rintro e w4 ⟨rfl,hb⟩
     have P4:=hd_ (P3.out.trans (hb.mono P3.out.size))
     clear hb P3 D2
     go_wp2_with fail
     refine cm_ (A1.out _ P4.out) ?_
     rintro e w5 ⟨rfl,hb⟩
     have P5:=hd_ (P4.out.trans (hb.mono P4.out.size))
     clear hb P4 A1
     go_wp2_with fail
     refine cm_ (A2.out _ P5.out) ?_
     rintro e w6 ⟨rfl,hb⟩
     have P6:=hd_ (P5.out.trans (hb.mono P5.out.size))
     clear hb P5 A2
     go_wp2_with fail
     refine cm_ (HC1.out _) ?_
     rintro e w7 ⟨rfl,hb⟩
     have P7:=hd_ (P6.out.trans (hb.mono P6.out.size))
     clear hb P6 HC1
     go_wp2_with fail
     refine cm_ (HC2.out _) ?_
     rintro e w8 ⟨rfl,hb⟩
     have P8:=hd_ (P7.out.trans (hb.mono P7.out.size))
     clear hb P7 HC2
     go_wp2_with fail
     have B9:=hd_ (B1.out.trans (P8.out.mono B1.out.size))
     go_ret2
     exact ⟨by rw [Hv1.out]; rfl,B9.out⟩
    ·have h2':c2 < 0:=by omega
     have Hst1:Hid (digs p more (j + 1)=some (X1,Y3,oo)):=by
      show _=_
      rw [Hst.out,if_neg (fun h=>h1 (Hc1.out.2 h)),if_neg (fun h=>h2 (Hc2.out.2 h))]
     clear Hst Hc1 Hc2 A3 D3 D4 A4
     go_wp2_with fail
     refine cm_ (M1.out _ P0.out) ?_
     rintro e w1 ⟨rfl,hb⟩
     have P1:=hd_ (P0.out.trans (hb.mono P0.out.size))
     clear hb P0 M1
     go_wp2_with fail
     refine cm_ (D1.out _ P1.out) ?_
     rintro e w2 ⟨rfl,hb⟩
     have P2:=hd_ (P1.out.trans (hb.mono P1.out.size))
     clear hb P1 D1
     go_wp2_with fail
     refine cm_ (M2.out _ P2.out) ?_
     rintro e w3 ⟨rfl,hb⟩
     have P3:=hd_ (P2.out.trans (hb.mono P2.out.size))
     clear hb P2 M2
     go_wp2_with fail
     refine cm_ (D2.out _ P3.out) ?_
     rintro e w4 ⟨rfl,hb⟩
     have P4:=hd_ (P3.out.trans (hb.mono P3.out.size))
     clear hb P3 D2
     go_wp2_with fail
     refine cm_ (A1.out _ P4.out) ?_
     rintro e w5 ⟨rfl,hb⟩
     have P5:=hd_ (P4.out.trans (hb.mono P4.out.size))
     clear hb P4 A1
     go_wp2_with fail
     refine cm_ (A2.out _ P5.out) ?_
     rintro e w6 ⟨rfl,hb⟩
     have P6:=hd_ (P5.out.trans (hb.mono P5.out.size))
     clear hb P5 A2
     go_wp2_with fail
     refine cm_ (HC1.out _) ?_
     rintro e w7 ⟨rfl,hb⟩
     have P7:=hd_ (P6.out.trans (hb.mono P6.out.size))
     clear hb P6 HC1
     go_wp2_with fail
     refine cm_ (HC2.out _) ?_
     rintro e w8 ⟨rfl,hb⟩
     have P8:=hd_ (P7.out.trans (hb.mono P7.out.size))
     clear hb P7 HC2
     go_wp2_with fail
     have B9:=hd_ (B1.out.trans (P8.out.mono B1.out.size))
     go_roundw
     case rel=>exact ⟨j + 1,X1,Y3,oo,by omega,Hst1,rfl,rfl,rfl,by go_num,B9⟩
     case measure=>simp [intOf]; omega
  ·have hlt':¬ (j:Int) < n:=by omega
   have hjn:j=n:=by omega
   subst hjn
   have Hv1:Hid (vv = .tuple #[.string (dec o),.bool true]):=by
    show _=_
    rw [← Hvv.out]
    unfold digitsV
    rw [Hd.out]
   clear Hnext Hdb
   go_wp2_with fail
   go_ret2
   exact ⟨by rw [Hv1.out]; rfl,B1.out⟩
end Go.Proofs.YtkoicfghplmghaaGreatDoor

namespace Go.Proofs.YtkoicfghplmghaaGreatDoor
open Go.RowKit
theorem digs_ok_all {p n:Nat} (ho:p∈oddP) (hn:n≤1056):∀ more,1120≤more→(digs p more n).isSome=true:=by
 intro more hm
 exact digs_ok (p:=p) (n:=n) (more:=more) ho hn hm
theorem dec_lgN {p n:Nat} (ho:p∈oddP) (hn:n≤1056):∀ more s,64≤more→digs p more n=some s→dec (lgN p n)=dec s.2.2:=by
 intro more s hm h
 have h1:6≤more:=Nat.le_trans (by decide) hm
 have:=digs_lgN (p:=p) (n:=n) (more:=more) ho hn h1 h
 rw [this]
theorem log_any (w:World) (p n:Nat) (hp:p=2∨p∈oddP) (hn:n≤1056) (L:Laid w):Gives Tryz.prog 174 #[.int .i64 p,.int .i64 n] w (.string (dec (lgN p n))):=by
 unfold Gives
 by_cases h2:p=2
 ·subst h2
  have Hp:=hd_ (wpow2 w n (by omega) L)
  rw [show ((2:Nat):Int)=2 from rfl,lgN_two]
  clear L hp
  generalize dec (2 ^ n)=s at *
  go_enter Tryz.func174,Tryz.ntmps174
  go_wp2_with fail
  refine cm_ Hp.out ?_
  rintro e w1 ⟨rfl,hb⟩
  have B1:=hd_ hb
  clear hb Hp
  go_wp2_with fail
  go_ret
  exact ⟨rfl,B1.out⟩
 ·have ho:=hp.resolve_left h2
  have hodd:=oddP_odd ho
  have h2':((p:Int) == 2)=false:=by rw [beq_eq_false_iff_ne]; omega
  have HL:=hd_ L
  have Hdg:Hid (∀ (more:Nat) W,64≤more→more≤4000→Below w.heap.size w W→Gives Tryz.prog 213 #[.int .i64 p,.int .i64 n,.int .i64 more] W (digitsV p n more)):=fun more W h1 h2 hW =>
   sdigits_any W p n more (by omega) (by omega) (by omega) h1 h2 (HL.out.below hW)
  have Hok:Hid (∀ more:Nat,1120≤more→(digs p more n).isSome=true):=hd_ (digs_ok_all ho hn)
  have Hlg:Hid (∀ (more:Nat) s,64≤more→digs p more n=some s→dec (lgN p n)=dec s.2.2):=hd_ (dec_lgN ho hn)
  have hw1:IntKind.i64.wrap ((n:Int) + 64)=((n + 64:Nat):Int):=by rw [show (n:Int) + 64=((n + 64:Nat):Int) by omega]; exact iw_ _ (by omega)
  have B0:=hd_ (Below.refl w.heap.size w)
  clear L hp ho h2 hodd
  generalize dec (lgN p n)=vv at *
  go_enter Tryz.func174,Tryz.ntmps174
  go_wp2_with fail
  go_loopw [7] (fun a wr=>∃ (more:Nat),Hid (64≤more)∧more≤4000∧a = .int .i64 more∧Hid (Below w.heap.size w wr)) (fun a _=>4000 - (intOf a).toNat)
  case atStart=>exact ⟨n + 64,by show _≤_; omega,by omega,rfl,B0⟩
  case round =>
   clear B0
   obtain ⟨more,H64,h4000,rfl,B1⟩:=hrel
   have Hd:=hd_ (Hdg.out more wr H64.out h4000 B1.out)
   cases hd:digs p more n with
   | some s =>
    have Hs:Hid (digitsV p n more = .tuple #[.string (dec s.2.2),.bool true]):=by show _=_; unfold digitsV; rw [hd]
    have Hv:Hid (vv=dec s.2.2):=Hlg.out more s H64.out hd
    rw [Hs.out] at Hd
    clear hd Hs Hlg Hok Hdg
    go_wp2_with fail
    refine cm_ Hd.out ?_
    rintro e w1 ⟨rfl,hb⟩
    have B2:=hd_ (B1.out.trans (hb.mono B1.out.size))
    clear hb Hd
    go_wp2_with fail
    go_ret
    exact ⟨by rw [Hv.out]; rfl,B2.out⟩
   | none =>
    have Hs:Hid (digitsV p n more = .tuple #[.string ⟨#[]⟩,.bool false]):=by show _=_; unfold digitsV; rw [hd]
    rw [Hs.out] at Hd
    have hlt:more < 1120:=by
     refine Nat.lt_of_not_le fun h=>?_
     have:=Hok.out more h
     rw [hd] at this
     cases this
    have hw2:IntKind.i64.wrap ((more:Int) * 2)=((more * 2:Nat):Int):=by rw [show (more:Int) * 2=((more * 2:Nat):Int) by omega]; exact iw_ _ (by omega)
    clear hd Hs Hlg Hok Hdg
    go_wp2_with fail
    refine cm_ Hd.out ?_
    rintro e w1 ⟨rfl,hb⟩
    have B2:=hd_ (B1.out.trans (hb.mono B1.out.size))
    clear hb Hd
    go_wp2_with fail
    go_roundw
    case rel=>exact ⟨more * 2,by have:=H64.out; show _≤_; omega,by omega,rfl,B2⟩
    case measure=>have:=H64.out; simp [intOf]; omega
end Go.Proofs.YtkoicfghplmghaaGreatDoor

namespace Go.Proofs.YtkoicfghplmghaaGreatDoor.LN
def sg (x:Rat):Int:=if 1 < x then 1 else if x < 1 then -1 else 0
theorem sg_one:sg 1=0:=by decide
theorem sg_pos {x:Rat}:sg x=1↔1 < x:=by
 unfold sg
 by_cases h:1 < x
 ·simp [h]
 ·rw [if_neg h]; split <;> simp [h]
theorem sg_low {x:Rat}:sg x = -1↔x < 1:=by
 unfold sg
 by_cases h:1 < x
 ·rw [if_pos h]
  constructor
  ·intro h2; cases h2
  ·intro h2; exact absurd h2 (by grind)
 ·rw [if_neg h]; split <;> simp_all
theorem sg_ge {x:Rat}:0≤sg x↔1≤x:=by
 constructor
 ·intro h
  refine Rat.not_lt.1 fun h2=>?_
  rw [sg_low.2 h2] at h; omega
 ·intro h
  unfold sg
  split
  ·decide
  ·split
   ·rename_i h2; exact absurd h (Rat.not_le.2 h2)
   ·decide
theorem sg_le {x:Rat}:sg x≤0↔x≤1:=by
 constructor
 ·intro h
  refine Rat.not_lt.1 fun h2=>?_
  rw [sg_pos.2 h2] at h; omega
 ·intro h
  unfold sg
  split
  ·rename_i h2; exact absurd h (Rat.not_le.2 h2)
  ·split <;> decide
theorem sg_zero {x:Rat}:sg x=0↔x=1:=by
 constructor
 ·intro h
  exact Rat.le_antisymm (sg_le.1 (by omega)) (sg_ge.1 (by omega))
 ·rintro rfl; exact sg_one
theorem sg_cases (x:Rat):sg x=1∨sg x=0∨sg x = -1:=by
 unfold sg
 split
 ·exact .inl rfl
 ·split
  ·exact .inr (.inr rfl)
  ·exact .inr (.inl rfl)
theorem one_le_mul {x y:Rat} (hx:1≤x) (hy:1≤y):1≤x * y:=by
 have h:=Rat.mul_le_mul_of_nonneg_left hy (show 0≤x by grind)
 rw [Rat.mul_one] at h
 exact Rat.le_trans hx h
theorem one_lt_mul {x y:Rat} (hx:1 < x) (hy:1≤y):1 < x * y:=by
 have h:=Rat.mul_le_mul_of_nonneg_left hy (show 0≤x by grind)
 rw [Rat.mul_one] at h
 grind
theorem mul_le_one {x y:Rat} (h0:0 < x) (hx:x≤1) (hy:y≤1):x * y≤1:=by
 have h:=Rat.mul_le_mul_of_nonneg_left hy (show 0≤x by grind)
 rw [Rat.mul_one] at h
 grind
theorem mul_lt_one {x y:Rat} (h0:0 < x) (hx:x < 1) (hy:y≤1):x * y < 1:=by
 have h:=Rat.mul_le_mul_of_nonneg_left hy (show 0≤x by grind)
 rw [Rat.mul_one] at h
 grind
theorem pow_one_le {x:Rat} (hx:1≤x):∀ m:Nat,1≤x ^ m
 | 0=>by rw [Rat.pow_zero]; exact Rat.le_refl
 | m + 1=>by rw [Rat.pow_succ]; exact one_le_mul (pow_one_le hx m) hx
theorem pow_one_lt {x:Rat} (hx:1 < x) (m:Nat) (hm:0 < m):1 < x ^ m:=by
 obtain ⟨k,rfl⟩:=Nat.exists_eq_succ_of_ne_zero (by omega:m≠0)
 rw [Rat.pow_succ,Rat.mul_comm]
 exact one_lt_mul hx (pow_one_le (by grind) k)
theorem pow_le_one {x:Rat} (h0:0 < x) (hx:x≤1):∀ m:Nat,x ^ m≤1
 | 0=>by rw [Rat.pow_zero]; exact Rat.le_refl
 | m + 1=>by rw [Rat.pow_succ]; exact mul_le_one (Rat.pow_pos h0) (pow_le_one h0 hx m) hx
theorem pow_lt_one {x:Rat} (h0:0 < x) (hx:x < 1) (m:Nat) (hm:0 < m):x ^ m < 1:=by
 obtain ⟨k,rfl⟩:=Nat.exists_eq_succ_of_ne_zero (by omega:m≠0)
 rw [Rat.pow_succ,Rat.mul_comm]
 exact mul_lt_one h0 hx (pow_le_one h0 (by grind) k)
theorem sg_pow {x:Rat} (h0:0 < x) {m:Nat} (hm:0 < m):sg (x ^ m)=sg x:=by
 rcases sg_cases x with h | h | h
 ·rw [h]; exact sg_pos.2 (pow_one_lt (sg_pos.1 h) m hm)
 ·rw [h]
  rw [sg_zero.1 h]
  have:(1:Rat) ^ m=1:=by
   clear hm
   induction m with
   | zero=>rfl
   | succ m ih=>rw [Rat.pow_succ,ih,Rat.mul_one]
  rw [this]; exact sg_one
 ·rw [h]; exact sg_low.2 (pow_lt_one h0 (sg_low.1 h) m hm)
theorem sg_inv {x:Rat} (h0:0 < x):sg x⁻¹ = - sg x:=by
 have h1:=Rat.inv_pos.2 h0
 have e:=Rat.mul_inv_cancel x (by grind)
 rcases sg_cases x with h | h | h
 ·rw [h]
  have hx:=sg_pos.1 h
  refine sg_low.2 (Rat.not_le.1 fun h2=>?_)
  have:=one_lt_mul hx h2
  rw [e] at this
  exact Rat.lt_irrefl this
 ·rw [h,sg_zero.1 h,Rat.inv_eq_of_mul_eq_one (Rat.mul_one 1),sg_one]; rfl
 ·rw [h]
  have hx:=sg_low.1 h
  refine sg_pos.2 (Rat.not_le.1 fun h2=>?_)
  have:=mul_lt_one h0 hx h2
  rw [e] at this
  exact Rat.lt_irrefl this
theorem sg_mul_le {x y:Rat} (h0:0 < x) (hx:sg x≤0) (hy:sg y≤0):sg (x * y)≤0:=sg_le.2 (mul_le_one h0 (sg_le.1 hx) (sg_le.1 hy))
def vp:List Int→List Int→Rat
 | p :: ps,k :: ks=>(p:Rat) ^ k * vp ps ks
 | _,_=>1
theorem vp_pos:∀ (ps ks:List Int),(∀ p∈ps,0 < p)→0 < vp ps ks
 | [],_,_=>by simp only [vp]; decide
 | _ :: _,[],_=>by simp only [vp]; decide
 | p :: ps,k :: ks,h=>by
  simp only [vp]
  exact Rat.mul_pos (Rat.zpow_pos (by have:=h p List.mem_cons_self; exact Rat.intCast_pos.2 this)) (vp_pos ps ks fun q hq=>h q (List.mem_cons_of_mem _ hq))
theorem vp_add:∀ (ps ks ms:List Int),(∀ p∈ps,0 < p)→ks.length=ms.length→vp ps (List.zipWith (· + ·) ks ms)=vp ps ks * vp ps ms
 | [],_,_,_,_=>by simp only [vp]; rw [Rat.mul_one]
 | _ :: _,[],[],_,_=>by simp [vp]
 | p :: ps,k :: ks,m :: ms,h,hl=>by
  have ih:=vp_add ps ks ms (fun q hq=>h q (List.mem_cons_of_mem _ hq)) (by simpa using hl)
  have hp:=h p List.mem_cons_self
  have hp0:(p:Rat)≠0:=by have:=Rat.intCast_pos.2 hp; grind
  simp only [List.zipWith_cons_cons,vp]
  rw [ih,Rat.zpow_add hp0]
  grind
theorem vp_zero:∀ (ps ks:List Int),(∀ k∈ks,k=0)→vp ps ks=1
 | [],_,_=>rfl
 | _ :: _,[],_=>rfl
 | p :: ps,k :: ks,h=>by
  simp only [vp]
  rw [h k List.mem_cons_self,vp_zero ps ks fun x hx=>h x (List.mem_cons_of_mem _ hx),Rat.zpow_zero,Rat.mul_one]
theorem vp_neg (ps ks:List Int) (h:∀ p∈ps,0 < p):vp ps (ks.map fun k => -k)=(vp ps ks)⁻¹:=by
 have e:=vp_add ps ks (ks.map fun k => -k) h (by simp)
 have z:vp ps (List.zipWith (· + ·) ks (ks.map fun k => -k))=1:=by
  refine vp_zero _ _ fun k hk=>?_
  rw [List.zipWith_map_right] at hk
  rw [List.mem_iff_getElem] at hk
  obtain ⟨i,hi,rfl⟩:=hk
  simp
  omega
 rw [z] at e
 exact (Rat.inv_eq_of_mul_eq_one e.symm).symm
theorem vp_nsmul (ps ks:List Int) (h:∀ p∈ps,0 < p):∀ m:Nat,vp ps (ks.map fun k=>(m:Int) * k)=vp ps ks ^ m
 | 0=>by
  rw [Rat.pow_zero]
  refine vp_zero _ _ fun k hk=>?_
  obtain ⟨x,_,rfl⟩:=List.mem_map.1 hk
  simp
 | m + 1=>by
  have ih:=vp_nsmul ps ks h m
  have e:=vp_add ps (ks.map fun k=>(m:Int) * k) ks h (by simp)
  rw [Rat.pow_succ,← ih,← e]
  congr 1
  rw [List.zipWith_map_left]
  refine List.ext_getElem (by simp) fun i h1 h2=>?_
  simp
  rw [Int.add_mul,Int.one_mul]
def vt:List (Int×Int)→Rat
 | []=>1
 | x :: l=>(x.1:Rat) ^ x.2 * vt l
theorem natCast_pow (a n:Nat):((a ^ n:Nat):Rat)=(a:Rat) ^ n:=by
 induction n with
 | zero=>rw [Nat.pow_zero,Rat.pow_zero]; rfl
 | succ n ih=>rw [Nat.pow_succ,Rat.pow_succ,Rat.natCast_mul,ih]
theorem vt_up:∀ l:List (Int×Int),(∀ x∈l,0 < x.1)→((upT l:Nat):Rat)=vt l * ((upT (negT l):Nat):Rat)
 | [],_=>by simp [upT,negT,vt]
 | x :: l,h=>by
  have ih:=vt_up l fun y hy=>h y (List.mem_cons_of_mem _ hy)
  have hx:=h x List.mem_cons_self
  have e:negT (x :: l)=(x.1,-x.2) :: negT l:=rfl
  rw [e]
  simp only [upT,vt]
  rw [Rat.natCast_mul,Rat.natCast_mul,ih,natCast_pow,natCast_pow]
  have hp:((x.1.toNat:Nat):Rat)=(x.1:Rat):=by
   rw [← Rat.intCast_natCast,Int.toNat_of_nonneg (by omega)]
  rw [hp]
  have hp0:(x.1:Rat)≠0:=by have:=Rat.intCast_pos.2 hx; grind
  have key:(x.1:Rat) ^ x.2.toNat=(x.1:Rat) ^ x.2 * (x.1:Rat) ^ (-x.2).toNat:=by
   rw [← Rat.zpow_natCast,← Rat.zpow_natCast,← Rat.zpow_add hp0]
   congr 1
   omega
  rw [key]
  grind
theorem up_pos':∀ l:List (Int×Int),(∀ x∈l,0 < x.1)→0 < upT l
 | [],_=>by simp [upT]
 | x :: l,h=>by
  have hx:=h x List.mem_cons_self
  exact Nat.mul_pos (Nat.pow_pos (by omega)) (up_pos' l fun y hy=>h y (List.mem_cons_of_mem _ hy))
theorem signT_sg (l:List (Int×Int)) (h:∀ x∈l,0 < x.1):signT l=sg (vt l):=by
 have e:=vt_up l h
 have hd:(0:Rat) < ((upT (negT l):Nat):Rat):=by
  have:=up_pos' (negT l) (by
   intro x hx
   obtain ⟨y,hy,rfl⟩:=List.mem_map.1 hx
   exact h y hy)
  exact Rat.natCast_pos.2 this
 have c1:upT (negT l) < upT l↔1 < vt l:=by
  rw [← Rat.natCast_lt_natCast,e]
  constructor
  ·intro h1
   refine Rat.lt_of_mul_lt_mul_right (c:=((upT (negT l):Nat):Rat)) ?_ (Rat.le_of_lt hd)
   rw [Rat.one_mul]; exact h1
  ·intro h1
   have:=Rat.mul_lt_mul_of_pos_right h1 hd
   rw [Rat.one_mul] at this
   exact this
 have c2:upT l < upT (negT l)↔vt l < 1:=by
  rw [← Rat.natCast_lt_natCast,e]
  constructor
  ·intro h1
   refine Rat.lt_of_mul_lt_mul_right (c:=((upT (negT l):Nat):Rat)) ?_ (Rat.le_of_lt hd)
   rw [Rat.one_mul]; exact h1
  ·intro h1
   have:=Rat.mul_lt_mul_of_pos_right h1 hd
   rw [Rat.one_mul] at this
   exact this
 unfold signT sg
 simp only [c1,c2]
theorem mkRat_den' (n:Int) (d:Nat) (h:d≠0):(mkRat n d).den=d / Nat.gcd n.natAbs d:=by
 rw [← Rat.normalize_eq_mkRat h,Rat.den_normalize]
theorem mul_den' (q:Rat):q * (q.den:Rat)=(q.num:Rat):=by
 have h:mkRat q.num q.den=(q.num:Rat) / ((q.den:Nat):Rat):=Rat.mkRat_eq_div _ _
 rw [Rat.mkRat_self] at h
 have h2:((q.den:Nat):Rat)≠0:=by have:=Rat.natCast_pos.2 q.den_pos; grind
 have h3:=Rat.div_mul_cancel (a:=(q.num:Rat)) h2
 rw [← h] at h3
 exact h3
def ex (D:Nat) (q:Rat):Int:=q.num * ((D / q.den:Nat):Int)
theorem ex_eq {D:Nat} {q:Rat} (h:q.den ∣ D):(ex D q:Rat)=q * (D:Rat):=by
 obtain ⟨m,rfl⟩:=h
 unfold ex
 rw [Nat.mul_div_cancel_left _ q.den_pos,Rat.intCast_mul,Rat.intCast_natCast,Rat.natCast_mul]
 have h1:=mul_den' q
 grind
theorem ex_add {D:Nat} {a b:Rat} (ha:a.den ∣ D) (hb:b.den ∣ D) (hc:(a + b).den ∣ D):ex D (a + b)=ex D a + ex D b:=by
 rw [← Rat.intCast_inj,Rat.intCast_add,ex_eq ha,ex_eq hb,ex_eq hc]
 grind
theorem ex_neg {D:Nat} {a:Rat}:ex D (-a) = - ex D a:=by
 unfold ex
 rw [Rat.neg_num,Rat.neg_den]
 grind
theorem ex_mul {D m:Nat} {a:Rat} (ha:a.den ∣ D):ex (m * D) a=(m:Int) * ex D a:=by
 have:a.den ∣ m * D:=Nat.dvd_trans ha (Nat.dvd_mul_left ..)
 rw [← Rat.intCast_inj,Rat.intCast_mul,ex_eq ha,ex_eq this,Rat.natCast_mul,Rat.intCast_natCast]
 grind
theorem ex_zero {D:Nat} (a:Rat) (h:a.num=0):ex D a=0:=by unfold ex; rw [h]; simp
theorem vt_tlist (D:Nat):∀ (ps:List Int) (l:List Rat),vt (tlist D ps l)=vp ps (l.map (ex D))
 | [],_=>rfl
 | _ :: _,[]=>rfl
 | p :: ps,q :: l=>by
  have ih:=vt_tlist D ps l
  unfold tlist at ih ⊢
  rw [List.zip_cons_cons,List.filterMap_cons]
  by_cases h:q.num=0
  ·simp only [h,if_true,List.map_cons,vp]
   rw [ih,ex_zero q h,Rat.zpow_zero,Rat.one_mul]
  ·simp only [h,if_false,List.map_cons,vp,vt]
   rw [ih]; rfl
theorem tden_go (l:List Rat):∀ d:Nat,d ∣ l.foldl (fun d q=>Nat.lcm d q.den) d∧∀ q∈l,q.den ∣ l.foldl (fun d q=>Nat.lcm d q.den) d:=by
 induction l with
 | nil=>intro d; exact ⟨Nat.dvd_refl _,by simp⟩
 | cons a l ih =>
  intro d
  obtain ⟨h1,h2⟩:=ih (Nat.lcm d a.den)
  refine ⟨Nat.dvd_trans (Nat.dvd_lcm_left ..) h1,fun q hq=>?_⟩
  rcases List.mem_cons.1 hq with rfl | hq
  ·exact Nat.dvd_trans (Nat.dvd_lcm_right ..) h1
  ·exact h2 q hq
theorem tden_dvd {l:List Rat} {q:Rat} (h:q∈l):q.den ∣ tden l:=(tden_go l 1).2 q h
theorem tden_least (l:List Rat):∀ (D d:Nat),d ∣ D→(∀ q∈l,q.den ∣ D)→l.foldl (fun d q=>Nat.lcm d q.den) d ∣ D:=by
 induction l with
 | nil=>intro D d h _; exact h
 | cons a l ih =>
  intro D d h h2
  exact ih D _ (Nat.lcm_dvd h (h2 a List.mem_cons_self)) fun q hq=>h2 q (List.mem_cons_of_mem _ hq)
theorem tden_min {l:List Rat} {D:Nat} (h:∀ q∈l,q.den ∣ D):tden l ∣ D:=tden_least l D 1 (Nat.one_dvd _) h
theorem tden_pos' (l:List Rat):0 < tden l:=by
 have:∀ (l:List Rat) (d:Nat),0 < d→0 < l.foldl (fun d q=>Nat.lcm d q.den) d:=by
  intro l
  induction l with
  | nil=>intro d h; exact h
  | cons a l ih=>intro d h; exact ih _ (Nat.lcm_pos h a.den_pos)
 exact this l 1 Nat.one_pos
def sz (ps:List Int) (l:List Rat):Int:=signT (tlist (tden l) ps l)
theorem tlist_pos {D:Nat} {ps:List Int} {l:List Rat} (hp:∀ p∈ps,0 < p):∀ x∈tlist D ps l,0 < x.1:=by
 intro x hx
 unfold tlist at hx
 obtain ⟨y,hy,he⟩:=List.mem_filterMap.1 hx
 have h1:=(List.of_mem_zip hy).1
 split at he
 ·cases he
 ·cases he; exact hp _ h1
theorem sz_eq {ps:List Int} {l:List Rat} {D:Nat} (hp:∀ p∈ps,0 < p) (hD:0 < D) (h:∀ q∈l,q.den ∣ D):sz ps l=sg (vp ps (l.map (ex D))):=by
 unfold sz
 rw [signT_sg _ (tlist_pos hp),vt_tlist]
 obtain ⟨m,rfl⟩:=tden_min h
 have hm:0 < m:=Nat.pos_of_mul_pos_left hD
 have e:l.map (ex (tden l * m))=(l.map (ex (tden l))).map fun k=>(m:Int) * k:=by
  rw [List.map_map]
  refine List.map_congr_left fun q hq=>?_
  rw [Nat.mul_comm,ex_mul (tden_dvd hq)]; rfl
 rw [e,vp_nsmul _ _ hp,sg_pow (vp_pos _ _ hp) hm]
theorem sz_neg {ps:List Int} {l:List Rat} (hp:∀ p∈ps,0 < p):sz ps (l.map fun q => -q) = - sz ps l:=by
 have h1:∀ q∈l.map (fun q:Rat => -q),q.den ∣ tden l:=by
  intro q hq
  obtain ⟨x,hx,rfl⟩:=List.mem_map.1 hq
  rw [Rat.neg_den]; exact tden_dvd hx
 rw [sz_eq hp (tden_pos' l) h1,sz_eq hp (tden_pos' l) fun q hq=>tden_dvd hq,← sg_inv (vp_pos _ _ hp),← vp_neg _ _ hp]
 congr 2
 rw [List.map_map,List.map_map]
 exact List.map_congr_left fun q _=>ex_neg
theorem sz_sum {ps:List Int} {a b c:List Rat} (hp:∀ p∈ps,0 < p) (hab:a.length=b.length) (hc:c=List.zipWith (· + ·) a b) :
  ∃ x y:Rat,0 < x∧0 < y∧sz ps a=sg x∧sz ps b=sg y∧sz ps c=sg (x * y):=by
 obtain ⟨D,hD⟩:∃ D,D=tden a * tden b * tden c:=⟨_,rfl⟩
 have ha:∀ q∈a,q.den ∣ D:=fun q hq=>Nat.dvd_trans (tden_dvd hq) (by rw [hD]; exact Nat.dvd_trans (Nat.dvd_mul_right _ _) (Nat.dvd_mul_right _ _))
 have hb:∀ q∈b,q.den ∣ D:=fun q hq=>Nat.dvd_trans (tden_dvd hq) (by rw [hD]; exact Nat.dvd_trans (Nat.dvd_mul_left _ _) (Nat.dvd_mul_right _ _))
 have hcc:∀ q∈c,q.den ∣ D:=fun q hq=>Nat.dvd_trans (tden_dvd hq) (by rw [hD]; exact Nat.dvd_mul_left _ _)
 have h0:0 < D:=by rw [hD]; exact Nat.mul_pos (Nat.mul_pos (tden_pos' _) (tden_pos' _)) (tden_pos' _)
 refine ⟨vp ps (a.map (ex D)),vp ps (b.map (ex D)),vp_pos _ _ hp,vp_pos _ _ hp,sz_eq hp h0 ha,sz_eq hp h0 hb,?_⟩
 rw [sz_eq hp h0 hcc,← vp_add _ _ _ hp (by simp [hab])]
 congr 2
 refine List.ext_getElem (by rw [hc]; simp) fun i h1 h2=>?_
 have i1:i < a.length:=by simp at h2; omega
 have i2:i < b.length:=by omega
 have i3:i < c.length:=by simpa using h1
 have e:c[i]=a[i] + b[i]:=by simp only [hc,List.getElem_zipWith]
 simp only [List.getElem_map,List.getElem_zipWith]
 have h3:=hcc c[i] (List.getElem_mem i3)
 rw [e] at h3 ⊢
 exact ex_add (ha _ (List.getElem_mem i1)) (hb _ (List.getElem_mem i2)) h3
theorem sz_add_le {ps:List Int} {a b c:List Rat} (hp:∀ p∈ps,0 < p) (hab:a.length=b.length) (hc:c=List.zipWith (· + ·) a b) (h1:sz ps a≤0) (h2:sz ps b≤0):sz ps c≤0:=by
 obtain ⟨x,y,hx,_,e1,e2,e3⟩:=sz_sum hp hab hc
 rw [e1] at h1
 rw [e2] at h2
 rw [e3]
 exact sg_mul_le hx h1 h2
theorem sz_zero {ps:List Int} {l:List Rat} (hp:∀ p∈ps,0 < p) (h:∀ q∈l,q=0):sz ps l=0:=by
 rw [sz_eq hp (tden_pos' l) fun q hq=>tden_dvd hq,vp_zero,sg_one]
 intro k hk
 obtain ⟨q,hq,rfl⟩:=List.mem_map.1 hk
 exact ex_zero q (by rw [h q hq]; rfl)
end Go.Proofs.YtkoicfghplmghaaGreatDoor.LN

namespace Go.Proofs.YtkoicfghplmghaaGreatDoor.LN
theorem zpow_nat_mul {x:Rat} (hx:x≠0) (a:Int):∀ n:Nat,(x ^ a) ^ n=x ^ (a * n)
 | 0=>by simp
 | n + 1=>by
  rw [Rat.pow_succ,zpow_nat_mul hx a n,← Rat.zpow_add hx]
  congr 1
  rw [Int.natCast_add,Int.mul_add]; simp
theorem zpow_mul' {x:Rat} (hx:x≠0) (a b:Int):(x ^ a) ^ b=x ^ (a * b):=by
 rcases Int.eq_nat_or_neg b with ⟨n,rfl | rfl⟩
 ·rw [Rat.zpow_natCast,zpow_nat_mul hx]
 ·rw [Rat.zpow_neg,Rat.zpow_natCast,zpow_nat_mul hx,← Rat.zpow_neg]
  congr 1
  rw [Int.mul_neg]
theorem two_ne:(2:Rat)≠0:=by decide
theorem two_zpow_one_lt {a:Int} (h:0 < a):(1:Rat) < 2 ^ a:=by
 obtain ⟨n,rfl⟩:=Int.eq_ofNat_of_zero_le (Int.le_of_lt h)
 rw [Rat.zpow_natCast]
 exact pow_one_lt (by decide) n (by omega)
theorem two_zpow_lt_one {a:Int} (h:a < 0):(2:Rat) ^ a < 1:=by
 have h1:=two_zpow_one_lt (a := -a) (by omega)
 have h2:(2:Rat) ^ a * 2 ^ (-a)=1:=by rw [← Rat.zpow_add two_ne]; simp [Int.add_right_neg]
 have h3:(0:Rat) < 2 ^ a:=Rat.zpow_pos (by decide)
 refine Rat.not_le.1 fun h4=>?_
 have h5:=Rat.mul_le_mul_of_nonneg_right h4 (c:=2 ^ (-a)) (by grind)
 grind
theorem pow_le_pow' {x y:Rat} (h0:0 < x) (h:x≤y):∀ n:Nat,x ^ n≤y ^ n
 | 0=>by rw [Rat.pow_zero,Rat.pow_zero]; exact Rat.le_refl
 | n + 1=>by
  have ih:=pow_le_pow' h0 h n
  rw [Rat.pow_succ,Rat.pow_succ]
  have h1:=Rat.mul_le_mul_of_nonneg_right ih (c:=x) (by grind)
  have h2:=Rat.mul_le_mul_of_nonneg_left h (c:=y ^ n) (Rat.le_of_lt (Rat.pow_pos (by grind)))
  exact Rat.le_trans h1 h2
theorem inv_le_inv {x y:Rat} (h0:0 < x) (h:x≤y):y⁻¹≤x⁻¹:=by
 have hy:0 < y:=by grind
 have h1:=Rat.inv_pos.2 h0
 have h2:=Rat.inv_pos.2 hy
 have e1:=Rat.mul_inv_cancel x (by grind)
 have e2:=Rat.mul_inv_cancel y (by grind)
 have h3:=Rat.mul_le_mul_of_nonneg_right h (c:=x⁻¹ * y⁻¹) (Rat.le_of_lt (Rat.mul_pos h1 h2))
 have e3:x * (x⁻¹ * y⁻¹)=y⁻¹:=by rw [← Rat.mul_assoc,e1,Rat.one_mul]
 have e4:y * (x⁻¹ * y⁻¹)=x⁻¹:=by rw [Rat.mul_comm x⁻¹,← Rat.mul_assoc,e2,Rat.one_mul]
 rw [e3,e4] at h3
 exact h3
theorem zpow_le_zpow_neg {x y:Rat} (h0:0 < x) (h:x≤y) {j:Int} (hj:j≤0):y ^ j≤x ^ j:=by
 obtain ⟨n,hn⟩:=Int.eq_ofNat_of_zero_le (a := -j) (by omega)
 have e:j = -(n:Int):=by omega
 rw [e,Rat.zpow_neg,Rat.zpow_neg,Rat.zpow_natCast,Rat.zpow_natCast]
 exact inv_le_inv (Rat.pow_pos h0) (pow_le_pow' h0 h n)
structure Btw (v:Rat) (a b:Int):Prop where
 pos:0 < v
 lo:2 ^ a≤v
 hi:v≤2 ^ b
theorem Btw.inv {v:Rat} {a b:Int} (h:Btw v a b):Btw v⁻¹ (-b) (-a):=by
 refine ⟨Rat.inv_pos.2 h.pos,?_,?_⟩
 ·rw [Rat.zpow_neg]; exact inv_le_inv h.pos h.hi
 ·rw [Rat.zpow_neg]; exact inv_le_inv (Rat.zpow_pos (by decide)) h.lo
theorem Btw.zpow_neg {v:Rat} {a b:Int} (h:Btw v a b) {j:Int} (hj:j≤0):Btw (v ^ j) (j * b) (j * a):=by
 refine ⟨Rat.zpow_pos h.pos,?_,?_⟩
 ·rw [Int.mul_comm,← zpow_mul' two_ne]; exact zpow_le_zpow_neg h.pos h.hi hj
 ·rw [Int.mul_comm,← zpow_mul' two_ne]; exact zpow_le_zpow_neg (Rat.zpow_pos (by decide)) h.lo hj
theorem Btw.mul {v u:Rat} {a b c d:Int} (h:Btw v a b) (k:Btw u c d):Btw (v * u) (a + c) (b + d):=by
 refine ⟨Rat.mul_pos h.pos k.pos,?_,?_⟩
 ·rw [Rat.zpow_add two_ne]
  have h1:=Rat.mul_le_mul_of_nonneg_right h.lo (c:=2 ^ c) (Rat.le_of_lt (Rat.zpow_pos (by decide)))
  have h2:=Rat.mul_le_mul_of_nonneg_left k.lo (c:=v) (Rat.le_of_lt h.pos)
  exact Rat.le_trans h1 h2
 ·rw [Rat.zpow_add two_ne]
  have h1:=Rat.mul_le_mul_of_nonneg_right h.hi (c:=u) (Rat.le_of_lt k.pos)
  have h2:=Rat.mul_le_mul_of_nonneg_left k.hi (c:=2 ^ b) (Rat.le_of_lt (Rat.zpow_pos (by decide)))
  exact Rat.le_trans h1 h2
theorem Btw.lt {v:Rat} {a b:Int} (h:Btw v a b) (hb:b < 0):v < 1:=by
 have:=two_zpow_lt_one hb
 have:=h.hi
 grind
def eLo (f:Int→Nat) (l:List (Int×Int)):Int:=(l.map fun x=>if x.2 < 0 then x.2 * (hiL f x.1:Int) else x.2 * (f x.1:Int)).sum
def eHi (f:Int→Nat) (l:List (Int×Int)):Int:=(l.map fun x=>if x.2 < 0 then x.2 * (f x.1:Int) else x.2 * (hiL f x.1:Int)).sum
theorem term_split (k:Int) (a b:Nat):(if k < 0 then k * (b:Int) else k * (a:Int))=((k.toNat * a:Nat):Int) - (((-k).toNat * b:Nat):Int):=by
 by_cases h:k < 0
 ·rw [if_pos h,show k.toNat=0 by omega]
  have e:((-k).toNat:Int) = -k:=Int.toNat_of_nonneg (by omega)
  rw [Int.natCast_mul,Int.natCast_mul,e]
  grind
 ·rw [if_neg h,show (-k).toNat=0 by omega]
  have e:(k.toNat:Int)=k:=Int.toNat_of_nonneg (by omega)
  rw [Int.natCast_mul,Int.natCast_mul,e]
  grind
theorem eLo_eq (f:Int→Nat):∀ l:List (Int×Int),eLo f l=(loS f l:Int) - (hiS f (negT l):Int)
 | []=>rfl
 | x :: l=>by
  have ih:=eLo_eq f l
  unfold eLo at ih ⊢
  have e:negT (x :: l)=(x.1,-x.2) :: negT l:=rfl
  rw [List.map_cons,List.sum_cons,ih,e,loS,hiS,term_split]
  dsimp only
  omega
theorem eHi_eq (f:Int→Nat):∀ l:List (Int×Int),eHi f l=(hiS f l:Int) - (loS f (negT l):Int)
 | []=>rfl
 | x :: l=>by
  have ih:=eHi_eq f l
  unfold eHi at ih ⊢
  have e:negT (x :: l)=(x.1,-x.2) :: negT l:=rfl
  rw [List.map_cons,List.sum_cons,ih,e,hiS,loS,term_split]
  dsimp only
  omega
end Go.Proofs.YtkoicfghplmghaaGreatDoor.LN

namespace Go.Proofs.YtkoicfghplmghaaGreatDoor
open Go Go.Sort
section
variable {P:Program} {ops:Array Oper} {md:Region.Mode} {cs:List (Nat×(World→Prop))}
def noEnter2:Op→Bool
 | .move _ | .assign _ | .load _ _ | .fieldAddr _ _ _ | .indexAddr _ _ _ | .binOp _ _ _ _ _=>true
 | .call c=>match c.callee with
  | .builtin .min | .builtin .max | .builtin .len=>true
  | _=>false
 | _=>false
theorem no_enter2 {o:Oper} {a:Act} {w w':World} {f:FuncId} {args:Array Value} (ho:noEnter2 o.op=true) (h:(execOp a.eval o).run P w = .ok (.enter f args) w'):False:=by
 have cases5:(∃ x,o.op = .move x)∨(∃ x,o.op = .assign x)∨(∃ t x,o.op = .load t x)∨(∃ t x k,o.op = .fieldAddr t x k)∨(∃ t x y,o.op = .indexAddr t x y)∨(∃ b t x y r,o.op = .binOp b t x y r)∨(∃ c,o.op = .call c):=by
  cases hop:o.op <;> rw [hop] at ho <;> first | (simp [noEnter2] at ho; done) | simp
 rcases cases5 with ⟨x,hop⟩ | ⟨x,hop⟩ | ⟨t,x,hop⟩ | ⟨t,x,k,hop⟩ | ⟨t,x,y,hop⟩ | ⟨b,t,x,y,r,hop⟩ | ⟨c,hop⟩
 ·rw [BigFrame.run_move x hop] at h; cases h
 ·rw [BigFrame.run_assign x hop] at h; cases h
 ·unfold execOp at h; rw [hop] at h; exact RY.value_no_enter h
 ·unfold execOp at h; rw [hop] at h; exact RY.value_no_enter h
 ·unfold execOp at h; rw [hop] at h; exact RY.value_no_enter h
 ·unfold execOp at h; rw [hop] at h; exact RY.value_no_enter h
 ·rw [hop] at ho
  unfold execOp at h
  rw [hop] at h
  unfold noEnter2 at ho
  simp only at ho h
  unfold resolve at h
  cases hc:c.callee with
  | value x=>rw [hc] at ho; cases ho
  | invoke x y=>rw [hc] at ho; cases ho
  | builtin b =>
   rw [hc] at ho h
   simp only [Sem.run_bind,Sem.run_pure,Result.andThen_ok,invoke] at h
   cases b <;> first | (simp at ho; done) | (unfold builtin at h; exact RY.value_no_enter h)
theorem still_of_quiet2 {D:World→Prop} {o:Oper} {a:Act} {w:World} {v:Value} (ho:noEnter2 o.op=true) (h:o.quietAt P a D w v) {K:Act→World→Prop} (hk:K (a.put o.dst v) w):o.wp P a w K (fun _ _ _=>False):=by
 unfold Oper.quietAt at h
 unfold Oper.wp
 have hne:=@no_enter2 P o a w
 generalize (execOp a.eval o).run P w=r at *
 cases r with
 | ok n w' =>
  cases n <;> simp only [Oper.quietUpon] at h <;> simp only [Oper.upon]
  case value u=>obtain ⟨rfl,rfl⟩:=h; exact hk
  case skip=>obtain ⟨rfl,rfl⟩:=h; exact hk
  case enter f args=>exact (hne ho rfl).elim
 | halt x w'=>simp only [Oper.quietUpon] at h
def SafeL:List (Nat×(World→Prop))→(Nat→Bool)→World→Prop
 | [],_,_=>True
 | c :: cs,b,w=>(b c.1=true∨c.2 w)∧SafeL cs b w
theorem SafeL.get:∀ {cs:List (Nat×(World→Prop))} {b:Nat→Bool} {w:World},SafeL cs b w→∀ c∈cs,b c.1=true∨c.2 w
 | [],_,_,_,c,hc=>by cases hc
 | d :: cs,b,w,h,c,hc=>by
  rcases List.mem_cons.1 hc with rfl | hc
  ·exact h.1
  ·exact SafeL.get h.2 c hc
theorem SafeL.mono:∀ {cs:List (Nat×(World→Prop))} {b b':Nat→Bool} {w:World},(∀ s,b s=true→b' s=true)→SafeL cs b w→SafeL cs b' w
 | [],_,_,_,_,_=>trivial
 | _ :: _,_,_,_,hb,h=>⟨h.1.imp (hb _) id,SafeL.mono hb h.2⟩
theorem SafeL.congr {cs:List (Nat×(World→Prop))} {b b':Nat→Bool} {w:World} (hb:∀ s,b s=b' s) (h:SafeL cs b w):SafeL cs b' w:=h.mono (fun s hs=>by rw [← hb s]; exact hs)
def upB (listed:Array Bool) (s:Nat):Bool:=listed.getD s false
def anyR2 (P:Program) (md:Region.Mode) (ops:Array Oper) (cs:List (Nat×(World→Prop))) (Q:Act→World→Prop):Nat→Array Bool→Act→World→Prop
 | 0,listed,a,w=>Region.ready md ops listed=[]∧Q a w
 | f + 1,listed,a,w=>Region.ready md ops listed≠[]∧∀ i∈Region.ready md ops listed,
   wpOp P ops (fun _ _ _=>False) i (fun a' w'=>SafeL cs (upB (listed.setIfInBounds i true)) w'∧anyR2 P md ops cs Q f (listed.setIfInBounds i true) a' w') a w
def ReadsIn2 (P:Program) (ops:Array Oper) (md:Region.Mode) (cs:List (Nat×(World→Prop))) (i:Nat) (o:Oper) (v:Value) (a:Act):Prop :=
 (∃ c∈cs,RY.reachB md ops 4 c.1 i=true∧YieldsIn P ops c.2 o v a)∨YieldsIn P ops (fun _=>True) o v a
theorem ReadsIn2.of_same {i:Nat} {o:Oper} {v:Value} {a a':Act} (hy:ReadsIn2 P ops md cs i o v a) (he:execOp a'.eval o=execOp a.eval o)
  (hw:Region.wanted o (yielded ops a'.tmps)=Region.wanted o (yielded ops a.tmps)):ReadsIn2 P ops md cs i o v a' :=
 hy.imp (fun ⟨c,hc,h1,h2⟩=>⟨c,hc,h1,h2.of_same he hw⟩) (fun h=>h.of_same he hw)
theorem reads_op2 {i:Nat} {o:Oper} {v:Value} {a:Act} {w:World} {listed:Array Bool} (hi:ops[i]?=some o) (hne:noEnter2 o.op=true) (inv:RY.RInv md ops listed) (hr:i∈Region.ready md ops listed) (hs:SafeL cs (upB listed) w)
  (hy:ReadsIn2 P ops md cs i o v a) {K:Act→World→Prop} (hk:K (a.put o.dst v) w):wpOp P ops (fun _ _ _=>False) i K a w:=by
 have key:∀ D:World→Prop,D w→YieldsIn P ops D o v a→wpOp P ops (fun _ _ _=>False) i K a w:=fun D hD h=>by
  unfold wpOp
  simp only [hi]
  rcases h with ⟨h1,h2⟩ | ⟨h1,rfl⟩
  ·simp only [h1,if_true]
   exact .inl (still_of_quiet2 hne (h2 w hD) hk)
  ·simp only [h1,Bool.false_eq_true,if_false]
   exact hk
 rcases hy with ⟨c,hc,hw,h⟩ | h
 ·refine key c.2 ?_ h
  rcases hs.get c hc with hs | hs
  ·have:=RY.reach_listed inv 4 c.1 i hw hs
   rw [getD_both (mem_ready.1 hr).1] at this
   cases this
  ·exact hs
 ·exact key _ trivial h
theorem wpOp_put2 {j:Nat} {oi oj:Oper} {v:Value} (hj:ops[j]?=some oj) (hap:oi.apart ops oj=true)
  (hsi:∀ cs b,oi.op ≠ .select cs b) (hsj:∀ cs b,oj.op ≠ .select cs b) {i:Nat} {K:Act→World→Prop} {a:Act} {w:World}
  (hy:ReadsIn2 P ops md cs i oi v a) (h:wpOp P ops (fun _ _ _=>False) j K (a.put oi.dst v) w) :
  wpOp P ops (fun _ _ _=>False) j (fun a' w'=>ReadsIn2 P ops md cs i oi v a'∧K (a'.put oi.dst v) w') a w:=by
 obtain ⟨h1,h2,h3⟩:=Oper.apart_spec hap
 have keep:∀ (a:Act),ReadsIn2 P ops md cs i oi v a→∀ u,ReadsIn2 P ops md cs i oi v (a.put oj.dst u):=fun a hy u =>
  hy.of_same (execOp_put oi hsi a oj.dst u h3) (wanted_put oi a oj.dst u h3)
 have keepd:∀ d,ReadsIn2 P ops md cs i oi v ({ a with defers:=d :: a.defers }:Act):=fun d=>hy.of_same rfl rfl
 unfold wpOp at *
 simp only [hj] at *
 rw [wanted_put oj a oi.dst v h1] at h
 split
 ·rename_i hw
  simp only [hw,if_true] at h
  left
  rcases h with h | ⟨_,_,_,hf⟩
  ·unfold Oper.wp at *
   rw [execOp_put oj hsj a oi.dst v h1] at h
   generalize (execOp a.eval oj).run P w=r at *
   cases r with
   | ok n w' =>
    cases n <;> simp only [Oper.upon] at h ⊢
    case value u=>exact ⟨keep a hy u,by rw [← Act.put_comm a v u h2]; exact h⟩
    case skip=>exact ⟨keep a hy undef,by rw [← Act.put_comm a v undef h2]; exact h⟩
    case defer d =>
     refine ⟨keep _ (keepd d) undef,?_⟩
     rw [Act.put_defers] at h
     rw [← Act.put_comm _ v undef h2]
     exact h
    case enter f args =>
     exact cm_ h (fun e w'' he=>by
      cases e
      case returned u=>exact ⟨keep a hy u,by rw [← Act.put_comm a v u h2]; exact he⟩
      case panicked c=>exact he
      case outgrown=>obtain ⟨_,_,hf⟩:=he; exact hf.elim)
    case row row args=>exact Rows.mono h (fun u w'' he=>⟨keep a hy u,by rw [← Act.put_comm a v u h2]; exact he⟩)
    all_goals exact h
   | halt x w'=>cases x <;> simp only [Oper.upon] at h <;> exact h.elim
  ·exact hf.elim
 ·rename_i hw
  simp only [hw] at h
  exact ⟨keep a hy _,by rw [← Act.put_comm a v undef h2]; exact h⟩
theorem anyR2_first {i:Nat} {oi:Oper} {v:Value} {Q:Act→World→Prop} (hi:ops[i]?=some oi) (his:∀ c∈cs,i≠c.1) (hne:noEnter2 oi.op=true) (hsel:∀ (j:Nat) (o:Oper) cs b,ops[j]?=some o→o.op ≠ .select cs b) :
  ∀ (f:Nat) (listed:Array Bool) (a:Act) (w:World),RY.RInv md ops listed →
   (∀ j oj,ops[j]?=some oj→j≠i→listed.getD j true=false→(∀ e∈oj.after,Region.binds md e=true→e.on≠i)→oi.apart ops oj=true) →
   i∈Region.ready md ops listed→ReadsIn2 P ops md cs i oi v a→SafeL cs (upB listed) w →
   anyR2 P md ops cs Q f (listed.setIfInBounds i true) (a.put oi.dst v) w→anyR2 P md ops cs Q (f + 1) listed a w:=by
 have hstep:∀ (listed:Array Bool) (w:World),SafeL cs (upB listed) w→SafeL cs (upB (listed.setIfInBounds i true)) w:=fun listed w h=>h.mono (fun s hs=>getD_set_true hs)
 have hback:∀ (cs':List (Nat×(World→Prop))),(∀ c∈cs',i≠c.1)→∀ (listed:Array Bool) (w:World),SafeL cs' (upB (listed.setIfInBounds i true)) w→SafeL cs' (upB listed) w:=by
  intro cs'
  induction cs' with
  | nil=>intro _ _ _ _; trivial
  | cons c cs' ih =>
   intro hi' listed w h
   refine ⟨h.1.imp (fun hb=>?_) id,ih (fun d hd=>hi' d (List.mem_cons_of_mem _ hd)) listed w h.2⟩
   unfold upB at hb ⊢
   rw [getD_set_ne false (hi' c (List.mem_cons_self ..))] at hb
   exact hb
 intro f
 induction f with
 | zero =>
  intro listed a w inv _ hr hy hs H
  refine ⟨fun h=>(by rw [h] at hr; cases hr),fun j hj=>?_⟩
  by_cases hji:j=i
  ·subst hji
   exact reads_op2 hi hne inv hr hs hy ⟨hstep _ _ hs,H⟩
  ·have:=ready_mono hj hji
   rw [H.1] at this
   cases this
 | succ f ih =>
  intro listed a w inv hfree hr hy hs H
  have hun:=(mem_ready.1 hr).1
  refine ⟨fun h=>(by rw [h] at hr; cases hr),fun j hj=>?_⟩
  by_cases hji:j=i
  ·subst hji
   exact reads_op2 hi hne inv hr hs hy ⟨hstep _ _ hs,H⟩
  ·have h1:=H.2 j (ready_mono hj hji)
   obtain ⟨hjun,oj,hoj,hall⟩:=mem_ready.1 hj
   have hnot:∀ e∈oj.after,Region.binds md e=true→e.on≠i:=fun e he hb heq=>by
    have h1:=hall e he hb
    rw [heq,getD_both hun] at h1
    cases h1
   have h2:=wpOp_put2 hoj (hfree j oj hoj hji hjun hnot) (fun cs b=>hsel i oi cs b hi) (fun cs b=>hsel j oj cs b hoj) hy h1
   have hfree':∀ k ok,ops[k]?=some ok→k≠i→(listed.setIfInBounds j true).getD k true=false →
     (∀ e∈ok.after,Region.binds md e=true→e.on≠i)→oi.apart ops ok=true:=fun k ok hk hki hun hno=>by
    refine hfree k ok hk hki ?_ hno
    by_cases hjk:j=k
    ·subst hjk; exact hjun
    ·rw [getD_set_ne true hjk] at hun; exact hun
   have hr':=ready_mono hr (Ne.symm hji)
   refine wpOp_mono (fun a' w' h3=>?_) h2
   obtain ⟨hy',hs',H'⟩:=h3
   have hs2:SafeL cs (upB (listed.setIfInBounds j true)) w':=by
    rw [Array.setIfInBounds_comm _ _ (Ne.symm hji)] at hs'
    exact hback cs his _ _ hs'
   refine ⟨hs2,ih (listed.setIfInBounds j true) a' w' (inv.set hj) hfree' hr' hy' hs2 ?_⟩
   rw [Array.setIfInBounds_comm _ _ hji]
   exact H'
def ordB2 (md:Region.Mode) (ops:Array Oper) (ss:List Nat):List (Nat×Nat)→Array Bool→Bool
 | [],listed=>(Region.ready md ops listed).isEmpty
 | (k,i) :: l,listed =>
  (if k=0 then decide (Region.ready md ops listed=[i])
  else (Region.ready md ops listed).contains i && Region.free md ops listed i && (match ops[i]? with | some o=>noEnter2 o.op | none=>false) && (ss.all fun s=>decide (i≠s)) && (k == 1 || RY.reachB md ops 4 (k - 2) i)) &&
  ordB2 md ops ss l (listed.setIfInBounds i true)
def walkR2 (P:Program) (ops:Array Oper) (cs:List (Nat×(World→Prop))) (Q:Act→World→Prop):List (Nat×Nat)→(Nat→Bool)→Act→World→Prop
 | [],_,a,w=>Q a w
 | (k,i) :: l,b,a,w =>
  if k=0 then wpList P ops (fun e a' w'=>e = .normal∧SafeL cs (fun s=>b s || i == s) w'∧walkR2 P ops cs Q l (fun s=>b s || i == s) a' w') (ops[i]?).toList a w
  else if k=1 then wpQuiet P ops (fun _=>True) (fun a'=>walkR2 P ops cs Q l b a' w) (ops[i]?).toList a
  else ∃ c∈cs,c.1=k - 2∧wpQuiet P ops c.2 (fun a'=>walkR2 P ops cs Q l b a' w) (ops[i]?).toList a
theorem SafeL.congr_on:∀ {cs:List (Nat×(World→Prop))} {b b':Nat→Bool} {w:World},(∀ c∈cs,b c.1=b' c.1)→SafeL cs b w→SafeL cs b' w
 | [],_,_,_,_,_=>trivial
 | c :: cs,b,b',w,hb,h=>⟨h.1.imp (fun h1=>by rw [← hb c (List.mem_cons_self ..)]; exact h1) id,SafeL.congr_on (fun d hd=>hb d (List.mem_cons_of_mem _ hd)) h.2⟩
theorem anyR2_walk {Q:Act→World→Prop} (hsel:Region.noSelect ops=true) :
  ∀ (l:List (Nat×Nat)) (b:Nat→Bool) (listed:Array Bool) (a:Act) (w:World),(∀ c∈cs,b c.1=upB listed c.1)→RY.RInv md ops listed→SafeL cs (upB listed) w→ordB2 md ops (cs.map Prod.fst) l listed=true →
   walkR2 P ops cs Q l b a w→anyR2 P md ops cs Q l.length listed a w
 | [],b,listed,a,w,_,_,_,hB,h=>⟨by simpa [ordB2] using hB,h⟩
 | (k,i) :: l,b,listed,a,w,hb,inv,hs,hB,h=>by
  simp only [ordB2,Bool.and_eq_true] at hB
  obtain ⟨hB1,hB2⟩:=hB
  by_cases hk:k=0
  ·subst hk
   simp only [if_true,decide_eq_true_eq] at hB1
   have hr:i∈Region.ready md ops listed:=by rw [hB1]; exact List.mem_singleton.2 rfl
   obtain ⟨hun,o,ho,_⟩:=mem_ready.1 hr
   have hlt:i < listed.size:=by rw [inv.size]; exact (Array.getElem?_eq_some_iff.1 ho).1
   have hgs:∀ c∈cs,(b c.1 || i == c.1)=upB (listed.setIfInBounds i true) c.1:=fun c hc=>by
    rw [hb c hc]
    unfold upB
    by_cases his:i=c.1
    ·rw [his] at hlt ⊢
     simp [hlt]
    ·rw [getD_set_ne false his]
     simp [his]
   refine ⟨by rw [hB1]; simp,fun j hj=>?_⟩
   rw [hB1] at hj
   obtain rfl:=List.mem_singleton.1 hj
   simp only [walkR2,if_true,ho,Option.toList] at h
   have h2:wpOp P ops (fun e a' w'=>e = .normal∧SafeL cs (fun s=>b s || j == s) w'∧walkR2 P ops cs Q l (fun s=>b s || j == s) a' w') j (fun a' w'=>SafeL cs (fun s=>b s || j == s) w'∧walkR2 P ops cs Q l (fun s=>b s || j == s) a' w') a w:=by
    unfold wpOp
    simp only [ho]
    simp only [wpList,true_and] at h
    exact h
   have h3:=RY.wpOp_strong (fun e a' w' hq=>hq.1) h2
   refine wpOp_mono (fun a' w' h4=>?_) h3
   have hs2:SafeL cs (upB (listed.setIfInBounds j true)) w':=h4.1.congr_on hgs
   exact ⟨hs2,anyR2_walk hsel l _ _ a' w' hgs (inv.set hr) hs2 hB2 h4.2⟩
  ·rw [if_neg hk] at hB1
   simp only [Bool.and_eq_true,Bool.or_eq_true,beq_iff_eq,List.all_eq_true,decide_eq_true_eq] at hB1
   obtain ⟨⟨⟨⟨hr,hf⟩,hne⟩,his⟩,hw⟩:=hB1
   have hr':i∈Region.ready md ops listed:=by simpa using hr
   obtain ⟨_,o,ho,_⟩:=mem_ready.1 hr'
   have hne':noEnter2 o.op=true:=by rw [ho] at hne; exact hne
   have his':∀ c∈cs,i≠c.1:=fun c hc=>his c.1 (List.mem_map.2 ⟨c,hc,rfl⟩)
   have hs2:SafeL cs (upB (listed.setIfInBounds i true)) w:=hs.mono (fun s hs=>getD_set_true hs)
   simp only [walkR2,if_neg hk] at h
   have hread:∃ v,ReadsIn2 P ops md cs i o v a∧walkR2 P ops cs Q l b (a.put o.dst v) w:=by
    by_cases h2:k=1
    ·rw [if_pos h2] at h
     obtain ⟨v,hy,hK⟩:=yieldsIn_of_qOp ho (RY.qOp_of_list ho h)
     exact ⟨v,.inr hy,hK⟩
    ·rw [if_neg h2] at h
     obtain ⟨c,hc,hck,h⟩:=h
     obtain ⟨v,hy,hK⟩:=yieldsIn_of_qOp ho (RY.qOp_of_list ho h)
     exact ⟨v,.inl ⟨c,hc,by rw [hck]; exact hw.resolve_left h2,hy⟩,hK⟩
   obtain ⟨v,hy,hK⟩:=hread
   have hb2:∀ c∈cs,b c.1=upB (listed.setIfInBounds i true) c.1:=fun c hc=>by
    rw [hb c hc]; unfold upB; rw [getD_set_ne false (his' c hc)]
   exact anyR2_first ho his' hne' (Region.noSelect_spec hsel) l.length listed a w inv (Region.free_spec ho hf) hr' hy hs
    (anyR2_walk hsel l b _ _ w hb2 (inv.set hr') hs2 hB2 hK)
theorem start2 {ord:List (Nat×Nat)} {l:List Oper} {a:Act} {w:World} {Q:Act→World→Prop} (hsel:Region.noSelect l.toArray=true) (hord:ordB2 .any l.toArray (cs.map Prod.fst) ord (Array.replicate l.length false)=true)
  (hC:SafeL cs (fun _=>false) w) (h:walkR2 P l.toArray cs Q ord (fun _=>false) a w):anyR2 P .any l.toArray cs Q ord.length (Array.replicate l.length false) a w:=by
 have hf:∀ s,upB (Array.replicate l.length false) s=false:=fun s=>getD_replicate_false _ _
 refine anyR2_walk hsel ord _ _ a w (fun c _=>(hf c.1).symm) ⟨by simp,fun j oj _ hl=>(by rw [getD_replicate_false] at hl; cases hl)⟩ (hC.congr_on (fun c _=>(hf c.1).symm)) hord h
theorem wpOpIn_of_wpOp {i l0 n:Nat} {a:Act} {w:World} {K K':Act→World→Prop} {Q':Exit→Act→World→Prop} (hnd:∀ o c,ops[i]?=some o→o.op ≠ .defer c) (_hnr:∀ o c,ops[i]?=some o→o.op ≠ .go c) (hk:∀ a w,K a w→K' a w)
  (h:wpOp P ops (fun _ _ _=>False) i K a w):wpOpIn (Fence.wide.inRound l0) n P ops Q' i K' a w:=by
 unfold wpOp at h
 unfold wpOpIn
 split
 ·rename_i ho; simp only [ho] at h; exact hk _ _ h
 ·rename_i o ho
  simp only [ho] at h
  split
  ·rename_i hw
   simp only [hw,if_true] at h
   rcases h with h | ⟨_,_,_,hf⟩
   ·refine ⟨fun _ _=>trivial,?_⟩
    unfold Oper.wp at h
    rw [show (Fence.wide.inRound l0).round=some l0 from rfl,Oper.semAt_some l0 _ _ (fun c=>hnd o c ho)]
    generalize (execOp a.eval o).run P w=r at *
    cases r with
    | ok x w' =>
     cases x <;> simp only [Oper.upon,Oper.uponIn] at h ⊢
     case value=>exact hk _ _ h
     case skip=>exact hk _ _ h
     case defer=>exact hk _ _ h
     case enter f args =>
      refine ⟨fun hd=>(by cases hd),?_⟩
      have h2:=Calls.mono h (R':=fun e w''=>match e,w'' with
       | .returned v,w''=>K' (a.put o.dst v) w''
       | .panicked chain,w''=>Q' (.panic chain) a w''
       | .outgrown,_=>LetsOut Q') (fun e w'' he=>by cases e <;> first | exact hk _ _ he | exact he.elim | (obtain ⟨_,_,hf⟩:=he; exact hf.elim))
      exact CallsIn.inRound l0 (callsIn_wide.2 h2)
     case row row args=>exact ⟨fun hd=>(by cases hd),fun c cs _=>let ⟨v,w',r,s⟩:=h c cs; ⟨v,w',hk _ _ r,stepsIn_wide.2 s⟩⟩
    | halt x w'=>cases x <;> simp only [Oper.upon] at h <;> exact h.elim
   ·exact hf.elim
  ·rename_i hw; simp only [hw] at h; exact ⟨fun _ _=>trivial,hk _ _ h⟩
def plainOps (ops:Array Oper):Bool:=ops.all fun o=>match o.op with | .defer _ | .go _=>false | _=>true
theorem plainOps_spec {ops:Array Oper} (h:plainOps ops=true) {i:Nat} {o:Oper} (hi:ops[i]?=some o):(∀ c,o.op ≠ .defer c)∧(∀ c,o.op ≠ .go c):=by
 have hm:o∈ops:=Array.mem_of_getElem? hi
 have:=Array.all_eq_true'.1 h o hm
 refine ⟨fun c hc=>?_,fun c hc=>?_⟩ <;> rw [hc] at this <;> cases this
theorem anyR2_anyIn {l0 n:Nat} {Q:Act→World→Prop} {Q':Exit→Act→World→Prop} (hpl:plainOps ops=true) (hQ:∀ a w,Q a w→Q' .normal a w) :
  ∀ (f:Nat) (listed:Array Bool) (a:Act) (w:World),anyR2 P md ops cs Q f listed a w→wpAnyIn (Fence.wide.inRound l0) n P md ops Q' f listed a w
 | 0,_,_,_,h=>⟨h.1,hQ _ _ h.2⟩
 | f + 1,_,_,_,h=>⟨fun h0=>absurd h0 h.1,fun i hi=>wpOpIn_of_wpOp (fun _ c ho=>(plainOps_spec hpl ho).1 c) (fun _ c ho=>(plainOps_spec hpl ho).2 c) (fun a' w' h'=>anyR2_anyIn hpl hQ f _ a' w' h'.2) (h.2 i hi)⟩
theorem wpIn_region_readers2 {id l0 n:Nat} {Q:Exit→Act→World→Prop} {a:Act} {w:World} {l:List Oper} (ord:List (Nat×Nat)) (cs:List (Nat×(World→Prop))) (hm:P.follows .mixedOrders=true)
  (hB:(Region.noSelect l.toArray && decide (ord.length=l.length) && plainOps l.toArray && ordB2 .any l.toArray (cs.map Prod.fst) ord (Array.replicate l.length false))=true)
  (hC:SafeL cs (fun _=>false) { w with drawn:=w.drawn + 1 }) (h:walkR2 P l.toArray cs (fun a' w'=>Q .normal a' w') ord (fun _=>false) a { w with drawn:=w.drawn + 1 }):(Code.region id l.toArray true).wpIn (Fence.wide.inRound l0) n P Q a w:=by
 simp only [Bool.and_eq_true,decide_eq_true_eq] at hB
 obtain ⟨⟨⟨hsel,hlen⟩,hpl⟩,hord⟩:=hB
 refine wpIn_region_any hm ?_
 have:=anyR2_anyIn (l0:=l0) (n:=n) (Q':=Q) hpl (fun a w h=>h) _ _ _ _ (start2 hsel hord hC h)
 rw [hlen] at this
 simpa using this
theorem walkR2_read {s i:Nat} {Q:Act→World→Prop} {l:List (Nat×Nat)} {b:Nat→Bool} {a:Act} {w:World} {lo:List Oper} (c:Nat×(World→Prop)) (hc:c∈cs) (hs:c.1=s) (h:wpQuiet P lo.toArray c.2 (fun a'=>walkR2 P lo.toArray cs Q l b a' w) ((lo.drop i).take 1) a):walkR2 P lo.toArray cs Q ((s + 2,i) :: l) b a w:=by
 simp only [walkR2,RY.pick_one]
 rw [if_neg (by omega),if_neg (by omega)]
 exact ⟨c,hc,by omega,h⟩
theorem walkR2_any {i:Nat} {Q:Act→World→Prop} {l:List (Nat×Nat)} {b:Nat→Bool} {a:Act} {w:World} {lo:List Oper} (h:wpQuiet P lo.toArray (fun _=>True) (fun a'=>walkR2 P lo.toArray cs Q l b a' w) ((lo.drop i).take 1) a):walkR2 P lo.toArray cs Q ((1,i) :: l) b a w:=by
 simp only [walkR2,RY.pick_one]
 exact h
theorem walkR2_move {i:Nat} {Q:Act→World→Prop} {l:List (Nat×Nat)} {b:Nat→Bool} {a:Act} {w:World} {lo:List Oper}
  (h:wpList P lo.toArray (fun e a' w'=>e = .normal∧SafeL cs (fun s=>b s || i == s) w'∧walkR2 P lo.toArray cs Q l (fun s=>b s || i == s) a' w') ((lo.drop i).take 1) a w):walkR2 P lo.toArray cs Q ((0,i) :: l) b a w:=by
 simp only [walkR2,RY.pick_one]
 exact h
end
end Go.Proofs.YtkoicfghplmghaaGreatDoor

namespace Go.Proofs.YtkoicfghplmghaaGreatDoor
open Go.RowKit Go.Shelf
attribute [local go_sem] Oper.semAt_some
def lgA (p:Int):Int:=match digs p.toNat 62 26 with
 | some s=>s.2.2
 | none=>0
def lgB (p:Int):Int:=if p=2 then lgA p else lgA p + 1
def okT (most:Int) (x:Int×Int):Prop:=(-most≤x.2∧x.2≤most)∧(digs x.1.toNat 62 26).isSome=true
instance (most:Int) (x:Int×Int):Decidable (okT most x):=by unfold okT; infer_instance
def lowT (tl:List (Int×Int)):Int:=(tl.map fun x=>min (x.2 * lgA x.1) (x.2 * lgB x.1)).sum
def highT (tl:List (Int×Int)):Int:=(tl.map fun x=>max (x.2 * lgA x.1) (x.2 * lgB x.1)).sum
structure CellW (p:Addr) (v:Value) where
 w:World
 h:w.cell? p=some v
def nearV (most:Int) (tl:List (Int×Int)):Value :=
 if ∀ x∈tl,okT most x then .tuple #[.int .i64 (lowT tl),.int .i64 (highT tl),.bool true] else .tuple #[.int .i64 0,.int .i64 0,.bool false]
theorem keeps_of_below {W W':World} (h:Below W.heap.size W W'):KeepsOthers W W' :=
 ⟨h.size,fun k _ hk _=>(h.block k (Array.getElem?_eq_some_iff.1 hk).1).trans hk⟩
theorem one_cell {w:World} {g:Nat} {a:Value} {t:TypeId} (h:w.heap[g]?=some (.cells #[a] t (0,0))):w.cell? ⟨g,0,none⟩=some a∧w.frozen? ⟨g,0,none⟩=false :=
 ⟨by rw [cell_of_row w g 0 _ t (0,0) h]; rfl,by simp [World.frozen?,h]⟩
theorem heap_old {w:World} {g:Nat} {o:Obj} (h:w.heap[g]?=some o) (o':Obj):(w.alloc o').heap[g]?=some o:=by
 exact (Below.heap_alloc w o' g (Array.getElem?_eq_some_iff.1 h).1).trans h
theorem heap_at (w:World) (c:Array Value) (t:TypeId) (k:Nat) (hk:w.heap.size=k):(w.alloc (.cells c t)).heap[k]?=some (.cells c t (0,0)):=by
 subst hk; exact Go.heap_alloc_new w _
theorem boxes5 (w:World) (o1:Obj) (v2 v3 v4 v5:Value) (t2 t3 t4 t5:TypeId) (W:World) (hW:((((w.alloc o1).alloc (.cells #[v2] t2)).alloc (.cells #[v3] t3)).alloc (.cells #[v4] t4)).alloc (.cells #[v5] t5)=W) :
  W.heap[w.heap.size + 1]?=some (.cells #[v2] t2 (0,0))∧W.heap[w.heap.size + 1 + 1]?=some (.cells #[v3] t3 (0,0))∧W.heap[w.heap.size + 1 + 1 + 1]?=some (.cells #[v4] t4 (0,0))∧W.heap[w.heap.size + 1 + 1 + 1 + 1]?=some (.cells #[v5] t5 (0,0)):=by
 subst hW
 refine ⟨heap_old (heap_old (heap_old (heap_at _ _ _ _ (by simp)) _) _) _,heap_old (heap_old (heap_at _ _ _ _ (by simp)) _) _,heap_old (heap_at _ _ _ _ (by simp)) _,heap_at _ _ _ _ (by simp)⟩
structure NearI (B:Nat) (most:Int) (l:List (Int×Int)) (W:World):Prop where
 c3:W.cell? ⟨B + 1,0,none⟩=some (.int .i64 most)
 c4:W.cell? ⟨B + 1 + 1,0,none⟩=some (.int .i64 (lowT l))
 c5:W.cell? ⟨B + 1 + 1 + 1,0,none⟩=some (.int .i64 (highT l))
 c6:W.cell? ⟨B + 1 + 1 + 1 + 1,0,none⟩=some (.bool false)
 f4:W.frozen? ⟨B + 1 + 1,0,none⟩=false
 f5:W.frozen? ⟨B + 1 + 1 + 1,0,none⟩=false
 f6:W.frozen? ⟨B + 1 + 1 + 1 + 1,0,none⟩=false
 sz:B + 5 < W.heap.size
 ok:∀ x∈l,okT most x
structure NearX (B:Nat) (W:World):Prop where
 c4:W.cell? ⟨B + 1 + 1,0,none⟩=some (.int .i64 0)
 c5:W.cell? ⟨B + 1 + 1 + 1,0,none⟩=some (.int .i64 0)
 c6:W.cell? ⟨B + 1 + 1 + 1 + 1,0,none⟩=some (.bool false)
theorem NearI.below {B:Nat} {most:Int} {l:List (Int×Int)} {W W':World} (h:NearI B most l W) (hb:Below W.heap.size W W'):NearI B most l W' :=
 ⟨(hb.cell (block_lt_of_cell h.c3)).trans h.c3,(hb.cell (block_lt_of_cell h.c4)).trans h.c4,(hb.cell (block_lt_of_cell h.c5)).trans h.c5,(hb.cell (block_lt_of_cell h.c6)).trans h.c6,
  (hb.frozen (block_lt_of_cell h.c4)).trans h.f4,(hb.frozen (block_lt_of_cell h.c5)).trans h.f5,(hb.frozen (block_lt_of_cell h.c6)).trans h.f6,Nat.lt_of_lt_of_le h.sz hb.size,h.ok⟩
theorem NearI.kept {B:Nat} {most:Int} {l:List (Int×Int)} {W W':World} {row:Option Nat} (h:NearI B most l W) (hg:W.grownBy W' row) (hr:∀ r,row=some r→∃ o:Obj,W.heap[r]?=some o∧o.isCells=false):NearI B most l W' :=
 ⟨cell_kept h.c3 hg hr,cell_kept h.c4 hg hr,cell_kept h.c5 hg hr,cell_kept h.c6 hg hr,(frozen_kept h.c4 hg hr).trans h.f4,(frozen_kept h.c5 hg hr).trans h.f5,(frozen_kept h.c6 hg hr).trans h.f6,Nat.lt_of_lt_of_le h.sz hg.size,h.ok⟩
theorem NearX.kept {B:Nat} {W W':World} {row:Option Nat} (h:NearX B W) (hg:W.grownBy W' row) (hr:∀ r,row=some r→∃ o:Obj,W.heap[r]?=some o∧o.isCells=false):NearX B W' :=
 ⟨cell_kept h.c4 hg hr,cell_kept h.c5 hg hr,cell_kept h.c6 hg hr⟩
theorem NearI.quits {B:Nat} {most:Int} {l:List (Int×Int)} {W:World} (h:NearI B most l W):NearX B (((W.setCell ⟨B + 1 + 1,0,none⟩ (.int .i64 0)).setCell ⟨B + 1 + 1 + 1,0,none⟩ (.int .i64 0)).setCell ⟨B + 1 + 1 + 1 + 1,0,none⟩ (.bool false)):=by
 refine ⟨?_,?_,?_⟩
 ·rw [World.cell?_setCell_other _ _ _ _ (by simp),World.cell?_setCell_other _ _ _ _ (by simp),World.cell?_setCell_same _ _ _ h.c4]
 ·rw [World.cell?_setCell_other _ _ _ _ (by simp),World.cell?_setCell_same _ _ _ (by rw [World.cell?_setCell_other _ _ _ _ (by simp)]; exact h.c5)]
 ·rw [World.cell?_setCell_same _ _ _ (by rw [World.cell?_setCell_other _ _ _ _ (by simp),World.cell?_setCell_other _ _ _ _ (by simp)]; exact h.c6)]
theorem NearI.stored {B:Nat} {most:Int} {l l':List (Int×Int)} {W:World} (h:NearI B most l W) {v5 v6:Int} (h5:lowT l'=v5) (h6:highT l'=v6) (ok:∀ x∈l',okT most x) :
  NearI B most l' ((W.setCell ⟨B + 1 + 1,0,none⟩ (.int .i64 v5)).setCell ⟨B + 1 + 1 + 1,0,none⟩ (.int .i64 v6)):=by
 refine ⟨?_,?_,?_,?_,?_,?_,?_,?_,ok⟩
 ·rw [World.cell?_setCell_other _ _ _ _ (by simp),World.cell?_setCell_other _ _ _ _ (by simp)]; exact h.c3
 ·rw [World.cell?_setCell_other _ _ _ _ (by simp),World.cell?_setCell_same _ _ _ h.c4,h5]
 ·rw [World.cell?_setCell_same _ _ _ (by rw [World.cell?_setCell_other _ _ _ _ (by simp)]; exact h.c5),h6]
 ·rw [World.cell?_setCell_other _ _ _ _ (by simp),World.cell?_setCell_other _ _ _ _ (by simp)]; exact h.c6
 ·rw [World.frozen?_setCell,World.frozen?_setCell]; exact h.f4
 ·rw [World.frozen?_setCell,World.frozen?_setCell]; exact h.f5
 ·rw [World.frozen?_setCell,World.frozen?_setCell]; exact h.f6
 ·have:=h.sz; simpa using this
theorem near_kt {B:Nat} {W0 W W4:World} (hB:W0.heap.size=B) (hb:Below W0.heap.size W0 W) (hsz:B + 5 < W.heap.size) (h:Below W.heap.size W W4) (v5 v6:Value) :
  KT B (B + 5) W ((W4.setCell ⟨B + 1 + 1,0,none⟩ v5).setCell ⟨B + 1 + 1 + 1,0,none⟩ v6):=by
 subst hB
 refine ⟨((h.mono hb.size).setCell (p:=⟨W0.heap.size + 1 + 1,0,none⟩) (by show _≤W0.heap.size + 1 + 1; omega) _).setCell (p:=⟨W0.heap.size + 1 + 1 + 1,0,none⟩) (by show _≤W0.heap.size + 1 + 1 + 1; omega) _,?_⟩
 rw [obj_other (g:=W0.heap.size + 1 + 1 + 1) (k:=W0.heap.size + 5) (by omega),obj_other (g:=W0.heap.size + 1 + 1) (k:=W0.heap.size + 5) (by omega),h.block _ hsz]
theorem near_below {W0 W:World} (hb:Below W0.heap.size W0 W) (v5 v6:Value):Below W0.heap.size W0 ((W.setCell ⟨W0.heap.size + 1 + 1,0,none⟩ v5).setCell ⟨W0.heap.size + 1 + 1 + 1,0,none⟩ v6) :=
 (hb.setCell (p:=⟨W0.heap.size + 1 + 1,0,none⟩) (by show _≤W0.heap.size + 1 + 1; omega) _).setCell (p:=⟨W0.heap.size + 1 + 1 + 1,0,none⟩) (by show _≤W0.heap.size + 1 + 1 + 1; omega) _
def nearAct (w:World) (b1 b2:Option Addr) (d1 d2 D m:Nat) (most:Int) (p:Int) (k:ByteArray):Act:={ tmps := #[.agg (tcells b1 d1 b2 d2 m D),.int .i64 most,.pointer (some ⟨w.heap.size,0,none⟩),.pointer (some ⟨w.heap.size + 1,0,none⟩),.pointer (some ⟨w.heap.size + 1 + 1,0,none⟩),.pointer (some ⟨w.heap.size + 1 + 1 + 1,0,none⟩),.pointer (some ⟨w.heap.size + 1 + 1 + 1 + 1,0,none⟩),.int .i64 p,.string k,undef,undef,undef,undef,undef,.agg #[.slice b1 m d1,.slice b2 m d2,.string (dec D)],.func (.func 211) #[] #[.pointer (some ⟨w.heap.size + 1 + 1 + 1 + 1 + 1,0,none⟩)],.int .i64 p,.string k,undef,undef,undef,undef,undef,undef,undef,undef,undef,undef,undef,undef,undef,undef,undef,undef,undef,undef,undef,undef,undef,undef,undef,undef,undef,undef,undef,undef,undef,undef,undef,undef,undef,undef,undef,undef,undef,undef,undef,undef,undef,undef,undef,undef,undef,undef,undef,undef,undef,undef],defers:=[] }
theorem lowT_snoc (l:List (Int×Int)) (x:Int×Int):lowT (l ++ [x])=lowT l + min (x.2 * lgA x.1) (x.2 * lgB x.1):=by simp [lowT]
theorem highT_snoc (l:List (Int×Int)) (x:Int×Int):highT (l ++ [x])=highT l + max (x.2 * lgA x.1) (x.2 * lgB x.1):=by simp [highT]
theorem lgA_le (p:Int) (h1:2≤p) (h2:p≤97):0≤lgA p∧lgA p≤469762048:=by
 unfold lgA
 cases hq:digs p.toNat 62 26 with
 | none=>exact ⟨Int.le_refl _,by decide⟩
 | some s =>
  have hfit:=(digs_fit p.toNat (by omega) (by omega) 26 s hq).out
  have:(2:Nat) ^ 26=67108864:=rfl
  simp only
  omega
theorem prod_le {k a:Int} (hk : -10000000≤k∧k≤10000000) (ha:0≤a∧a≤469762049) : -4697620490000000≤k * a∧k * a≤4697620490000000:=by
 have h:(k * a).natAbs≤10000000 * 469762049:=by rw [Int.natAbs_mul]; exact Nat.mul_le_mul (by omega) (by omega)
 omega
theorem term_le {most:Int} (hm:most≤10000000) {x:Int×Int} (hx:okT most x) (hp:2≤x.1∧x.1≤97) :
  (-4697620490000000≤x.2 * lgA x.1∧x.2 * lgA x.1≤4697620490000000)∧(-4697620490000000≤x.2 * lgB x.1∧x.2 * lgB x.1≤4697620490000000):=by
 have ha:=lgA_le x.1 hp.1 hp.2
 have hk:=hx.1
 refine ⟨prod_le (by omega) (by omega),prod_le (by omega) ?_⟩
 unfold lgB
 split <;> omega
theorem sums_le {most:Int} (hm:most≤10000000):∀ (l:List (Int×Int)),(∀ x∈l,okT most x∧2≤x.1∧x.1≤97) →
  (-((l.length:Int) * 4697620490000000)≤lowT l∧lowT l≤(l.length:Int) * 4697620490000000)∧(-((l.length:Int) * 4697620490000000)≤highT l∧highT l≤(l.length:Int) * 4697620490000000)
 | [],_=>⟨⟨Int.le_refl _,Int.le_refl _⟩,⟨Int.le_refl _,Int.le_refl _⟩⟩
 | x :: l,h=>by
  have ih:=sums_le hm l (fun y hy=>h y (List.mem_cons_of_mem _ hy))
  have hx:=h x (List.mem_cons_self ..)
  have ht:=term_le hm hx.1 hx.2
  have e1:lowT (x :: l)=min (x.2 * lgA x.1) (x.2 * lgB x.1) + lowT l:=by simp [lowT]
  have e2:highT (x :: l)=max (x.2 * lgA x.1) (x.2 * lgB x.1) + highT l:=by simp [highT]
  rw [e1,e2,List.length_cons]
  omega
theorem near_any (w:World) (b1 b2:Option Addr) (d1 d2 D:Nat) (tl:List (Int×Int)) (most:Int) (hm0:0≤most) (hm:most≤10000000) (hl:tl.length≤1000)
  (hr1:Rd w b1 (ints (tl.map Prod.fst))) (hr2:Rd w b2 (strs (tl.map fun x=>itx x.2))) (hp:∀ x∈tl,2≤x.1∧x.1≤97) (hz:∀ x∈tl,ZNum x.2) (L:Laid w) :
  Gives Tryz.prog 172 #[.agg (tcells b1 d1 b2 d2 tl.length D),.int .i64 most] w (nearV most tl):=by
 unfold Gives
 refine (callsIn_wide (n:=3)).1 ?_
 refine callsIn_of_wp_marks Tryz.func172 rfl trivial ?_ rfl
 simp only [Tryz.ntmps172,List.size_toArray,List.length_cons,List.length_nil,Nat.reduceAdd,Nat.reduceSub,Array.replicate_succ,Array.replicate_zero,List.push_toArray,List.append_toArray,List.nil_append,List.cons_append]
 have Hsz:Hid (∀ x∈tl,∀ W,Below w.heap.size w W→Gives Tryz.prog 149 #[.string (itx x.2)] W (if -9223372036854775808≤x.2∧x.2≤9223372036854775807 then .tuple #[.int .i64 x.2,.bool true] else .tuple #[.int .i64 0,.bool false])):=fun x hx W hW=>smallz_any W x.2 (hz x hx) (L.below hW)
 have Hfa:Hid (∀ x∈tl,∀ W,Gives Tryz.prog 210 #[.int .i64 x.1] W (fastV x.1.toNat)):=fun x hx W=>by
  have h1:=hp x hx
  obtain ⟨q,hq⟩:=Int.eq_ofNat_of_zero_le (show 0≤x.1 by omega)
  have:=fast_any W q (by omega) (by omega)
  rw [hq]
  exact this
 clear L hz
 gi_wp2_with fail
 obtain ⟨w0,hw0⟩:∃ w0,((((w.alloc (Obj.cells (tcells b1 d1 b2 d2 tl.length D) 141)).alloc (Obj.cells #[Value.int IntKind.i64 most] 3)).alloc (Obj.cells #[Value.int IntKind.i64 0] 3)).alloc (Obj.cells #[Value.int IntKind.i64 0] 3)).alloc (Obj.cells #[Value.bool false] 4)=w0:=⟨_,rfl⟩
 have hsz0:w0.heap.size=w.heap.size + 5:=by rw [← hw0]; simp
 have hB0:Below w.heap.size w w0:=by rw [← hw0]; exact (((((Below.refl _ w).alloc nr_ _).alloc (by simp) _).alloc (by simp; omega) _).alloc (by simp; omega) _).alloc (by simp; omega) _
 have hbox:=boxes5 w _ _ _ _ _ _ _ _ _ w0 hw0
 rw [hw0]
 refine ⟨trivial,?_⟩
 refine (callsIn_wide.2 (all_any w0 b1 b2 d1 d2 tl.length D)).mono ?_
 rintro e w' ⟨rfl,rfl⟩
 rw [hsz0]
 have hB5:(w0.alloc (.cells (tcells b1 d1 b2 d2 tl.length D) 141)).heap[w.heap.size + 5]?=some (.cells (tcells b1 d1 b2 d2 tl.length D) 141 (0,0)):=by
  rw [← hsz0]; exact Go.heap_alloc_new w0 _
 have hB1:Below w.heap.size w (w0.alloc (.cells (tcells b1 d1 b2 d2 tl.length D) 141)):=hB0.alloc (by omega) _
 have hsz1:(w0.alloc (.cells (tcells b1 d1 b2 d2 tl.length D) 141)).heap.size=w.heap.size + 6:=by rw [World.size_alloc,hsz0]
 have hI1:NearI w.heap.size most [] (w0.alloc (.cells (tcells b1 d1 b2 d2 tl.length D) 141)):=by
  obtain ⟨h1,h2,h3,h4⟩:=hbox
  have h1:=heap_old h1 (.cells (tcells b1 d1 b2 d2 tl.length D) 141)
  have h2:=heap_old h2 (.cells (tcells b1 d1 b2 d2 tl.length D) 141)
  have h3:=heap_old h3 (.cells (tcells b1 d1 b2 d2 tl.length D) 141)
  have h4:=heap_old h4 (.cells (tcells b1 d1 b2 d2 tl.length D) 141)
  exact ⟨(one_cell h1).1,(one_cell h2).1,(one_cell h3).1,(one_cell h4).1,(one_cell h2).2,(one_cell h3).2,(one_cell h4).2,by rw [hsz1]; omega,fun x hx=>by cases hx⟩
 clear hB0 hw0 hbox
 generalize w0.alloc (.cells (tcells b1 d1 b2 d2 tl.length D) 141)=w1 at *
 gi_wp2_with fail
 refine wpIn_rangeFunc_ownF rfl (by decide) (gf:=211) (lb := #[.pointer (some ⟨w.heap.size + 5,0,none⟩)]) rfl trivial (enters_of Tryz.func211 (by kernel_rfl) rfl)
  (all_stops 2 (by decide) w w1 hB1 (w.heap.size + 5) b1 b2 d1 d2 D tl hl hB5 hr1 hr2) kt_t (kt_b (by rw [hsz1]; omega) (by rw [hsz1]; omega)) (Below.refl _ _) (fun _=>rfl)
  (fun pre W=>NearI w.heap.size most (pre.map Subtype.val) W∧Below w.heap.size w W)
  (fun c pre W=>(c = .ret∧(∃ x∈tl,¬ okT most x)∧NearX w.heap.size W)∧Below w.heap.size w W)
  (OwnFrom.and (Own.from (fun s A B row hs hg hr=>hs.kept hg hr) _) (ownFrom_below nr_ (by rw [hsz1]; omega)))
  (fun c=>OwnFrom.and (Own.from (fun s A B row hs hg hr=>⟨hs.1,hs.2.1,hs.2.2.kept hg hr⟩) _) (ownFrom_below nr_ (by rw [hsz1]; omega)))
  ⟨hI1,hB1⟩
  (fun x=>nearAct w b1 b2 d1 d2 D tl.length most x.1.1 (itx x.1.2)) ?assign ?body ?done ?stop
 case assign =>
  intro l x W K hK
  unfold nearAct at hK
  gi_wp2
  exact hK
 case body =>
  rintro l pre ⟨⟨p,k⟩,hmem⟩ W ⟨hI,hB⟩ hlen
  have HI:=hd_ hI
  have HB:=hd_ hB
  have hpp:=hp _ hmem
  have hsm:=Hsz.out _ hmem W hB
  have hfa:=Hfa.out _ hmem
  simp only at hpp hsm hfa
  have Hmem:=hd_ hmem
  unfold nearAct
  clear hI hB hr1 hr2 hI1 hB1 hB5
  have hc3:=HI.out.c3
  have hc4:=HI.out.c4
  have hc5:=HI.out.c5
  have hc6:=HI.out.c6
  have hf4:=HI.out.f4
  have hf5:=HI.out.f5
  have hf6:=HI.out.f6
  by_cases hk64 : -9223372036854775808≤k∧k≤9223372036854775807
  ·rw [if_pos hk64] at hsm
   have hneg:IntKind.i64.wrap (-most) = -most:=iw_ _ (by omega)
   by_cases hk1:k≤most
   ·by_cases hk2 : -most≤k
    ·have hfa2:∀ W,Gives Tryz.prog 210 #[.int .i64 p] W (fastV p.toNat):=hfa
     by_cases hd:(digs p.toNat 62 26).isSome=true
     ·obtain ⟨ds,hds⟩:=Option.isSome_iff_exists.1 hd
      have Hds:=hd_ hds
      have Hok:Hid (okT most (p,k)):=⟨⟨hk2,hk1⟩,hd⟩
      have hfv:fastV p.toNat = .tuple #[.int .i64 ds.2.2,.bool true]:=by unfold fastV; rw [hds]
      rw [hfv] at hfa2
      have Hlg:Hid (lgA p=(ds.2.2:Int)):=by show _=_; unfold lgA; rw [hds]
      have hfit:=(digs_fit p.toNat (by omega) (by omega) 26 ds hds).out
      have hout:ds.2.2≤469762048:=by have:(2:Nat) ^ 26=67108864:=rfl; omega
      have hpl:(pre.map Subtype.val).length≤1000:=by rw [List.length_map]; omega
      have hso:=sums_le hm (pre.map Subtype.val) (fun x hx=>⟨HI.out.ok x hx,by
       obtain ⟨y,_,rfl⟩:=List.mem_map.1 hx
       exact hp _ y.2⟩)
      have hterm:=term_le hm Hok.out hpp
      simp only at hterm
      have Hsn1:Hid (lowT ((pre ++ [(⟨(p,k),hmem⟩:{x // x∈tl})]).map Subtype.val)=lowT (pre.map Subtype.val) + min (k * lgA p) (k * lgB p)):=by
       show _=_
       rw [List.map_append]; exact lowT_snoc _ _
      have Hsn2:Hid (highT ((pre ++ [(⟨(p,k),hmem⟩:{x // x∈tl})]).map Subtype.val)=highT (pre.map Subtype.val) + max (k * lgA p) (k * lgB p)):=by
       show _=_
       rw [List.map_append]; exact highT_snoc _ _
      have Hall:Hid (∀ x∈(pre ++ [(⟨(p,k),hmem⟩:{x // x∈tl})]).map Subtype.val,okT most x):=fun x hx=>by
       rw [List.map_append] at hx
       rcases List.mem_append.1 hx with h | h
       ·exact HI.out.ok x h
       ·obtain rfl:=List.mem_singleton.1 h; exact Hok.out
      have hlB:lgB p=if p=2 then (ds.2.2:Int) else (ds.2.2:Int) + 1:=by unfold lgB; rw [Hlg.out]
      rw [Hlg.out] at hterm
      rw [Hlg.out] at Hsn1 Hsn2
      have hk1':¬ most < k:=by omega
      have hk2':¬ k < -most:=by omega
      have hwb:IntKind.i64.wrap ((ds.2.2:Int) + 1)=(ds.2.2:Int) + 1:=iw_ _ (by omega)
      clear hd hds hfv hfit hfa hlen hk64
      by_cases hp2:p=2
      ·rw [if_pos hp2] at hlB
       subst hp2
       rw [hlB] at hterm Hsn1 Hsn2
       rw [Int.min_self] at Hsn1
       rw [Int.max_self] at Hsn2
       have hw1:IntKind.i64.wrap (k * (ds.2.2:Int))=k * (ds.2.2:Int):=iw_ _ (by omega)
       clear hlB
       generalize (ds.2.2:Int)=A at *
       obtain ⟨lo,hlo⟩:∃ lo,lowT (pre.map Subtype.val)=lo:=⟨_,rfl⟩
       obtain ⟨hi,hhi⟩:∃ hi,highT (pre.map Subtype.val)=hi:=⟨_,rfl⟩
       rw [hlo] at hso Hsn1
       rw [hhi] at hso Hsn2
       have Hlo:=hd_ hlo
       have Hhi:=hd_ hhi
       clear hlo hhi
       have hw3:IntKind.i64.wrap (lo + k * A)=lo + k * A:=iw_ _ (by omega)
       have hw4':IntKind.i64.wrap (hi + k * A)=hi + k * A:=iw_ _ (by omega)
       have Hterm:=hd_ hterm
       have Hso:=hd_ hso
       gi_wp2_with fail
       refine ⟨trivial,?_⟩
       refine (CallsIn.inRound l (callsIn_wide.2 hsm)).mono ?_
       rintro e w2 ⟨rfl,hb2⟩
       have HI2:=hd_ (HI.out.below hb2)
       have HB2:=hd_ (HB.out.trans (hb2.mono HB.out.size))
       have Hk2:=hd_ (hb2)
       have hc3:=HI2.out.c3
       have hc4:=HI2.out.c4
       have hc5:=HI2.out.c5
       have hc6:=HI2.out.c6
       have hf4:=HI2.out.f4
       have hf5:=HI2.out.f5
       have hf6:=HI2.out.f6
       clear hsm hb2
       gi_wp2_with fail
       refine ⟨trivial,?_⟩
       refine (CallsIn.inRound l (callsIn_wide.2 (hfa2 w2))).mono ?_
       rintro e w3 ⟨rfl,hb3⟩
       have HI3:=hd_ (HI2.out.below hb3)
       have HB3:=hd_ (HB2.out.trans (hb3.mono HB2.out.size))
       have Hk3:=hd_ (Hk2.out.trans (hb3.mono Hk2.out.size))
       have hc3:=HI3.out.c3
       have hc4:=HI3.out.c4
       have hc5:=HI3.out.c5
       have hc6:=HI3.out.c6
       have hf4:=HI3.out.f4
       have hf5:=HI3.out.f5
       have hf6:=HI3.out.f6
       clear hfa2 hb3
       gi_wp2_with fail
       have q0:=@CellW.h
       have q9:Nonempty (CellW ⟨w.heap.size + 1 + 1,0,none⟩ (.int .i64 lo)):=⟨⟨w3,by rw [HI3.out.c4,Hlo.out]⟩⟩
       have q8:Nonempty (CellW ⟨w.heap.size + 1 + 1 + 1,0,none⟩ (.int .i64 hi)):=⟨⟨w3,by rw [HI3.out.c5,Hhi.out]⟩⟩
       refine wpIn_region_readers2 [(20,0),(1,1),(1,2),(1,3),(1,4),(1,5),(1,6),(1,7),(1,8),(21,9),(1,10),(1,11),(1,12),(1,13),(1,14),(1,15),(1,16),(1,17),(0,18),(0,19)]
        [(18,fun w'=>∃ p:CellW ⟨w.heap.size + 1 + 1,0,none⟩ (.int .i64 lo),w'=p.w),(19,fun w'=>∃ p:CellW ⟨w.heap.size + 1 + 1 + 1,0,none⟩ (.int .i64 hi),w'=p.w)]
        (by kernel_rfl) (by kernel_rfl) ⟨.inr ⟨⟨{ w3 with drawn:=w3.drawn + 1 },HI3.out.c4.trans (by rw [Hlo.out])⟩,rfl⟩,.inr ⟨⟨{ w3 with drawn:=w3.drawn + 1 },HI3.out.c5.trans (by rw [Hhi.out])⟩,rfl⟩,trivial⟩ ?_
       refine walkR2_read (s:=18) _ (List.mem_cons_self ..) rfl ?_
       simp only [dz_,tsc_,tz_]
       go_big_quiet_step (fail)
       refine wpQuiet_nil ?_
       iterate 8 (refine walkR2_any ?_; simp only [dsc_,dz_,tsc_,tz_]; go_big_quiet_step (fail); refine wpQuiet_nil ?_)
       refine walkR2_read (s:=19) _ (List.mem_cons_of_mem _ (List.mem_cons_self ..)) rfl ?_
       simp only [dsc_,dz_,tsc_,tz_]
       go_big_quiet_step (fail)
       refine wpQuiet_nil ?_
       iterate 8 (refine walkR2_any ?_; simp only [dsc_,dz_,tsc_,tz_]; go_big_quiet_step (fail); refine wpQuiet_nil ?_)
       clear q0 q8 q9
       obtain ⟨w4,hw4⟩:∃ w4:World,{ heap:=w3.heap,tape:=w3.tape,drawn:=w3.drawn + 1,os:=w3.os,output:=w3.output }=w4:=⟨_,rfl⟩
       rw [hw4]
       have HI4:Hid (NearI w.heap.size most (pre.map Subtype.val) w4):=by rw [← hw4]; exact HI3.out.below ⟨rfl,rfl,rfl,Nat.le_refl _,fun _ _=>rfl⟩
       have HB4:Hid (Below w.heap.size w w4):=by rw [← hw4]; exact HB3.out.trans ⟨rfl,rfl,rfl,Nat.le_refl _,fun _ _=>rfl⟩
       have Hk4:Hid (Below W.heap.size W w4):=by rw [← hw4]; exact Hk3.out.trans ⟨rfl,rfl,rfl,Nat.le_refl _,fun _ _=>rfl⟩
       clear hw4 hc3 hc4 hc5 hc6 hf4 hf5 hf6
       have hc4:=HI4.out.c4
       have hc5:=HI4.out.c5
       have hf4:=HI4.out.f4
       have hf5:=HI4.out.f5
       refine walkR2_move ?_
       simp only [dsc_,dz_,tsc_,tz_]
       go_wp2_with fail
       obtain ⟨v5,hv5⟩:∃ v5:Int,lo + k * A=v5:=⟨_,rfl⟩
       obtain ⟨v6,hv6⟩:∃ v6:Int,hi + k * A=v6:=⟨_,rfl⟩
       rw [hv5]
       rw [hv6]
       have hc52:(w4.setCell ⟨w.heap.size + 1 + 1,0,none⟩ (.int .i64 v5)).cell? ⟨w.heap.size + 1 + 1 + 1,0,none⟩=some (.int .i64 hi):=by
        rw [World.cell?_setCell_other _ _ _ _ (by simp),HI4.out.c5,Hhi.out]
       have hf52:(w4.setCell ⟨w.heap.size + 1 + 1,0,none⟩ (.int .i64 v5)).frozen? ⟨w.heap.size + 1 + 1 + 1,0,none⟩=false:=by rw [World.frozen?_setCell]; exact HI4.out.f5
       refine ⟨⟨.inl rfl,.inr ⟨⟨w4.setCell ⟨w.heap.size + 1 + 1,0,none⟩ (.int .i64 v5),hc52⟩,rfl⟩,trivial⟩,?_⟩
       clear hc4 hc5 hf4 hf5
       refine walkR2_move ?_
       simp only [dsc_,dz_,tsc_,tz_]
       go_wp2_with fail
       refine ⟨⟨.inl rfl,.inl rfl,trivial⟩,?_⟩
       simp only [walkR2]
       exact ⟨(keeps_of_below Hk4.out).trans ((KeepsOthers.setCell _ _ _).trans (KeepsOthers.setCell _ _ _)),near_kt rfl HB.out HI.out.sz Hk4.out _ _,HI4.out.stored (Hsn1.out.trans hv5) (Hsn2.out.trans hv6) Hall.out,near_below HB4.out _ _⟩
      ·rw [if_neg hp2] at hlB
       rw [hlB] at hterm Hsn1 Hsn2
       have hpe:(p == 2)=false:=by rw [beq_eq_false_iff_ne]; exact hp2
       have hw1:IntKind.i64.wrap (k * (ds.2.2:Int))=k * (ds.2.2:Int):=iw_ _ (by omega)
       have hw2:IntKind.i64.wrap (k * ((ds.2.2:Int) + 1))=k * ((ds.2.2:Int) + 1):=iw_ _ (by omega)
       clear hlB
       generalize (ds.2.2:Int)=A at *
       obtain ⟨lo,hlo⟩:∃ lo,lowT (pre.map Subtype.val)=lo:=⟨_,rfl⟩
       obtain ⟨hi,hhi⟩:∃ hi,highT (pre.map Subtype.val)=hi:=⟨_,rfl⟩
       rw [hlo] at hso Hsn1
       rw [hhi] at hso Hsn2
       have Hlo:=hd_ hlo
       have Hhi:=hd_ hhi
       clear hlo hhi
       have hw3:IntKind.i64.wrap (lo + min (k * A) (k * (A + 1)))=lo + min (k * A) (k * (A + 1)):=iw_ _ (by omega)
       have hw4':IntKind.i64.wrap (hi + max (k * A) (k * (A + 1)))=hi + max (k * A) (k * (A + 1)):=iw_ _ (by omega)
       have Hterm:=hd_ hterm
       have Hso:=hd_ hso
       gi_wp2_with fail
       refine ⟨trivial,?_⟩
       refine (CallsIn.inRound l (callsIn_wide.2 hsm)).mono ?_
       rintro e w2 ⟨rfl,hb2⟩
       have HI2:=hd_ (HI.out.below hb2)
       have HB2:=hd_ (HB.out.trans (hb2.mono HB.out.size))
       have Hk2:=hd_ (hb2)
       have hc3:=HI2.out.c3
       have hc4:=HI2.out.c4
       have hc5:=HI2.out.c5
       have hc6:=HI2.out.c6
       have hf4:=HI2.out.f4
       have hf5:=HI2.out.f5
       have hf6:=HI2.out.f6
       clear hsm hb2
       gi_wp2_with fail
       refine ⟨trivial,?_⟩
       refine (CallsIn.inRound l (callsIn_wide.2 (hfa2 w2))).mono ?_
       rintro e w3 ⟨rfl,hb3⟩
       have HI3:=hd_ (HI2.out.below hb3)
       have HB3:=hd_ (HB2.out.trans (hb3.mono HB2.out.size))
       have Hk3:=hd_ (Hk2.out.trans (hb3.mono Hk2.out.size))
       have hc3:=HI3.out.c3
       have hc4:=HI3.out.c4
       have hc5:=HI3.out.c5
       have hc6:=HI3.out.c6
       have hf4:=HI3.out.f4
       have hf5:=HI3.out.f5
       have hf6:=HI3.out.f6
       clear hfa2 hb3
       gi_wp2_with fail
       have q0:=@CellW.h
       have q9:Nonempty (CellW ⟨w.heap.size + 1 + 1,0,none⟩ (.int .i64 lo)):=⟨⟨w3,by rw [HI3.out.c4,Hlo.out]⟩⟩
       have q8:Nonempty (CellW ⟨w.heap.size + 1 + 1 + 1,0,none⟩ (.int .i64 hi)):=⟨⟨w3,by rw [HI3.out.c5,Hhi.out]⟩⟩
       refine wpIn_region_readers2 [(20,0),(1,1),(1,2),(1,3),(1,4),(1,5),(1,6),(1,7),(1,8),(21,9),(1,10),(1,11),(1,12),(1,13),(1,14),(1,15),(1,16),(1,17),(0,18),(0,19)]
        [(18,fun w'=>∃ p:CellW ⟨w.heap.size + 1 + 1,0,none⟩ (.int .i64 lo),w'=p.w),(19,fun w'=>∃ p:CellW ⟨w.heap.size + 1 + 1 + 1,0,none⟩ (.int .i64 hi),w'=p.w)]
        (by kernel_rfl) (by kernel_rfl) ⟨.inr ⟨⟨{ w3 with drawn:=w3.drawn + 1 },HI3.out.c4.trans (by rw [Hlo.out])⟩,rfl⟩,.inr ⟨⟨{ w3 with drawn:=w3.drawn + 1 },HI3.out.c5.trans (by rw [Hhi.out])⟩,rfl⟩,trivial⟩ ?_
       refine walkR2_read (s:=18) _ (List.mem_cons_self ..) rfl ?_
       simp only [dz_,tsc_,tz_]
       go_big_quiet_step (fail)
       refine wpQuiet_nil ?_
       iterate 8 (refine walkR2_any ?_; simp only [dsc_,dz_,tsc_,tz_]; go_big_quiet_step (fail); refine wpQuiet_nil ?_)
       refine walkR2_read (s:=19) _ (List.mem_cons_of_mem _ (List.mem_cons_self ..)) rfl ?_
       simp only [dsc_,dz_,tsc_,tz_]
       go_big_quiet_step (fail)
       refine wpQuiet_nil ?_
       iterate 8 (refine walkR2_any ?_; simp only [dsc_,dz_,tsc_,tz_]; go_big_quiet_step (fail); refine wpQuiet_nil ?_)
       clear q0 q8 q9
       obtain ⟨w4,hw4⟩:∃ w4:World,{ heap:=w3.heap,tape:=w3.tape,drawn:=w3.drawn + 1,os:=w3.os,output:=w3.output }=w4:=⟨_,rfl⟩
       rw [hw4]
       have HI4:Hid (NearI w.heap.size most (pre.map Subtype.val) w4):=by rw [← hw4]; exact HI3.out.below ⟨rfl,rfl,rfl,Nat.le_refl _,fun _ _=>rfl⟩
       have HB4:Hid (Below w.heap.size w w4):=by rw [← hw4]; exact HB3.out.trans ⟨rfl,rfl,rfl,Nat.le_refl _,fun _ _=>rfl⟩
       have Hk4:Hid (Below W.heap.size W w4):=by rw [← hw4]; exact Hk3.out.trans ⟨rfl,rfl,rfl,Nat.le_refl _,fun _ _=>rfl⟩
       clear hw4 hc3 hc4 hc5 hc6 hf4 hf5 hf6
       have hc4:=HI4.out.c4
       have hc5:=HI4.out.c5
       have hf4:=HI4.out.f4
       have hf5:=HI4.out.f5
       refine walkR2_move ?_
       simp only [dsc_,dz_,tsc_,tz_]
       go_wp2_with fail
       obtain ⟨v5,hv5⟩:∃ v5:Int,lo + min (k * A) (k * (A + 1))=v5:=⟨_,rfl⟩
       obtain ⟨v6,hv6⟩:∃ v6:Int,hi + max (k * A) (k * (A + 1))=v6:=⟨_,rfl⟩
       rw [hv5]
       rw [hv6]
       have hc52:(w4.setCell ⟨w.heap.size + 1 + 1,0,none⟩ (.int .i64 v5)).cell? ⟨w.heap.size + 1 + 1 + 1,0,none⟩=some (.int .i64 hi):=by
        rw [World.cell?_setCell_other _ _ _ _ (by simp),HI4.out.c5,Hhi.out]
       have hf52:(w4.setCell ⟨w.heap.size + 1 + 1,0,none⟩ (.int .i64 v5)).frozen? ⟨w.heap.size + 1 + 1 + 1,0,none⟩=false:=by rw [World.frozen?_setCell]; exact HI4.out.f5
       refine ⟨⟨.inl rfl,.inr ⟨⟨w4.setCell ⟨w.heap.size + 1 + 1,0,none⟩ (.int .i64 v5),hc52⟩,rfl⟩,trivial⟩,?_⟩
       clear hc4 hc5 hf4 hf5
       refine walkR2_move ?_
       simp only [dsc_,dz_,tsc_,tz_]
       go_wp2_with fail
       refine ⟨⟨.inl rfl,.inl rfl,trivial⟩,?_⟩
       simp only [walkR2]
       exact ⟨(keeps_of_below Hk4.out).trans ((KeepsOthers.setCell _ _ _).trans (KeepsOthers.setCell _ _ _)),near_kt rfl HB.out HI.out.sz Hk4.out _ _,HI4.out.stored (Hsn1.out.trans hv5) (Hsn2.out.trans hv6) Hall.out,near_below HB4.out _ _⟩
     ·have Hbad:Hid (∃ x∈tl,¬ okT most x):=⟨(p,k),Hmem.out,fun h=>hd h.2⟩
      have hfv:fastV p.toNat = .tuple #[.int .i64 0,.bool false]:=by
       unfold fastV
       cases hq:digs p.toNat 62 26 with
       | none=>rfl
       | some s=>rw [hq] at hd; exact absurd rfl hd
      rw [hfv] at hfa2
      have hk1':¬ most < k:=by omega
      have hk2':¬ k < -most:=by omega
      clear hd hfv hfa
      gi_wp2_with fail
      refine ⟨trivial,?_⟩
      refine (CallsIn.inRound l (callsIn_wide.2 hsm)).mono ?_
      rintro e w2 ⟨rfl,hb2⟩
      have HI2:=hd_ (HI.out.below hb2)
      have HB2:=hd_ (HB.out.trans (hb2.mono HB.out.size))
      have Hk2:=hd_ (hb2)
      have hc3:=HI2.out.c3
      have hc4:=HI2.out.c4
      have hc5:=HI2.out.c5
      have hc6:=HI2.out.c6
      have hf4:=HI2.out.f4
      have hf5:=HI2.out.f5
      have hf6:=HI2.out.f6
      clear hsm hb2
      gi_wp2_with fail
      refine ⟨trivial,?_⟩
      refine (CallsIn.inRound l (callsIn_wide.2 (hfa2 w2))).mono ?_
      rintro e w3 ⟨rfl,hb3⟩
      have HI3:=hd_ (HI2.out.below hb3)
      have HB3:=hd_ (HB2.out.trans (hb3.mono HB2.out.size))
      have Hk3:=hd_ (Hk2.out.trans (hb3.mono Hk2.out.size))
      have hc3:=HI3.out.c3
      have hc4:=HI3.out.c4
      have hc5:=HI3.out.c5
      have hc6:=HI3.out.c6
      have hf4:=HI3.out.f4
      have hf5:=HI3.out.f5
      have hf6:=HI3.out.f6
      clear hfa2 hb3
      gi_wp2
      exact ⟨(keeps_of_below Hk3.out).trans (((KeepsOthers.setCell _ _ _).trans (KeepsOthers.setCell _ _ _)).trans (KeepsOthers.setCell _ _ _)),⟨rfl,Hbad.out,HI3.out.quits⟩,
       ((HB3.out.setCell (p:=⟨w.heap.size + 1 + 1,0,none⟩) (by simp; omega) _).setCell (p:=⟨w.heap.size + 1 + 1 + 1,0,none⟩) (by simp; omega) _).setCell (p:=⟨w.heap.size + 1 + 1 + 1 + 1,0,none⟩) (by simp; omega) _⟩
    ·have Hbad:Hid (∃ x∈tl,¬ okT most x):=⟨(p,k),Hmem.out,fun h=>hk2 h.1.1⟩
     have hk1':¬ most < k:=by omega
     have hk2':k < -most:=by omega
     clear hfa
     gi_wp2_with fail
     refine ⟨trivial,?_⟩
     refine (CallsIn.inRound l (callsIn_wide.2 hsm)).mono ?_
     rintro e w2 ⟨rfl,hb2⟩
     have HI2:=hd_ (HI.out.below hb2)
     have HB2:=hd_ (HB.out.trans (hb2.mono HB.out.size))
     have Hk2:=hd_ (hb2)
     have hc3:=HI2.out.c3
     have hc4:=HI2.out.c4
     have hc5:=HI2.out.c5
     have hc6:=HI2.out.c6
     have hf4:=HI2.out.f4
     have hf5:=HI2.out.f5
     have hf6:=HI2.out.f6
     clear hsm hb2
     gi_wp2
     exact ⟨(keeps_of_below Hk2.out).trans (((KeepsOthers.setCell _ _ _).trans (KeepsOthers.setCell _ _ _)).trans (KeepsOthers.setCell _ _ _)),⟨rfl,Hbad.out,HI2.out.quits⟩,
      ((HB2.out.setCell (p:=⟨w.heap.size + 1 + 1,0,none⟩) (by simp; omega) _).setCell (p:=⟨w.heap.size + 1 + 1 + 1,0,none⟩) (by simp; omega) _).setCell (p:=⟨w.heap.size + 1 + 1 + 1 + 1,0,none⟩) (by simp; omega) _⟩
   ·have Hbad:Hid (∃ x∈tl,¬ okT most x):=⟨(p,k),Hmem.out,fun h=>hk1 h.1.2⟩
    have hk1':most < k:=by omega
    clear hfa
    gi_wp2_with fail
    refine ⟨trivial,?_⟩
    refine (CallsIn.inRound l (callsIn_wide.2 hsm)).mono ?_
    rintro e w2 ⟨rfl,hb2⟩
    have HI2:=hd_ (HI.out.below hb2)
    have HB2:=hd_ (HB.out.trans (hb2.mono HB.out.size))
    have Hk2:=hd_ (hb2)
    have hc3:=HI2.out.c3
    have hc4:=HI2.out.c4
    have hc5:=HI2.out.c5
    have hc6:=HI2.out.c6
    have hf4:=HI2.out.f4
    have hf5:=HI2.out.f5
    have hf6:=HI2.out.f6
    clear hsm hb2
    gi_wp2
    exact ⟨(keeps_of_below Hk2.out).trans (((KeepsOthers.setCell _ _ _).trans (KeepsOthers.setCell _ _ _)).trans (KeepsOthers.setCell _ _ _)),⟨rfl,Hbad.out,HI2.out.quits⟩,
     ((HB2.out.setCell (p:=⟨w.heap.size + 1 + 1,0,none⟩) (by simp; omega) _).setCell (p:=⟨w.heap.size + 1 + 1 + 1,0,none⟩) (by simp; omega) _).setCell (p:=⟨w.heap.size + 1 + 1 + 1 + 1,0,none⟩) (by simp; omega) _⟩
  ·rw [if_neg hk64] at hsm
   have Hbad:Hid (∃ x∈tl,¬ okT most x):=⟨(p,k),Hmem.out,fun h=>hk64 ⟨by have:=h.1.1; simp only at this; omega,by have:=h.1.2; simp only at this; omega⟩⟩
   clear hfa
   gi_wp2_with fail
   refine ⟨trivial,?_⟩
   refine (CallsIn.inRound l (callsIn_wide.2 hsm)).mono ?_
   rintro e w2 ⟨rfl,hb2⟩
   have HI2:=hd_ (HI.out.below hb2)
   have HB2:=hd_ (HB.out.trans (hb2.mono HB.out.size))
   have Hk2:=hd_ (hb2)
   have hc3:=HI2.out.c3
   have hc4:=HI2.out.c4
   have hc5:=HI2.out.c5
   have hc6:=HI2.out.c6
   have hf4:=HI2.out.f4
   have hf5:=HI2.out.f5
   have hf6:=HI2.out.f6
   clear hsm hb2
   gi_wp2
   exact ⟨(keeps_of_below Hk2.out).trans (((KeepsOthers.setCell _ _ _).trans (KeepsOthers.setCell _ _ _)).trans (KeepsOthers.setCell _ _ _)),⟨rfl,Hbad.out,HI2.out.quits⟩,
    ((HB2.out.setCell (p:=⟨w.heap.size + 1 + 1,0,none⟩) (by simp; omega) _).setCell (p:=⟨w.heap.size + 1 + 1 + 1,0,none⟩) (by simp; omega) _).setCell (p:=⟨w.heap.size + 1 + 1 + 1 + 1,0,none⟩) (by simp; omega) _⟩
 case done =>
  rintro D' ys W hD rfl ⟨hI,hB⟩ hK
  rw [List.attach_map_subtype_val] at hI
  have hv:nearV most tl = .tuple #[.int .i64 (lowT tl),.int .i64 (highT tl),.bool true]:=by unfold nearV; rw [if_pos hI.ok]
  have Hv:=hd_ hv
  have HI:=hd_ hI
  have HB:=hd_ hB
  have HK:=hd_ hK
  have hc4:=HI.out.c4
  have hc5:=HI.out.c5
  have hc6:=HI.out.c6
  have hf4:=HI.out.f4
  have hf5:=HI.out.f5
  have hf6:=HI.out.f6
  clear hv hI hB hK hr1 hr2 hI1 hB1 hB5 Hsz Hfa
  generalize lowT tl=lo at *
  generalize highT tl=hi at *
  gi_wp2_with fail
  gi_region
  gi_wp2
  clear hc4 hc5 hc6 hf4 hf5 hf6
  have e4:(((W.setCell { block:=w.heap.size + 1 + 1,off:=0 } (Value.int IntKind.i64 lo)).setCell { block:=w.heap.size + 1 + 1 + 1,off:=0 } (Value.int IntKind.i64 hi)).setCell { block:=w.heap.size + 1 + 1 + 1 + 1,off:=0 } (Value.bool true)).drew.cell? ⟨w.heap.size + 1 + 1,0,none⟩=some (.int .i64 lo):=by
   show World.cell? (((W.setCell { block:=w.heap.size + 1 + 1,off:=0 } (Value.int IntKind.i64 lo)).setCell { block:=w.heap.size + 1 + 1 + 1,off:=0 } (Value.int IntKind.i64 hi)).setCell { block:=w.heap.size + 1 + 1 + 1 + 1,off:=0 } (Value.bool true)) _=_
   rw [World.cell?_setCell_other _ _ _ _ (by simp),World.cell?_setCell_other _ _ _ _ (by simp),World.cell?_setCell_same _ _ _ HI.out.c4]
  have e5:(((W.setCell { block:=w.heap.size + 1 + 1,off:=0 } (Value.int IntKind.i64 lo)).setCell { block:=w.heap.size + 1 + 1 + 1,off:=0 } (Value.int IntKind.i64 hi)).setCell { block:=w.heap.size + 1 + 1 + 1 + 1,off:=0 } (Value.bool true)).drew.cell? ⟨w.heap.size + 1 + 1 + 1,0,none⟩=some (.int .i64 hi):=by
   show World.cell? (((W.setCell { block:=w.heap.size + 1 + 1,off:=0 } (Value.int IntKind.i64 lo)).setCell { block:=w.heap.size + 1 + 1 + 1,off:=0 } (Value.int IntKind.i64 hi)).setCell { block:=w.heap.size + 1 + 1 + 1 + 1,off:=0 } (Value.bool true)) _=_
   rw [World.cell?_setCell_other _ _ _ _ (by simp),World.cell?_setCell_same _ _ _ (by rw [World.cell?_setCell_other _ _ _ _ (by simp)]; exact HI.out.c5)]
  have e6:(((W.setCell { block:=w.heap.size + 1 + 1,off:=0 } (Value.int IntKind.i64 lo)).setCell { block:=w.heap.size + 1 + 1 + 1,off:=0 } (Value.int IntKind.i64 hi)).setCell { block:=w.heap.size + 1 + 1 + 1 + 1,off:=0 } (Value.bool true)).drew.cell? ⟨w.heap.size + 1 + 1 + 1 + 1,0,none⟩=some (.bool true):=by
   show World.cell? (((W.setCell { block:=w.heap.size + 1 + 1,off:=0 } (Value.int IntKind.i64 lo)).setCell { block:=w.heap.size + 1 + 1 + 1,off:=0 } (Value.int IntKind.i64 hi)).setCell { block:=w.heap.size + 1 + 1 + 1 + 1,off:=0 } (Value.bool true)) _=_
   rw [World.cell?_setCell_same _ _ _ (by rw [World.cell?_setCell_other _ _ _ _ (by simp),World.cell?_setCell_other _ _ _ _ (by simp)]; exact HI.out.c6)]
  have hk9:=(((KeepsOthers.setCell W ⟨w.heap.size + 1 + 1,0,none⟩ (.int .i64 lo)).trans (KeepsOthers.setCell _ ⟨w.heap.size + 1 + 1 + 1,0,none⟩ (.int .i64 hi))).trans (KeepsOthers.setCell _ ⟨w.heap.size + 1 + 1 + 1 + 1,0,none⟩ (.bool true))).trans (KeepsOthers.drew _)
  have hK9:=hk9.same D' _ HK.out rfl
  have hb9:=(((HB.out.setCell (p:=⟨w.heap.size + 1 + 1,0,none⟩) (by show _≤w.heap.size + 1 + 1; omega) (.int .i64 lo)).setCell (p:=⟨w.heap.size + 1 + 1 + 1,0,none⟩) (by show _≤w.heap.size + 1 + 1 + 1; omega) (.int .i64 hi)).setCell (p:=⟨w.heap.size + 1 + 1 + 1 + 1,0,none⟩) (by show _≤w.heap.size + 1 + 1 + 1 + 1; omega) (.bool true)).drew
  generalize (((W.setCell { block:=w.heap.size + 1 + 1,off:=0 } (Value.int IntKind.i64 lo)).setCell { block:=w.heap.size + 1 + 1 + 1,off:=0 } (Value.int IntKind.i64 hi)).setCell { block:=w.heap.size + 1 + 1 + 1 + 1,off:=0 } (Value.bool true)).drew=w9 at *
  have g4:=cell_kept e4 (grownBy_putObj' _ D' (.deferred none)) (fun r e=>by cases e; exact ⟨_,hK9,rfl⟩)
  have g5:=cell_kept e5 (grownBy_putObj' _ D' (.deferred none)) (fun r e=>by cases e; exact ⟨_,hK9,rfl⟩)
  have g6:=cell_kept e6 (grownBy_putObj' _ D' (.deferred none)) (fun r e=>by cases e; exact ⟨_,hK9,rfl⟩)
  refine ⟨by simp,.inl ⟨_,_,rfl,run_takeDeferred hK9,?_⟩⟩
  refine ⟨.tuple #[.int .i64 lo,.int .i64 hi,.bool true],?_,by rw [Hv.out],hb9.trans (belowK_b (w:=w) nr_ w9 D' _ _ (by rw [hsz1] at hD; omega) hK9 rfl rfl)⟩
  simp [results,Tryz.results172,go_sem,g4,g5,g6]
 case stop =>
  rintro D' c pre W hD hSp ⟨⟨rfl,hbad,hX⟩,hB⟩ hK
  have hv:nearV most tl = .tuple #[.int .i64 0,.int .i64 0,.bool false]:=by
   unfold nearV
   rw [if_neg]
   intro h
   obtain ⟨x,hx,hn⟩:=hbad
   exact hn (h x hx)
  have g4:=cell_kept hX.c4 (grownBy_putObj' _ D' (.deferred none)) (fun r e=>by cases e; exact ⟨_,hK,rfl⟩)
  have g5:=cell_kept hX.c5 (grownBy_putObj' _ D' (.deferred none)) (fun r e=>by cases e; exact ⟨_,hK,rfl⟩)
  have g6:=cell_kept hX.c6 (grownBy_putObj' _ D' (.deferred none)) (fun r e=>by cases e; exact ⟨_,hK,rfl⟩)
  gi_wp2
  refine ⟨by simp,.inl ⟨_,_,rfl,run_takeDeferred hK,?_⟩⟩
  refine ⟨.tuple #[.int .i64 0,.int .i64 0,.bool false],?_,by rw [hv],hB.trans (belowK_b (w:=w) nr_ W D' _ _ (by rw [hsz1] at hD; omega) hK rfl rfl)⟩
  simp [results,Tryz.results172,go_sem,g4,g5,g6]
end Go.Proofs.YtkoicfghplmghaaGreatDoor

namespace Go.Proofs.YtkoicfghplmghaaGreatDoor
open Go.RowKit
structure TermsAt (w:World) (tl:List (Int×Int)) (b1:Option Addr) (b2:Option Addr):Prop where
 r1:Rd w b1 (ints (tl.map Prod.fst))
 r2:Rd w b2 (strs (tl.map fun x=>itx x.2))
 len:tl.length≤1000
 p:∀ x∈tl,2≤x.1∧x.1≤97
 z:∀ x∈tl,ZNum x.2
theorem TermsAt.below {w w':World} {tl:List (Int×Int)} {b1 b2:Option Addr} (h:TermsAt w tl b1 b2) (hb:Below w.heap.size w w'):TermsAt w' tl b1 b2 :=
 ⟨h.r1.below hb nr_,h.r2.below hb nr_,h.len,h.p,h.z⟩
def quickV (tl:List (Int×Int)):Int :=
 if ∀ x∈tl,okT 10000000 x then if 0≤lowT tl then 1 else if highT tl≤0 then -1 else 0 else 0
theorem quick_any (w:World) (b1 b2:Option Addr) (d1 d2 D:Nat) (tl:List (Int×Int)) (T:TermsAt w tl b1 b2) (L:Laid w) :
  Gives Tryz.prog 135 #[.agg (tcells b1 d1 b2 d2 tl.length D)] w (.int .i64 (quickV tl)):=by
 unfold Gives
 have Hb0:=hd_ ((Below.refl w.heap.size w).alloc nr_ (.cells (tcells b1 d1 b2 d2 tl.length D) 141))
 have hn:Gives Tryz.prog 172 #[.agg (tcells b1 d1 b2 d2 tl.length D),.int .i64 10000000] (w.alloc (.cells (tcells b1 d1 b2 d2 tl.length D) 141)) (nearV 10000000 tl):=by
  have T':=T.below Hb0.out
  exact near_any _ b1 b2 d1 d2 D tl 10000000 (by decide) (by decide) T'.len T'.r1 T'.r2 T'.p T'.z (L.below Hb0.out)
 have Hn:=hd_ hn
 clear T L hn
 by_cases hall:∀ x∈tl,okT 10000000 x
 ·have hv:nearV 10000000 tl = .tuple #[.int .i64 (lowT tl),.int .i64 (highT tl),.bool true]:=by unfold nearV; rw [if_pos hall]
  rw [hv] at Hn
  have Hq:Hid (quickV tl=if 0≤lowT tl then 1 else if highT tl≤0 then -1 else 0):=by show _=_; unfold quickV; rw [if_pos hall]
  clear hv hall
  generalize quickV tl=q at *
  generalize lowT tl=lo at *
  generalize highT tl=hi at *
  by_cases h1:0≤lo
  ·have Hqq:Hid (q=1):=by show _=_; rw [Hq.out,if_pos h1]
   go_enter Tryz.func135,Tryz.ntmps135
   go_wp2_with fail
   refine cm_ Hn.out ?_
   rintro e w1 ⟨rfl,hb1⟩
   have Hb1:=hd_ (Hb0.out.trans (hb1.mono Hb0.out.size))
   clear hb1 Hn
   go_wp2
   go_ret
   exact ⟨by rw [Hqq.out]; rfl,Hb1.out⟩
  ·by_cases h2:hi≤0
   ·have Hqq:Hid (q = -1):=by show _=_; rw [Hq.out,if_neg h1,if_pos h2]
    go_enter Tryz.func135,Tryz.ntmps135
    go_wp2_with fail
    refine cm_ Hn.out ?_
    rintro e w1 ⟨rfl,hb1⟩
    have Hb1:=hd_ (Hb0.out.trans (hb1.mono Hb0.out.size))
    clear hb1 Hn
    go_wp2
    go_ret
    exact ⟨by rw [Hqq.out]; rfl,Hb1.out⟩
   ·have Hqq:Hid (q=0):=by show _=_; rw [Hq.out,if_neg h1,if_neg h2]
    go_enter Tryz.func135,Tryz.ntmps135
    go_wp2_with fail
    refine cm_ Hn.out ?_
    rintro e w1 ⟨rfl,hb1⟩
    have Hb1:=hd_ (Hb0.out.trans (hb1.mono Hb0.out.size))
    clear hb1 Hn
    go_wp2
    go_ret
    exact ⟨by rw [Hqq.out]; rfl,Hb1.out⟩
 ·have hv:nearV 10000000 tl = .tuple #[.int .i64 0,.int .i64 0,.bool false]:=by unfold nearV; rw [if_neg hall]
  rw [hv] at Hn
  have Hq:Hid (quickV tl=0):=by show _=_; unfold quickV; rw [if_neg hall]
  clear hv hall
  go_enter Tryz.func135,Tryz.ntmps135
  go_wp2_with fail
  refine cm_ Hn.out ?_
  rintro e w1 ⟨rfl,hb1⟩
  have Hb1:=hd_ (Hb0.out.trans (hb1.mono Hb0.out.size))
  clear hb1 Hn
  go_wp2
  go_ret
  exact ⟨by rw [Hq.out]; rfl,Hb1.out⟩
theorem sign_quick (w:World) (b1 b2:Option Addr) (d1 d2 D:Nat) (tl:List (Int×Int)) (T:TermsAt w tl b1 b2) (L:Laid w) (hq:tl=[]∨quickV tl≠0) :
  Gives Tryz.prog 83 #[.agg (tcells b1 d1 b2 d2 tl.length D)] w (.int .i64 (if tl=[] then 0 else quickV tl)):=by
 unfold Gives
 by_cases h0:tl=[]
 ·subst h0
  rw [if_pos rfl]
  have Hb0:=hd_ ((Below.refl w.heap.size w).alloc nr_ (.cells (tcells b1 d1 b2 d2 0 D) 141))
  clear T L hq
  rw [show ([]:List (Int×Int)).length=0 from rfl]
  obtain ⟨m0,m1,m2,m3⟩:=obj_cells3 (heap_at w (tcells b1 d1 b2 d2 0 D) 141 w.heap.size rfl)
  clear m3
  go_enter Tryz.func83,Tryz.ntmps83
  go_wp2_with fail
  go_step3
  go_wp2_with fail
  rw [Exit.noGoto_ret]
  go_ret
  exact ⟨rfl,Hb0.out⟩
 ·rw [if_neg h0]
  have Hb0:=hd_ ((Below.refl w.heap.size w).alloc nr_ (.cells (tcells b1 d1 b2 d2 tl.length D) 141))
  have Hn:=hd_ (quick_any _ b1 b2 d1 d2 D tl (T.below Hb0.out) (L.below Hb0.out))
  have hq0:(quickV tl == 0)=false:=by rw [beq_eq_false_iff_ne]; exact hq.resolve_left h0
  have hl0:((tl.length:Int) == 0)=false:=by
   rw [beq_eq_false_iff_ne]
   intro h
   exact h0 (List.eq_nil_of_length_eq_zero (by omega))
  clear T L hq h0
  generalize quickV tl=q at *
  generalize tl.length=m at *
  obtain ⟨m0,m1,m2,m3⟩:=obj_cells3 (heap_at w (tcells b1 d1 b2 d2 m D) 141 w.heap.size rfl)
  clear m3
  go_enter Tryz.func83,Tryz.ntmps83
  go_wp2_with fail
  go_step3
  go_wp2_with fail
  refine cm_ Hn.out ?_
  rintro e w1 ⟨rfl,hb1⟩
  have Hb1:=hd_ (Hb0.out.trans (hb1.mono Hb0.out.size))
  clear hb1 Hn
  go_wp2_with fail
  rw [Exit.noGoto_ret]
  go_ret
  exact ⟨rfl,Hb1.out⟩
theorem downward_any (w:World) (a b:Int) (ha : -4000000000000000000≤a∧a≤4000000000000000000) (hb:0 < b) (hb2:b≤4000000000000000000) :
  Gives Tryz.prog 222 #[.int .i64 a,.int .i64 b] w (.int .i64 (a / b)):=by
 unfold Gives
 have hbz:(b == 0)=false:=by rw [beq_eq_false_iff_ne]; omega
 by_cases h:a < 0
 ·have hw1:IntKind.i64.wrap (-a) = -a:=iw_ _ (by omega)
  have hw2:IntKind.i64.wrap (-a + b) = -a + b:=iw_ _ (by omega)
  have hw3:IntKind.i64.wrap (-a + b - 1) = -a + b - 1:=iw_ _ (by omega)
  have e1:Int.tdiv (-a + b - 1) b=(-a + b - 1) / b:=Int.tdiv_eq_ediv_of_nonneg (by omega)
  have q1:0≤(-a + b - 1) / b:=Int.ediv_nonneg (by omega) (by omega)
  have q2:(-a + b - 1) / b ≤ -a + b - 1:=Int.ediv_le_self _ (by omega)
  have hw4:IntKind.i64.wrap ((-a + b - 1) / b)=(-a + b - 1) / b:=iw_ _ (by omega)
  have hw5:IntKind.i64.wrap (-((-a + b - 1) / b)) = -((-a + b - 1) / b):=iw_ _ (by omega)
  have Hv:Hid (a / b = -((-a + b - 1) / b)):=by
   show _=_
   have h1:=Int.emod_add_mul_ediv (-a + b - 1) b
   have h2:=Int.emod_nonneg (-a + b - 1) (show b≠0 by omega)
   have h3:=Int.emod_lt_of_pos (-a + b - 1) hb
   generalize (-a + b - 1) / b=q at *
   generalize (-a + b - 1) % b=r at *
   have e2:a=(b - 1 - r) + b * (-q):=by rw [Int.mul_neg]; omega
   rw [e2,Int.add_mul_ediv_left _ _ (show b≠0 by omega),Int.ediv_eq_zero_of_lt (by omega) (by omega)]
   omega
  generalize (-a + b - 1) / b=q at *
  go_enter Tryz.func222,Tryz.ntmps222
  go_wp2
  go_ret
  exact ⟨by rw [Hv.out]; rfl,Below.refl _ _⟩
 ·have e1:Int.tdiv a b=a / b:=Int.tdiv_eq_ediv_of_nonneg (by omega)
  have q1:0≤a / b:=Int.ediv_nonneg (by omega) (by omega)
  have q2:a / b≤a:=Int.ediv_le_self _ (by omega)
  have hw4:IntKind.i64.wrap (a / b)=a / b:=iw_ _ (by omega)
  generalize a / b=q at *
  go_enter Tryz.func222,Tryz.ntmps222
  go_wp2
  go_ret
  exact ⟨rfl,Below.refl _ _⟩
end Go.Proofs.YtkoicfghplmghaaGreatDoor

namespace Go.Proofs.YtkoicfghplmghaaGreatDoor
open Go.RowKit Go.Shelf
attribute [local go_sem] Oper.semAt_some
def lf (n:Nat):Int→Nat:=fun p=>lgN p n
structure EndI (B:Nat) (n:Int) (slo shi:ByteArray) (W:World):Prop where
 c3:W.cell? ⟨B + 1,0,none⟩=some (.int .i64 n)
 c4:W.cell? ⟨B + 1 + 1,0,none⟩=some (.string slo)
 c5:W.cell? ⟨B + 1 + 1 + 1,0,none⟩=some (.string shi)
 f4:W.frozen? ⟨B + 1 + 1,0,none⟩=false
 f5:W.frozen? ⟨B + 1 + 1 + 1,0,none⟩=false
 sz:B + 4 < W.heap.size
theorem EndI.below {B:Nat} {n:Int} {slo shi:ByteArray} {W W':World} (h:EndI B n slo shi W) (hb:Below W.heap.size W W'):EndI B n slo shi W' :=
 ⟨(hb.cell (block_lt_of_cell h.c3)).trans h.c3,(hb.cell (block_lt_of_cell h.c4)).trans h.c4,(hb.cell (block_lt_of_cell h.c5)).trans h.c5,
  (hb.frozen (block_lt_of_cell h.c4)).trans h.f4,(hb.frozen (block_lt_of_cell h.c5)).trans h.f5,Nat.lt_of_lt_of_le h.sz hb.size⟩
theorem EndI.kept {B:Nat} {n:Int} {slo shi:ByteArray} {W W':World} {row:Option Nat} (h:EndI B n slo shi W) (hg:W.grownBy W' row) (hr:∀ r,row=some r→∃ o:Obj,W.heap[r]?=some o∧o.isCells=false):EndI B n slo shi W' :=
 ⟨cell_kept h.c3 hg hr,cell_kept h.c4 hg hr,cell_kept h.c5 hg hr,(frozen_kept h.c4 hg hr).trans h.f4,(frozen_kept h.c5 hg hr).trans h.f5,Nat.lt_of_lt_of_le h.sz hg.size⟩
theorem EndI.stored {B:Nat} {n:Int} {slo shi:ByteArray} {W:World} (h:EndI B n slo shi W) (s t:ByteArray) :
  EndI B n s t ((W.setCell ⟨B + 1 + 1,0,none⟩ (.string s)).setCell ⟨B + 1 + 1 + 1,0,none⟩ (.string t)):=by
 refine ⟨?_,?_,?_,?_,?_,?_⟩
 ·rw [World.cell?_setCell_other _ _ _ _ (by simp),World.cell?_setCell_other _ _ _ _ (by simp)]; exact h.c3
 ·rw [World.cell?_setCell_other _ _ _ _ (by simp),World.cell?_setCell_same _ _ _ h.c4]
 ·rw [World.cell?_setCell_same _ _ _ (by rw [World.cell?_setCell_other _ _ _ _ (by simp)]; exact h.c5)]
 ·rw [World.frozen?_setCell,World.frozen?_setCell]; exact h.f4
 ·rw [World.frozen?_setCell,World.frozen?_setCell]; exact h.f5
 ·rw [World.size_setCell,World.size_setCell]; exact h.sz
theorem ends_kt {B:Nat} {W0 W W4:World} (hB:W0.heap.size=B) (hb:Below W0.heap.size W0 W) (hsz:B + 4 < W.heap.size) (h:Below W.heap.size W W4) (v5 v6:Value) :
  KT B (B + 4) W ((W4.setCell ⟨B + 1 + 1,0,none⟩ v5).setCell ⟨B + 1 + 1 + 1,0,none⟩ v6):=by
 subst hB
 refine ⟨((h.mono hb.size).setCell (p:=⟨W0.heap.size + 1 + 1,0,none⟩) (by show _≤W0.heap.size + 1 + 1; omega) _).setCell (p:=⟨W0.heap.size + 1 + 1 + 1,0,none⟩) (by show _≤W0.heap.size + 1 + 1 + 1; omega) _,?_⟩
 rw [obj_other (g:=W0.heap.size + 1 + 1 + 1) (k:=W0.heap.size + 4) (by omega),obj_other (g:=W0.heap.size + 1 + 1) (k:=W0.heap.size + 4) (by omega),h.block _ hsz]
theorem boxes4 (w:World) (o1:Obj) (v2 v3 v4:Value) (t2 t3 t4:TypeId) (W:World) (hW:(((w.alloc o1).alloc (.cells #[v2] t2)).alloc (.cells #[v3] t3)).alloc (.cells #[v4] t4)=W) :
  W.heap[w.heap.size + 1]?=some (.cells #[v2] t2 (0,0))∧W.heap[w.heap.size + 1 + 1]?=some (.cells #[v3] t3 (0,0))∧W.heap[w.heap.size + 1 + 1 + 1]?=some (.cells #[v4] t4 (0,0)):=by
 subst hW
 exact ⟨heap_old (heap_old (heap_at _ _ _ _ (by simp)) _) _,heap_old (heap_at _ _ _ _ (by simp)) _,heap_at _ _ _ _ (by simp)⟩
def PrT (tl:List (Int×Int)):Prop:=∀ x∈tl,∃ q:Nat,x.1=q∧(q=2∨q∈oddP)
theorem eLo_snoc (f:Int→Nat) (l:List (Int×Int)) (x:Int×Int):LN.eLo f (l ++ [x])=LN.eLo f l + (if x.2 < 0 then x.2 * (LN.hiL f x.1:Int) else x.2 * (f x.1:Int)):=by simp [LN.eLo]
theorem eHi_snoc (f:Int→Nat) (l:List (Int×Int)) (x:Int×Int):LN.eHi f (l ++ [x])=LN.eHi f l + (if x.2 < 0 then x.2 * (f x.1:Int) else x.2 * (LN.hiL f x.1:Int)):=by simp [LN.eHi]
theorem lf_lt {n:Nat} {p:Int} (hp:∃ q:Nat,p=q∧(q=2∨q∈oddP)) (hn:n≤1056):lf n p < 2 ^ (n + 3)∧LN.hiL (lf n) p < 2 ^ (n + 3):=by
 obtain ⟨q,rfl,hq⟩:=hp
 have h:=lgN_le hq hn
 have e:2 ^ (n + 3)=8 * 2 ^ n:=by rw [Nat.pow_add,Nat.mul_comm]
 have h1:=Nat.two_pow_pos n
 have h2:lf n q < 7 * 2 ^ n:=h
 refine ⟨by omega,?_⟩
 unfold LN.hiL
 split <;> omega
theorem abs_mul_lt {k:Int} {a E F:Nat} (hk:k.natAbs < 2 ^ E) (ha:a < 2 ^ F):(k * (a:Int)).natAbs < 2 ^ (E + F):=by
 rw [Int.natAbs_mul,Int.natAbs_natCast,Nat.pow_add]
 exact Nat.mul_lt_mul'' hk ha
theorem eSum_le {n E:Nat} (hn:n≤1056):∀ l:List (Int×Int),PrT l→(∀ x∈l,x.2.natAbs < 2 ^ E)→(LN.eLo (lf n) l).natAbs≤l.length * 2 ^ (E + (n + 3))∧(LN.eHi (lf n) l).natAbs≤l.length * 2 ^ (E + (n + 3))
 | [],_,_=>by simp [LN.eLo,LN.eHi]
 | x :: l,hp,hk=>by
  have ih:=eSum_le hn l (fun y hy=>hp y (List.mem_cons_of_mem _ hy)) (fun y hy=>hk y (List.mem_cons_of_mem _ hy))
  obtain ⟨h1,h2⟩:=lf_lt (hp x List.mem_cons_self) hn
  have hx:=hk x List.mem_cons_self
  have a1:=abs_mul_lt hx h1
  have a2:=abs_mul_lt hx h2
  have e1:LN.eLo (lf n) (x :: l)=(if x.2 < 0 then x.2 * (LN.hiL (lf n) x.1:Int) else x.2 * (lf n x.1:Int)) + LN.eLo (lf n) l:=by simp [LN.eLo]
  have e2:LN.eHi (lf n) (x :: l)=(if x.2 < 0 then x.2 * (lf n x.1:Int) else x.2 * (LN.hiL (lf n) x.1:Int)) + LN.eHi (lf n) l:=by simp [LN.eHi]
  rw [e1,e2,List.length_cons,Nat.add_mul,Nat.one_mul]
  generalize 2 ^ (E + (n + 3))=T at *
  generalize l.length * T=S at *
  constructor
  ·refine Nat.le_trans (Int.natAbs_add_le _ _) ?_
   split <;> omega
  ·refine Nat.le_trans (Int.natAbs_add_le _ _) ?_
   split <;> omega
theorem eSum_num {n E:Nat} (hn:n≤1056) (l:List (Int×Int)) (hl:l.length≤1000) (hp:PrT l) (hk:∀ x∈l,x.2.natAbs < 2 ^ E) :
  (LN.eLo (lf n) l).natAbs < 2 ^ (E + (n + 3) + 10)∧(LN.eHi (lf n) l).natAbs < 2 ^ (E + (n + 3) + 10):=by
 obtain ⟨h1,h2⟩:=eSum_le hn l hp hk
 have h3:l.length * 2 ^ (E + (n + 3))≤1000 * 2 ^ (E + (n + 3)):=Nat.mul_le_mul_right _ hl
 have e:2 ^ (E + (n + 3) + 10)=1024 * 2 ^ (E + (n + 3)):=by rw [Nat.pow_add _ _ 10,Nat.mul_comm]
 have h4:=Nat.two_pow_pos (E + (n + 3))
 rw [e]
 constructor <;> omega
theorem EndI.cast {B:Nat} {n:Int} {s s' t t':ByteArray} {W:World} (h:EndI B n s t W) (e1:s'=s) (e2:t'=t):EndI B n s' t' W:=by subst e1; subst e2; exact h
theorem addZ (w:World) (a b:Int) (K:Nat) (hK:K < 90000) (ha:a.natAbs < 2 ^ K) (hb:b.natAbs < 2 ^ K) (L:Laid w):Gives Tryz.prog 159 #[.string (itx a),.string (itx b)] w (.string (itx (a + b))) :=
 addz_any w a b (num_two ha (by omega)) (num_two hb (by omega)) (num_two (K:=K + 1) (by rw [Nat.pow_succ]; omega) (by omega)) L
theorem mulZ (w:World) (a b:Int) (K M:Nat) (hK:K + M < 90000) (ha:a.natAbs < 2 ^ K) (hb:b.natAbs < 2 ^ M) (L:Laid w):Gives Tryz.prog 134 #[.string (itx a),.string (itx b)] w (.string (itx (a * b))) :=
 mulz_any w a b (num_two ha (by omega)) (num_two hb (by omega)) (num_two (K:=K + M) (by rw [Int.natAbs_mul,Nat.pow_add]; exact Nat.mul_lt_mul'' ha hb) (by omega)) L
def endsAct (w:World) (b1 b2:Option Addr) (d1 d2 D m:Nat) (n:Int) (p:Int) (k:ByteArray):Act:={ tmps := #[.agg (tcells b1 d1 b2 d2 m D),.int .i64 n,.pointer (some ⟨w.heap.size,0,none⟩),.pointer (some ⟨w.heap.size + 1,0,none⟩),.pointer (some ⟨w.heap.size + 1 + 1,0,none⟩),.pointer (some ⟨w.heap.size + 1 + 1 + 1,0,none⟩),.int .i64 p,.string k,undef,undef,.agg #[.slice b1 m d1,.slice b2 m d2,.string (dec D)],.func (.func 211) #[] #[.pointer (some ⟨w.heap.size + 1 + 1 + 1 + 1,0,none⟩)],.int .i64 p,.string k,undef,undef,undef,undef,undef,undef,undef,undef,undef,undef,undef,undef,undef,undef,undef,undef,undef,undef,undef,undef,undef,undef,undef,undef,undef,undef,undef],defers:=[] }
theorem ends_any (w:World) (b1 b2:Option Addr) (d1 d2 D n E:Nat) (tl:List (Int×Int)) (T:TermsAt w tl b1 b2) (hP:PrT tl) (hE:E≤20000) (hK:∀ x∈tl,x.2.natAbs < 2 ^ E) (hn:n≤1056) (L:Laid w) :
  Gives Tryz.prog 136 #[.agg (tcells b1 d1 b2 d2 tl.length D),.int .i64 n] w (.tuple #[.string (itx (LN.eLo (lf n) tl)),.string (itx (LN.eHi (lf n) tl))]):=by
 unfold Gives
 have hr1:=T.r1
 have hr2:=T.r2
 have hl:=T.len
 refine (callsIn_wide (n:=3)).1 ?_
 refine callsIn_of_wp_marks Tryz.func136 rfl trivial ?_ rfl
 simp only [Tryz.ntmps136,List.size_toArray,List.length_cons,List.length_nil,Nat.reduceAdd,Nat.reduceSub,Array.replicate_succ,Array.replicate_zero,List.push_toArray,List.append_toArray,List.nil_append,List.cons_append]
 have HT:=hd_ T
 have HL:=hd_ L
 have Hn:=hd_ hn
 have HE:=hd_ hE
 have HP:=hd_ hP
 have HK:=hd_ hK
 have H0:Hid (itx 0=⟨#[48]⟩):=by show _=_; rw [show (0:Int)=((0:Nat):Int) from rfl,itx_nat,dec_zero]
 clear L T hn hE hK hP
 gi_wp2_with fail
 obtain ⟨w0,hw0⟩:∃ w0,(((w.alloc (Obj.cells (tcells b1 d1 b2 d2 tl.length D) 141)).alloc (Obj.cells #[Value.int IntKind.i64 n] 3)).alloc (Obj.cells #[Value.string ⟨#[48]⟩] 56)).alloc (Obj.cells #[Value.string ⟨#[48]⟩] 56)=w0:=⟨_,rfl⟩
 have hsz0:w0.heap.size=w.heap.size + 4:=by rw [← hw0]; simp
 have hB0:Below w.heap.size w w0:=by rw [← hw0]; exact ((((Below.refl _ w).alloc nr_ _).alloc (by simp) _).alloc (by simp; omega) _).alloc (by simp; omega) _
 have hbox:=boxes4 w _ _ _ _ _ _ _ w0 hw0
 rw [hw0]
 refine ⟨trivial,?_⟩
 refine (callsIn_wide.2 (all_any w0 b1 b2 d1 d2 tl.length D)).mono ?_
 rintro e w' ⟨rfl,rfl⟩
 rw [hsz0]
 have hB5:(w0.alloc (.cells (tcells b1 d1 b2 d2 tl.length D) 141)).heap[w.heap.size + 4]?=some (.cells (tcells b1 d1 b2 d2 tl.length D) 141 (0,0)):=by
  rw [← hsz0]; exact Go.heap_alloc_new w0 _
 have hB1:Below w.heap.size w (w0.alloc (.cells (tcells b1 d1 b2 d2 tl.length D) 141)):=hB0.alloc (by omega) _
 have hsz1:(w0.alloc (.cells (tcells b1 d1 b2 d2 tl.length D) 141)).heap.size=w.heap.size + 5:=by rw [World.size_alloc,hsz0]
 have hI1:EndI w.heap.size n (itx (LN.eLo (lf n) [])) (itx (LN.eHi (lf n) [])) (w0.alloc (.cells (tcells b1 d1 b2 d2 tl.length D) 141)):=by
  obtain ⟨h1,h2,h3⟩:=hbox
  have h1:=heap_old h1 (.cells (tcells b1 d1 b2 d2 tl.length D) 141)
  have h2:=heap_old h2 (.cells (tcells b1 d1 b2 d2 tl.length D) 141)
  have h3:=heap_old h3 (.cells (tcells b1 d1 b2 d2 tl.length D) 141)
  have e1:itx (LN.eLo (lf n) [])=⟨#[48]⟩:=H0.out
  have e2:itx (LN.eHi (lf n) [])=⟨#[48]⟩:=H0.out
  rw [e1,e2]
  exact ⟨(one_cell h1).1,(one_cell h2).1,(one_cell h3).1,(one_cell h2).2,(one_cell h3).2,by rw [hsz1]; omega⟩
 clear hB0 hw0 hbox H0
 generalize w0.alloc (.cells (tcells b1 d1 b2 d2 tl.length D) 141)=w1 at *
 gi_wp2_with fail
 refine wpIn_rangeFunc_ownF rfl (by decide) (gf:=211) (lb := #[.pointer (some ⟨w.heap.size + 4,0,none⟩)]) rfl trivial (enters_of Tryz.func211 (by kernel_rfl) rfl)
  (all_stops 2 (by decide) w w1 hB1 (w.heap.size + 4) b1 b2 d1 d2 D tl hl hB5 hr1 hr2) kt_t (kt_b (by rw [hsz1]; omega) (by rw [hsz1]; omega)) (Below.refl _ _) (fun _=>rfl)
  (fun pre W=>EndI w.heap.size n (itx (LN.eLo (lf n) (pre.map Subtype.val))) (itx (LN.eHi (lf n) (pre.map Subtype.val))) W∧Below w.heap.size w W)
  (fun _ _ W=>False∧Below w.heap.size w W)
  (OwnFrom.and (Own.from (fun s A B row hs hg hr=>hs.kept hg hr) _) (ownFrom_below nr_ (by rw [hsz1]; omega)))
  (fun c=>OwnFrom.and (Own.from (fun s A B row hs hg hr=>hs.elim) _) (ownFrom_below nr_ (by rw [hsz1]; omega)))
  ⟨hI1,hB1⟩
  (fun x=>endsAct w b1 b2 d1 d2 D tl.length n x.1.1 (itx x.1.2)) ?assign ?body ?done ?stop
 case assign =>
  intro l x W K hK
  unfold endsAct at hK
  gi_wp2
  exact hK
 case body =>
  rintro l pre ⟨⟨p,k⟩,hmem⟩ W0 ⟨hI,hB⟩ hlen
  have HI:=hd_ hI
  have HB:=hd_ hB
  have hpp:=HP.out _ hmem
  have hkk:=HK.out _ hmem
  simp only at hpp hkk
  have hn:=Hn.out
  have hE:=HE.out
  obtain ⟨g1,g2⟩:=lf_lt hpp hn
  have hsub:∀ x∈pre.map Subtype.val,x∈tl:=fun x hx=>by
   obtain ⟨y,_,rfl⟩:=List.mem_map.1 hx
   exact y.2
  have hpl:(pre.map Subtype.val).length≤1000:=by rw [List.length_map]; omega
  obtain ⟨s1,s2⟩:=eSum_num hn (pre.map Subtype.val) hpl (fun x hx=>HP.out x (hsub x hx)) (fun x hx=>HK.out x (hsub x hx))
  have e1:LN.eLo (lf n) ((pre ++ [(⟨(p,k),hmem⟩:{x // x∈tl})]).map Subtype.val)=LN.eLo (lf n) (pre.map Subtype.val) + (if k < 0 then (LN.hiL (lf n) p:Int) * k else (lf n p:Int) * k):=by
   rw [List.map_append]
   have:=eLo_snoc (lf n) (pre.map Subtype.val) (p,k)
   simp only at this
   rw [Int.mul_comm k,Int.mul_comm k] at this
   exact this
  have e2:LN.eHi (lf n) ((pre ++ [(⟨(p,k),hmem⟩:{x // x∈tl})]).map Subtype.val)=LN.eHi (lf n) (pre.map Subtype.val) + (if k < 0 then (lf n p:Int) * k else (LN.hiL (lf n) p:Int) * k):=by
   rw [List.map_append]
   have:=eHi_snoc (lf n) (pre.map Subtype.val) (p,k)
   simp only at this
   rw [Int.mul_comm k,Int.mul_comm k] at this
   exact this
  have Hlog:Hid (∀ W,Below w.heap.size w W→Gives Tryz.prog 174 #[.int .i64 p,.int .i64 n] W (.string (dec (lf n p)))):=fun W hW=>by
   obtain ⟨q,rfl,hq⟩:=hpp
   exact log_any W q n hq hn (HL.out.below hW)
  have Hm1:Hid (∀ W,Below w.heap.size w W→Gives Tryz.prog 134 #[.string (dec (lf n p)),.string (itx k)] W (.string (itx ((lf n p:Int) * k)))):=fun W hW=>by
   have:=mulZ W (lf n p:Int) k (n + 3) E (by omega) (by rw [Int.natAbs_natCast]; exact g1) hkk (HL.out.below hW)
   rw [itx_nat] at this; exact this
  have Hm2:Hid (∀ W,Below w.heap.size w W→Gives Tryz.prog 134 #[.string (dec (LN.hiL (lf n) p)),.string (itx k)] W (.string (itx ((LN.hiL (lf n) p:Int) * k)))):=fun W hW=>by
   have:=mulZ W (LN.hiL (lf n) p:Int) k (n + 3) E (by omega) (by rw [Int.natAbs_natCast]; exact g2) hkk (HL.out.below hW)
   rw [itx_nat] at this; exact this
  have Hsg:Hid (∀ W,Below w.heap.size w W→Gives Tryz.prog 137 #[.string (itx k)] W (.int .i64 k.sign)):=fun W _=>sign_any W k
  have t1:((lf n p:Int) * k).natAbs < 2 ^ (E + (n + 3) + 10):=by
   have:=abs_mul_lt hkk g1
   rw [Int.mul_comm] at this
   exact Nat.lt_of_lt_of_le this (Nat.pow_le_pow_right (by decide) (by omega))
  have t2:((LN.hiL (lf n) p:Int) * k).natAbs < 2 ^ (E + (n + 3) + 10):=by
   have:=abs_mul_lt hkk g2
   rw [Int.mul_comm] at this
   exact Nat.lt_of_lt_of_le this (Nat.pow_le_pow_right (by decide) (by omega))
  have hF:E + (n + 3) + 10 < 90000:=by omega
  have one:1 < 2 ^ (n + 3):=Nat.one_lt_two_pow (by omega)
  have Had:Hid (∀ W,Below w.heap.size w W→Gives Tryz.prog 159 #[.string (dec (lf n p)),.string ⟨#[49]⟩] W (.string (dec (lf n p + 1)))):=fun W hW=>by
   have:=addD W (lf n p) 1 (n + 3) (by omega) g1 one (HL.out.below hW)
   rw [dec_one] at this; exact this
  generalize E + (n + 3) + 10=F at *
  unfold endsAct
  have Hk0:=hd_ (Below.refl W0.heap.size W0)
  have HI0:=HI
  have HB0:=HB
  have hw2:(k.sign = -1∧k < 0)∨(0≤k.sign∧k.sign≤1∧¬ k < 0):=by
   rcases Int.lt_trichotomy k 0 with h | h | h
   ·exact .inl ⟨Int.sign_eq_neg_one_of_neg h,h⟩
   ·subst h; exact .inr ⟨by decide,by decide,by decide⟩
   ·rw [Int.sign_eq_one_of_pos h]; exact .inr ⟨by decide,by decide,by omega⟩
  clear hI hB hr1 hr2 hI1 hB1 hB5 hpp hkk hsub g1 g2 one
  have hc3:=HI0.out.c3
  have hc4:=HI0.out.c4
  have hc5:=HI0.out.c5
  have hf4:=HI0.out.f4
  have hf5:=HI0.out.f5
  have HLL:Hid (∀ W,Below w.heap.size w W→Laid W):=fun W hW=>HL.out.below hW
  by_cases hp2:p=2
  ·subst hp2
   have hH:LN.hiL (lf n) 2=lf n 2:=by unfold LN.hiL; rw [if_pos rfl]
   rw [hH] at Hm2 e1 e2 t2
   clear hH
   rcases hw2 with ⟨hs,hk⟩ | ⟨hs1,hs2,hk⟩
   ·rw [if_pos hk] at e1 e2
    rw [hs] at Hsg
    clear hs
    have Ha1:Hid (∀ W,Below w.heap.size w W→Gives Tryz.prog 159 #[.string (itx (LN.eLo (lf n) (pre.map Subtype.val))),.string (itx ((lf n 2:Int) * k))] W (.string (itx ((LN.eLo (lf n) (pre.map Subtype.val)) + (lf n 2:Int) * k)))):=fun W hW=>addZ W _ _ F hF s1 t2 (HLL.out W hW)
    have Ha2:Hid (∀ W,Below w.heap.size w W→Gives Tryz.prog 159 #[.string (itx (LN.eHi (lf n) (pre.map Subtype.val))),.string (itx ((lf n 2:Int) * k))] W (.string (itx ((LN.eHi (lf n) (pre.map Subtype.val)) + (lf n 2:Int) * k)))):=fun W hW=>addZ W _ _ F hF s2 t1 (HLL.out W hW)
    rw [← e1] at Ha1
    rw [← e2] at Ha2
    clear e1 e2 s1 s2 t1 t2 HLL hlen hpl hF
    obtain ⟨slo2,hq1⟩:∃ s,itx (LN.eLo (lf n) ((pre ++ [(⟨(2,k),hmem⟩:{x // x∈tl})]).map Subtype.val))=s:=⟨_,rfl⟩
    obtain ⟨shi2,hq2⟩:∃ s,itx (LN.eHi (lf n) ((pre ++ [(⟨(2,k),hmem⟩:{x // x∈tl})]).map Subtype.val))=s:=⟨_,rfl⟩
    rw [hq1] at Ha1
    rw [hq2] at Ha2
    have Hf1:=hd_ hq1
    have Hf2:=hd_ hq2
    clear hq1 hq2
    generalize itx (LN.eLo (lf n) (pre.map Subtype.val))=slo at *
    generalize itx (LN.eHi (lf n) (pre.map Subtype.val))=shi at *
    generalize itx k=sk at *
    generalize itx ((lf n 2:Int) * k)=sa at *
    generalize dec (lf n 2)=sL at *
    clear Had
    gi_wp2_with fail
    refine ⟨trivial,?_⟩
    refine (CallsIn.inRound l (callsIn_wide.2 (Hlog.out W0 HB0.out))).mono ?_
    rintro e W1 ⟨rfl,hb⟩
    have HI1:=hd_ (HI0.out.below hb)
    have HB1:=hd_ (HB0.out.trans (hb.mono HB0.out.size))
    have Hk1:=hd_ (Hk0.out.trans (hb.mono Hk0.out.size))
    clear hb hc3 hc4 hc5 hf4 hf5 Hlog HI0 HB0 Hk0
    have hc3:=HI1.out.c3
    have hc4:=HI1.out.c4
    have hc5:=HI1.out.c5
    have hf4:=HI1.out.f4
    have hf5:=HI1.out.f5
    gi_wp2_with fail
    refine ⟨trivial,?_⟩
    refine (CallsIn.inRound l (callsIn_wide.2 (Hm1.out W1 HB1.out))).mono ?_
    rintro e W2 ⟨rfl,hb⟩
    have HI2:=hd_ (HI1.out.below hb)
    have HB2:=hd_ (HB1.out.trans (hb.mono HB1.out.size))
    have Hk2:=hd_ (Hk1.out.trans (hb.mono Hk1.out.size))
    clear hb hc3 hc4 hc5 hf4 hf5 Hm1 HI1 HB1 Hk1
    have hc3:=HI2.out.c3
    have hc4:=HI2.out.c4
    have hc5:=HI2.out.c5
    have hf4:=HI2.out.f4
    have hf5:=HI2.out.f5
    gi_wp2_with fail
    refine ⟨trivial,?_⟩
    refine (CallsIn.inRound l (callsIn_wide.2 (Hm2.out W2 HB2.out))).mono ?_
    rintro e W3 ⟨rfl,hb⟩
    have HI3:=hd_ (HI2.out.below hb)
    have HB3:=hd_ (HB2.out.trans (hb.mono HB2.out.size))
    have Hk3:=hd_ (Hk2.out.trans (hb.mono Hk2.out.size))
    clear hb hc3 hc4 hc5 hf4 hf5 Hm2 HI2 HB2 Hk2
    have hc3:=HI3.out.c3
    have hc4:=HI3.out.c4
    have hc5:=HI3.out.c5
    have hf4:=HI3.out.f4
    have hf5:=HI3.out.f5
    gi_wp2_with fail
    refine ⟨trivial,?_⟩
    refine (CallsIn.inRound l (callsIn_wide.2 (Hsg.out W3 HB3.out))).mono ?_
    rintro e W4 ⟨rfl,hb⟩
    have HI4:=hd_ (HI3.out.below hb)
    have HB4:=hd_ (HB3.out.trans (hb.mono HB3.out.size))
    have Hk4:=hd_ (Hk3.out.trans (hb.mono Hk3.out.size))
    clear hb hc3 hc4 hc5 hf4 hf5 Hsg HI3 HB3 Hk3
    have hc3:=HI4.out.c3
    have hc4:=HI4.out.c4
    have hc5:=HI4.out.c5
    have hf4:=HI4.out.f4
    have hf5:=HI4.out.f5
    gi_wp2_with fail
    have q0:=@CellW.h
    have q9:Nonempty (CellW ⟨w.heap.size + 1 + 1,0,none⟩ (.string slo)):=⟨⟨W4,HI4.out.c4⟩⟩
    have q8:Nonempty (CellW ⟨w.heap.size + 1 + 1 + 1,0,none⟩ (.string shi)):=⟨⟨W4,HI4.out.c5⟩⟩
    refine wpIn_region_readers2 [(8,0),(1,1),(9,3),(1,4),(0,2),(0,5),(0,6),(0,7)]
     [(6,fun w'=>∃ p:CellW ⟨w.heap.size + 1 + 1,0,none⟩ (.string slo),w'=p.w),(7,fun w'=>∃ p:CellW ⟨w.heap.size + 1 + 1 + 1,0,none⟩ (.string shi),w'=p.w)]
     (by kernel_rfl) (by kernel_rfl) ⟨.inr ⟨⟨{ W4 with drawn:=W4.drawn + 1 },HI4.out.c4⟩,rfl⟩,.inr ⟨⟨{ W4 with drawn:=W4.drawn + 1 },HI4.out.c5⟩,rfl⟩,trivial⟩ ?_
    refine walkR2_read (s:=6) _ (List.mem_cons_self ..) rfl ?_
    simp only [dz_,tsc_,tz_]
    go_big_quiet_step (fail)
    refine wpQuiet_nil ?_
    refine walkR2_any ?_
    simp only [dsc_,dz_,tsc_,tz_]
    go_big_quiet_step (fail)
    refine wpQuiet_nil ?_
    refine walkR2_read (s:=7) _ (List.mem_cons_of_mem _ (List.mem_cons_self ..)) rfl ?_
    simp only [dsc_,dz_,tsc_,tz_]
    go_big_quiet_step (fail)
    refine wpQuiet_nil ?_
    refine walkR2_any ?_
    simp only [dsc_,dz_,tsc_,tz_]
    go_big_quiet_step (fail)
    refine wpQuiet_nil ?_
    clear q0 q8 q9 hc3 hc4 hc5 hf4 hf5
    obtain ⟨V0,hV0⟩:∃ V0:World,{ heap:=W4.heap,tape:=W4.tape,drawn:=W4.drawn + 1,os:=W4.os,output:=W4.output }=V0:=⟨_,rfl⟩
    rw [hV0]
    have hdr:Below W4.heap.size W4 V0:=by rw [← hV0]; exact ⟨rfl,rfl,rfl,Nat.le_refl _,fun _ _=>rfl⟩
    have HJ0:=hd_ (HI4.out.below hdr)
    have HC0:=hd_ (HB4.out.trans (hdr.mono HB4.out.size))
    have Hl0:=hd_ (Hk4.out.trans (hdr.mono Hk4.out.size))
    clear hV0 hdr HI4 HB4 Hk4
    refine walkR2_move ?_
    simp only [dsc_,dz_,tsc_,tz_]
    go_wp2_with fail
    refine cm_ (Ha1.out V0 HC0.out) ?_
    rintro e V1 ⟨rfl,hb⟩
    have HJ1:=hd_ (HJ0.out.below hb)
    have HC1:=hd_ (HC0.out.trans (hb.mono HC0.out.size))
    have Hl1:=hd_ (Hl0.out.trans (hb.mono Hl0.out.size))
    clear hb HJ0 HC0 Hl0 Ha1
    go_wp2_with fail
    refine ⟨⟨.inr ⟨⟨V1,HJ1.out.c4⟩,rfl⟩,.inr ⟨⟨V1,HJ1.out.c5⟩,rfl⟩,trivial⟩,?_⟩
    refine walkR2_move ?_
    simp only [dsc_,dz_,tsc_,tz_]
    go_wp2_with fail
    refine cm_ (Ha2.out V1 HC1.out) ?_
    rintro e V2 ⟨rfl,hb⟩
    have HJ2:=hd_ (HJ1.out.below hb)
    have HC2:=hd_ (HC1.out.trans (hb.mono HC1.out.size))
    have Hl2:=hd_ (Hl1.out.trans (hb.mono Hl1.out.size))
    clear hb HJ1 HC1 Hl1 Ha2
    go_wp2_with fail
    refine ⟨⟨.inr ⟨⟨V2,HJ2.out.c4⟩,rfl⟩,.inr ⟨⟨V2,HJ2.out.c5⟩,rfl⟩,trivial⟩,?_⟩
    have hc4:=HJ2.out.c4
    have hc5:=HJ2.out.c5
    have hf4:=HJ2.out.f4
    have hf5:=HJ2.out.f5
    refine walkR2_move ?_
    simp only [dsc_,dz_,tsc_,tz_]
    go_wp2_with fail
    have hc52:(V2.setCell ⟨w.heap.size + 1 + 1,0,none⟩ (.string slo2)).cell? ⟨w.heap.size + 1 + 1 + 1,0,none⟩=some (.string shi):=by
     rw [World.cell?_setCell_other _ _ _ _ (by simp)]; exact HJ2.out.c5
    have hf52:(V2.setCell ⟨w.heap.size + 1 + 1,0,none⟩ (.string slo2)).frozen? ⟨w.heap.size + 1 + 1 + 1,0,none⟩=false:=by rw [World.frozen?_setCell]; exact HJ2.out.f5
    refine ⟨⟨.inl rfl,.inr ⟨⟨V2.setCell ⟨w.heap.size + 1 + 1,0,none⟩ (.string slo2),hc52⟩,rfl⟩,trivial⟩,?_⟩
    clear hc4 hc5 hf4 hf5
    refine walkR2_move ?_
    simp only [dsc_,dz_,tsc_,tz_]
    go_wp2_with fail
    refine ⟨⟨.inl rfl,.inl rfl,trivial⟩,?_⟩
    simp only [walkR2]
    exact ⟨(keeps_of_below Hl2.out).trans ((KeepsOthers.setCell _ _ _).trans (KeepsOthers.setCell _ _ _)),ends_kt rfl HB.out HI.out.sz Hl2.out _ _,(HJ2.out.stored _ _).cast Hf1.out Hf2.out,near_below HC2.out _ _⟩
   ·rw [if_neg hk] at e1 e2
    have hs':¬ k.sign < 0:=by omega
    have Ha1:Hid (∀ W,Below w.heap.size w W→Gives Tryz.prog 159 #[.string (itx (LN.eLo (lf n) (pre.map Subtype.val))),.string (itx ((lf n 2:Int) * k))] W (.string (itx ((LN.eLo (lf n) (pre.map Subtype.val)) + (lf n 2:Int) * k)))):=fun W hW=>addZ W _ _ F hF s1 t1 (HLL.out W hW)
    have Ha2:Hid (∀ W,Below w.heap.size w W→Gives Tryz.prog 159 #[.string (itx (LN.eHi (lf n) (pre.map Subtype.val))),.string (itx ((lf n 2:Int) * k))] W (.string (itx ((LN.eHi (lf n) (pre.map Subtype.val)) + (lf n 2:Int) * k)))):=fun W hW=>addZ W _ _ F hF s2 t2 (HLL.out W hW)
    generalize k.sign=sg at *
    rw [← e1] at Ha1
    rw [← e2] at Ha2
    clear e1 e2 s1 s2 t1 t2 HLL hlen hpl hF
    obtain ⟨slo2,hq1⟩:∃ s,itx (LN.eLo (lf n) ((pre ++ [(⟨(2,k),hmem⟩:{x // x∈tl})]).map Subtype.val))=s:=⟨_,rfl⟩
    obtain ⟨shi2,hq2⟩:∃ s,itx (LN.eHi (lf n) ((pre ++ [(⟨(2,k),hmem⟩:{x // x∈tl})]).map Subtype.val))=s:=⟨_,rfl⟩
    rw [hq1] at Ha1
    rw [hq2] at Ha2
    have Hf1:=hd_ hq1
    have Hf2:=hd_ hq2
    clear hq1 hq2
    generalize itx (LN.eLo (lf n) (pre.map Subtype.val))=slo at *
    generalize itx (LN.eHi (lf n) (pre.map Subtype.val))=shi at *
    generalize itx k=sk at *
    generalize itx ((lf n 2:Int) * k)=sa at *
    generalize dec (lf n 2)=sL at *
    clear Had
    gi_wp2_with fail
    refine ⟨trivial,?_⟩
    refine (CallsIn.inRound l (callsIn_wide.2 (Hlog.out W0 HB0.out))).mono ?_
    rintro e W1 ⟨rfl,hb⟩
    have HI1:=hd_ (HI0.out.below hb)
    have HB1:=hd_ (HB0.out.trans (hb.mono HB0.out.size))
    have Hk1:=hd_ (Hk0.out.trans (hb.mono Hk0.out.size))
    clear hb hc3 hc4 hc5 hf4 hf5 Hlog HI0 HB0 Hk0
    have hc3:=HI1.out.c3
    have hc4:=HI1.out.c4
    have hc5:=HI1.out.c5
    have hf4:=HI1.out.f4
    have hf5:=HI1.out.f5
    gi_wp2_with fail
    refine ⟨trivial,?_⟩
    refine (CallsIn.inRound l (callsIn_wide.2 (Hm1.out W1 HB1.out))).mono ?_
    rintro e W2 ⟨rfl,hb⟩
    have HI2:=hd_ (HI1.out.below hb)
    have HB2:=hd_ (HB1.out.trans (hb.mono HB1.out.size))
    have Hk2:=hd_ (Hk1.out.trans (hb.mono Hk1.out.size))
    clear hb hc3 hc4 hc5 hf4 hf5 Hm1 HI1 HB1 Hk1
    have hc3:=HI2.out.c3
    have hc4:=HI2.out.c4
    have hc5:=HI2.out.c5
    have hf4:=HI2.out.f4
    have hf5:=HI2.out.f5
    gi_wp2_with fail
    refine ⟨trivial,?_⟩
    refine (CallsIn.inRound l (callsIn_wide.2 (Hm2.out W2 HB2.out))).mono ?_
    rintro e W3 ⟨rfl,hb⟩
    have HI3:=hd_ (HI2.out.below hb)
    have HB3:=hd_ (HB2.out.trans (hb.mono HB2.out.size))
    have Hk3:=hd_ (Hk2.out.trans (hb.mono Hk2.out.size))
    clear hb hc3 hc4 hc5 hf4 hf5 Hm2 HI2 HB2 Hk2
    have hc3:=HI3.out.c3
    have hc4:=HI3.out.c4
    have hc5:=HI3.out.c5
    have hf4:=HI3.out.f4
    have hf5:=HI3.out.f5
    gi_wp2_with fail
    refine ⟨trivial,?_⟩
    refine (CallsIn.inRound l (callsIn_wide.2 (Hsg.out W3 HB3.out))).mono ?_
    rintro e W4 ⟨rfl,hb⟩
    have HI4:=hd_ (HI3.out.below hb)
    have HB4:=hd_ (HB3.out.trans (hb.mono HB3.out.size))
    have Hk4:=hd_ (Hk3.out.trans (hb.mono Hk3.out.size))
    clear hb hc3 hc4 hc5 hf4 hf5 Hsg HI3 HB3 Hk3
    have hc3:=HI4.out.c3
    have hc4:=HI4.out.c4
    have hc5:=HI4.out.c5
    have hf4:=HI4.out.f4
    have hf5:=HI4.out.f5
    gi_wp2_with fail
    have q0:=@CellW.h
    have q9:Nonempty (CellW ⟨w.heap.size + 1 + 1,0,none⟩ (.string slo)):=⟨⟨W4,HI4.out.c4⟩⟩
    have q8:Nonempty (CellW ⟨w.heap.size + 1 + 1 + 1,0,none⟩ (.string shi)):=⟨⟨W4,HI4.out.c5⟩⟩
    refine wpIn_region_readers2 [(8,0),(1,1),(9,3),(1,4),(0,2),(0,5),(0,6),(0,7)]
     [(6,fun w'=>∃ p:CellW ⟨w.heap.size + 1 + 1,0,none⟩ (.string slo),w'=p.w),(7,fun w'=>∃ p:CellW ⟨w.heap.size + 1 + 1 + 1,0,none⟩ (.string shi),w'=p.w)]
     (by kernel_rfl) (by kernel_rfl) ⟨.inr ⟨⟨{ W4 with drawn:=W4.drawn + 1 },HI4.out.c4⟩,rfl⟩,.inr ⟨⟨{ W4 with drawn:=W4.drawn + 1 },HI4.out.c5⟩,rfl⟩,trivial⟩ ?_
    refine walkR2_read (s:=6) _ (List.mem_cons_self ..) rfl ?_
    simp only [dz_,tsc_,tz_]
    go_big_quiet_step (fail)
    refine wpQuiet_nil ?_
    refine walkR2_any ?_
    simp only [dsc_,dz_,tsc_,tz_]
    go_big_quiet_step (fail)
    refine wpQuiet_nil ?_
    refine walkR2_read (s:=7) _ (List.mem_cons_of_mem _ (List.mem_cons_self ..)) rfl ?_
    simp only [dsc_,dz_,tsc_,tz_]
    go_big_quiet_step (fail)
    refine wpQuiet_nil ?_
    refine walkR2_any ?_
    simp only [dsc_,dz_,tsc_,tz_]
    go_big_quiet_step (fail)
    refine wpQuiet_nil ?_
    clear q0 q8 q9 hc3 hc4 hc5 hf4 hf5
    obtain ⟨V0,hV0⟩:∃ V0:World,{ heap:=W4.heap,tape:=W4.tape,drawn:=W4.drawn + 1,os:=W4.os,output:=W4.output }=V0:=⟨_,rfl⟩
    rw [hV0]
    have hdr:Below W4.heap.size W4 V0:=by rw [← hV0]; exact ⟨rfl,rfl,rfl,Nat.le_refl _,fun _ _=>rfl⟩
    have HJ0:=hd_ (HI4.out.below hdr)
    have HC0:=hd_ (HB4.out.trans (hdr.mono HB4.out.size))
    have Hl0:=hd_ (Hk4.out.trans (hdr.mono Hk4.out.size))
    clear hV0 hdr HI4 HB4 Hk4
    refine walkR2_move ?_
    simp only [dsc_,dz_,tsc_,tz_]
    go_wp2_with fail
    refine cm_ (Ha1.out V0 HC0.out) ?_
    rintro e V1 ⟨rfl,hb⟩
    have HJ1:=hd_ (HJ0.out.below hb)
    have HC1:=hd_ (HC0.out.trans (hb.mono HC0.out.size))
    have Hl1:=hd_ (Hl0.out.trans (hb.mono Hl0.out.size))
    clear hb HJ0 HC0 Hl0 Ha1
    go_wp2_with fail
    refine ⟨⟨.inr ⟨⟨V1,HJ1.out.c4⟩,rfl⟩,.inr ⟨⟨V1,HJ1.out.c5⟩,rfl⟩,trivial⟩,?_⟩
    refine walkR2_move ?_
    simp only [dsc_,dz_,tsc_,tz_]
    go_wp2_with fail
    refine cm_ (Ha2.out V1 HC1.out) ?_
    rintro e V2 ⟨rfl,hb⟩
    have HJ2:=hd_ (HJ1.out.below hb)
    have HC2:=hd_ (HC1.out.trans (hb.mono HC1.out.size))
    have Hl2:=hd_ (Hl1.out.trans (hb.mono Hl1.out.size))
    clear hb HJ1 HC1 Hl1 Ha2
    go_wp2_with fail
    refine ⟨⟨.inr ⟨⟨V2,HJ2.out.c4⟩,rfl⟩,.inr ⟨⟨V2,HJ2.out.c5⟩,rfl⟩,trivial⟩,?_⟩
    have hc4:=HJ2.out.c4
    have hc5:=HJ2.out.c5
    have hf4:=HJ2.out.f4
    have hf5:=HJ2.out.f5
    refine walkR2_move ?_
    simp only [dsc_,dz_,tsc_,tz_]
    go_wp2_with fail
    have hc52:(V2.setCell ⟨w.heap.size + 1 + 1,0,none⟩ (.string slo2)).cell? ⟨w.heap.size + 1 + 1 + 1,0,none⟩=some (.string shi):=by
     rw [World.cell?_setCell_other _ _ _ _ (by simp)]; exact HJ2.out.c5
    have hf52:(V2.setCell ⟨w.heap.size + 1 + 1,0,none⟩ (.string slo2)).frozen? ⟨w.heap.size + 1 + 1 + 1,0,none⟩=false:=by rw [World.frozen?_setCell]; exact HJ2.out.f5
    refine ⟨⟨.inl rfl,.inr ⟨⟨V2.setCell ⟨w.heap.size + 1 + 1,0,none⟩ (.string slo2),hc52⟩,rfl⟩,trivial⟩,?_⟩
    clear hc4 hc5 hf4 hf5
    refine walkR2_move ?_
    simp only [dsc_,dz_,tsc_,tz_]
    go_wp2_with fail
    refine ⟨⟨.inl rfl,.inl rfl,trivial⟩,?_⟩
    simp only [walkR2]
    exact ⟨(keeps_of_below Hl2.out).trans ((KeepsOthers.setCell _ _ _).trans (KeepsOthers.setCell _ _ _)),ends_kt rfl HB.out HI.out.sz Hl2.out _ _,(HJ2.out.stored _ _).cast Hf1.out Hf2.out,near_below HC2.out _ _⟩
  ·have hH:LN.hiL (lf n) p=lf n p + 1:=by unfold LN.hiL; rw [if_neg hp2]
   rw [hH] at Hm2 e1 e2 t2
   have hp2':(p == 2)=false:=by rw [beq_eq_false_iff_ne]; exact hp2
   clear hH
   rcases hw2 with ⟨hs,hk⟩ | ⟨hs1,hs2,hk⟩
   ·rw [if_pos hk] at e1 e2
    rw [hs] at Hsg
    clear hs
    have Ha1:Hid (∀ W,Below w.heap.size w W→Gives Tryz.prog 159 #[.string (itx (LN.eLo (lf n) (pre.map Subtype.val))),.string (itx (((lf n p + 1:Nat):Int) * k))] W (.string (itx ((LN.eLo (lf n) (pre.map Subtype.val)) + ((lf n p + 1:Nat):Int) * k)))):=fun W hW=>addZ W _ _ F hF s1 t2 (HLL.out W hW)
    have Ha2:Hid (∀ W,Below w.heap.size w W→Gives Tryz.prog 159 #[.string (itx (LN.eHi (lf n) (pre.map Subtype.val))),.string (itx ((lf n p:Int) * k))] W (.string (itx ((LN.eHi (lf n) (pre.map Subtype.val)) + (lf n p:Int) * k)))):=fun W hW=>addZ W _ _ F hF s2 t1 (HLL.out W hW)
    rw [← e1] at Ha1
    rw [← e2] at Ha2
    clear e1 e2 s1 s2 t1 t2 HLL hlen hpl hF
    obtain ⟨slo2,hq1⟩:∃ s,itx (LN.eLo (lf n) ((pre ++ [(⟨(p,k),hmem⟩:{x // x∈tl})]).map Subtype.val))=s:=⟨_,rfl⟩
    obtain ⟨shi2,hq2⟩:∃ s,itx (LN.eHi (lf n) ((pre ++ [(⟨(p,k),hmem⟩:{x // x∈tl})]).map Subtype.val))=s:=⟨_,rfl⟩
    rw [hq1] at Ha1
    rw [hq2] at Ha2
    have Hf1:=hd_ hq1
    have Hf2:=hd_ hq2
    clear hq1 hq2
    generalize itx (LN.eLo (lf n) (pre.map Subtype.val))=slo at *
    generalize itx (LN.eHi (lf n) (pre.map Subtype.val))=shi at *
    generalize itx k=sk at *
    generalize itx ((lf n p:Int) * k)=sa at *
    generalize itx (((lf n p + 1:Nat):Int) * k)=sb at *
    generalize dec (lf n p + 1)=sH at *
    generalize dec (lf n p)=sL at *
    gi_wp2_with fail
    refine ⟨trivial,?_⟩
    refine (CallsIn.inRound l (callsIn_wide.2 (Hlog.out W0 HB0.out))).mono ?_
    rintro e W1 ⟨rfl,hb⟩
    have HI1:=hd_ (HI0.out.below hb)
    have HB1:=hd_ (HB0.out.trans (hb.mono HB0.out.size))
    have Hk1:=hd_ (Hk0.out.trans (hb.mono Hk0.out.size))
    clear hb hc3 hc4 hc5 hf4 hf5 Hlog HI0 HB0 Hk0
    have hc3:=HI1.out.c3
    have hc4:=HI1.out.c4
    have hc5:=HI1.out.c5
    have hf4:=HI1.out.f4
    have hf5:=HI1.out.f5
    gi_wp2_with fail
    refine ⟨trivial,?_⟩
    refine (CallsIn.inRound l (callsIn_wide.2 (Had.out W1 HB1.out))).mono ?_
    rintro e W2 ⟨rfl,hb⟩
    have HI2:=hd_ (HI1.out.below hb)
    have HB2:=hd_ (HB1.out.trans (hb.mono HB1.out.size))
    have Hk2:=hd_ (Hk1.out.trans (hb.mono Hk1.out.size))
    clear hb hc3 hc4 hc5 hf4 hf5 Had HI1 HB1 Hk1
    have hc3:=HI2.out.c3
    have hc4:=HI2.out.c4
    have hc5:=HI2.out.c5
    have hf4:=HI2.out.f4
    have hf5:=HI2.out.f5
    gi_wp2_with fail
    refine ⟨trivial,?_⟩
    refine (CallsIn.inRound l (callsIn_wide.2 (Hm1.out W2 HB2.out))).mono ?_
    rintro e W3 ⟨rfl,hb⟩
    have HI3:=hd_ (HI2.out.below hb)
    have HB3:=hd_ (HB2.out.trans (hb.mono HB2.out.size))
    have Hk3:=hd_ (Hk2.out.trans (hb.mono Hk2.out.size))
    clear hb hc3 hc4 hc5 hf4 hf5 Hm1 HI2 HB2 Hk2
    have hc3:=HI3.out.c3
    have hc4:=HI3.out.c4
    have hc5:=HI3.out.c5
    have hf4:=HI3.out.f4
    have hf5:=HI3.out.f5
    gi_wp2_with fail
    refine ⟨trivial,?_⟩
    refine (CallsIn.inRound l (callsIn_wide.2 (Hm2.out W3 HB3.out))).mono ?_
    rintro e W4 ⟨rfl,hb⟩
    have HI4:=hd_ (HI3.out.below hb)
    have HB4:=hd_ (HB3.out.trans (hb.mono HB3.out.size))
    have Hk4:=hd_ (Hk3.out.trans (hb.mono Hk3.out.size))
    clear hb hc3 hc4 hc5 hf4 hf5 Hm2 HI3 HB3 Hk3
    have hc3:=HI4.out.c3
    have hc4:=HI4.out.c4
    have hc5:=HI4.out.c5
    have hf4:=HI4.out.f4
    have hf5:=HI4.out.f5
    gi_wp2_with fail
    refine ⟨trivial,?_⟩
    refine (CallsIn.inRound l (callsIn_wide.2 (Hsg.out W4 HB4.out))).mono ?_
    rintro e W5 ⟨rfl,hb⟩
    have HI5:=hd_ (HI4.out.below hb)
    have HB5:=hd_ (HB4.out.trans (hb.mono HB4.out.size))
    have Hk5:=hd_ (Hk4.out.trans (hb.mono Hk4.out.size))
    clear hb hc3 hc4 hc5 hf4 hf5 Hsg HI4 HB4 Hk4
    have hc3:=HI5.out.c3
    have hc4:=HI5.out.c4
    have hc5:=HI5.out.c5
    have hf4:=HI5.out.f4
    have hf5:=HI5.out.f5
    gi_wp2_with fail
    have q0:=@CellW.h
    have q9:Nonempty (CellW ⟨w.heap.size + 1 + 1,0,none⟩ (.string slo)):=⟨⟨W5,HI5.out.c4⟩⟩
    have q8:Nonempty (CellW ⟨w.heap.size + 1 + 1 + 1,0,none⟩ (.string shi)):=⟨⟨W5,HI5.out.c5⟩⟩
    refine wpIn_region_readers2 [(8,0),(1,1),(9,3),(1,4),(0,2),(0,5),(0,6),(0,7)]
     [(6,fun w'=>∃ p:CellW ⟨w.heap.size + 1 + 1,0,none⟩ (.string slo),w'=p.w),(7,fun w'=>∃ p:CellW ⟨w.heap.size + 1 + 1 + 1,0,none⟩ (.string shi),w'=p.w)]
     (by kernel_rfl) (by kernel_rfl) ⟨.inr ⟨⟨{ W5 with drawn:=W5.drawn + 1 },HI5.out.c4⟩,rfl⟩,.inr ⟨⟨{ W5 with drawn:=W5.drawn + 1 },HI5.out.c5⟩,rfl⟩,trivial⟩ ?_
    refine walkR2_read (s:=6) _ (List.mem_cons_self ..) rfl ?_
    simp only [dz_,tsc_,tz_]
    go_big_quiet_step (fail)
    refine wpQuiet_nil ?_
    refine walkR2_any ?_
    simp only [dsc_,dz_,tsc_,tz_]
    go_big_quiet_step (fail)
    refine wpQuiet_nil ?_
    refine walkR2_read (s:=7) _ (List.mem_cons_of_mem _ (List.mem_cons_self ..)) rfl ?_
    simp only [dsc_,dz_,tsc_,tz_]
    go_big_quiet_step (fail)
    refine wpQuiet_nil ?_
    refine walkR2_any ?_
    simp only [dsc_,dz_,tsc_,tz_]
    go_big_quiet_step (fail)
    refine wpQuiet_nil ?_
    clear q0 q8 q9 hc3 hc4 hc5 hf4 hf5
    obtain ⟨V0,hV0⟩:∃ V0:World,{ heap:=W5.heap,tape:=W5.tape,drawn:=W5.drawn + 1,os:=W5.os,output:=W5.output }=V0:=⟨_,rfl⟩
    rw [hV0]
    have hdr:Below W5.heap.size W5 V0:=by rw [← hV0]; exact ⟨rfl,rfl,rfl,Nat.le_refl _,fun _ _=>rfl⟩
    have HJ0:=hd_ (HI5.out.below hdr)
    have HC0:=hd_ (HB5.out.trans (hdr.mono HB5.out.size))
    have Hl0:=hd_ (Hk5.out.trans (hdr.mono Hk5.out.size))
    clear hV0 hdr HI5 HB5 Hk5
    refine walkR2_move ?_
    simp only [dsc_,dz_,tsc_,tz_]
    go_wp2_with fail
    refine cm_ (Ha1.out V0 HC0.out) ?_
    rintro e V1 ⟨rfl,hb⟩
    have HJ1:=hd_ (HJ0.out.below hb)
    have HC1:=hd_ (HC0.out.trans (hb.mono HC0.out.size))
    have Hl1:=hd_ (Hl0.out.trans (hb.mono Hl0.out.size))
    clear hb HJ0 HC0 Hl0 Ha1
    go_wp2_with fail
    refine ⟨⟨.inr ⟨⟨V1,HJ1.out.c4⟩,rfl⟩,.inr ⟨⟨V1,HJ1.out.c5⟩,rfl⟩,trivial⟩,?_⟩
    refine walkR2_move ?_
    simp only [dsc_,dz_,tsc_,tz_]
    go_wp2_with fail
    refine cm_ (Ha2.out V1 HC1.out) ?_
    rintro e V2 ⟨rfl,hb⟩
    have HJ2:=hd_ (HJ1.out.below hb)
    have HC2:=hd_ (HC1.out.trans (hb.mono HC1.out.size))
    have Hl2:=hd_ (Hl1.out.trans (hb.mono Hl1.out.size))
    clear hb HJ1 HC1 Hl1 Ha2
    go_wp2_with fail
    refine ⟨⟨.inr ⟨⟨V2,HJ2.out.c4⟩,rfl⟩,.inr ⟨⟨V2,HJ2.out.c5⟩,rfl⟩,trivial⟩,?_⟩
    have hc4:=HJ2.out.c4
    have hc5:=HJ2.out.c5
    have hf4:=HJ2.out.f4
    have hf5:=HJ2.out.f5
    refine walkR2_move ?_
    simp only [dsc_,dz_,tsc_,tz_]
    go_wp2_with fail
    have hc52:(V2.setCell ⟨w.heap.size + 1 + 1,0,none⟩ (.string slo2)).cell? ⟨w.heap.size + 1 + 1 + 1,0,none⟩=some (.string shi):=by
     rw [World.cell?_setCell_other _ _ _ _ (by simp)]; exact HJ2.out.c5
    have hf52:(V2.setCell ⟨w.heap.size + 1 + 1,0,none⟩ (.string slo2)).frozen? ⟨w.heap.size + 1 + 1 + 1,0,none⟩=false:=by rw [World.frozen?_setCell]; exact HJ2.out.f5
    refine ⟨⟨.inl rfl,.inr ⟨⟨V2.setCell ⟨w.heap.size + 1 + 1,0,none⟩ (.string slo2),hc52⟩,rfl⟩,trivial⟩,?_⟩
    clear hc4 hc5 hf4 hf5
    refine walkR2_move ?_
    simp only [dsc_,dz_,tsc_,tz_]
    go_wp2_with fail
    refine ⟨⟨.inl rfl,.inl rfl,trivial⟩,?_⟩
    simp only [walkR2]
    exact ⟨(keeps_of_below Hl2.out).trans ((KeepsOthers.setCell _ _ _).trans (KeepsOthers.setCell _ _ _)),ends_kt rfl HB.out HI.out.sz Hl2.out _ _,(HJ2.out.stored _ _).cast Hf1.out Hf2.out,near_below HC2.out _ _⟩
   ·rw [if_neg hk] at e1 e2
    have hs':¬ k.sign < 0:=by omega
    have Ha1:Hid (∀ W,Below w.heap.size w W→Gives Tryz.prog 159 #[.string (itx (LN.eLo (lf n) (pre.map Subtype.val))),.string (itx ((lf n p:Int) * k))] W (.string (itx ((LN.eLo (lf n) (pre.map Subtype.val)) + (lf n p:Int) * k)))):=fun W hW=>addZ W _ _ F hF s1 t1 (HLL.out W hW)
    have Ha2:Hid (∀ W,Below w.heap.size w W→Gives Tryz.prog 159 #[.string (itx (LN.eHi (lf n) (pre.map Subtype.val))),.string (itx (((lf n p + 1:Nat):Int) * k))] W (.string (itx ((LN.eHi (lf n) (pre.map Subtype.val)) + ((lf n p + 1:Nat):Int) * k)))):=fun W hW=>addZ W _ _ F hF s2 t2 (HLL.out W hW)
    generalize k.sign=sg at *
    rw [← e1] at Ha1
    rw [← e2] at Ha2
    clear e1 e2 s1 s2 t1 t2 HLL hlen hpl hF
    obtain ⟨slo2,hq1⟩:∃ s,itx (LN.eLo (lf n) ((pre ++ [(⟨(p,k),hmem⟩:{x // x∈tl})]).map Subtype.val))=s:=⟨_,rfl⟩
    obtain ⟨shi2,hq2⟩:∃ s,itx (LN.eHi (lf n) ((pre ++ [(⟨(p,k),hmem⟩:{x // x∈tl})]).map Subtype.val))=s:=⟨_,rfl⟩
    rw [hq1] at Ha1
    rw [hq2] at Ha2
    have Hf1:=hd_ hq1
    have Hf2:=hd_ hq2
    clear hq1 hq2
    generalize itx (LN.eLo (lf n) (pre.map Subtype.val))=slo at *
    generalize itx (LN.eHi (lf n) (pre.map Subtype.val))=shi at *
    generalize itx k=sk at *
    generalize itx ((lf n p:Int) * k)=sa at *
    generalize itx (((lf n p + 1:Nat):Int) * k)=sb at *
    generalize dec (lf n p + 1)=sH at *
    generalize dec (lf n p)=sL at *
    gi_wp2_with fail
    refine ⟨trivial,?_⟩
    refine (CallsIn.inRound l (callsIn_wide.2 (Hlog.out W0 HB0.out))).mono ?_
    rintro e W1 ⟨rfl,hb⟩
    have HI1:=hd_ (HI0.out.below hb)
    have HB1:=hd_ (HB0.out.trans (hb.mono HB0.out.size))
    have Hk1:=hd_ (Hk0.out.trans (hb.mono Hk0.out.size))
    clear hb hc3 hc4 hc5 hf4 hf5 Hlog HI0 HB0 Hk0
    have hc3:=HI1.out.c3
    have hc4:=HI1.out.c4
    have hc5:=HI1.out.c5
    have hf4:=HI1.out.f4
    have hf5:=HI1.out.f5
    gi_wp2_with fail
    refine ⟨trivial,?_⟩
    refine (CallsIn.inRound l (callsIn_wide.2 (Had.out W1 HB1.out))).mono ?_
    rintro e W2 ⟨rfl,hb⟩
    have HI2:=hd_ (HI1.out.below hb)
    have HB2:=hd_ (HB1.out.trans (hb.mono HB1.out.size))
    have Hk2:=hd_ (Hk1.out.trans (hb.mono Hk1.out.size))
    clear hb hc3 hc4 hc5 hf4 hf5 Had HI1 HB1 Hk1
    have hc3:=HI2.out.c3
    have hc4:=HI2.out.c4
    have hc5:=HI2.out.c5
    have hf4:=HI2.out.f4
    have hf5:=HI2.out.f5
    gi_wp2_with fail
    refine ⟨trivial,?_⟩
    refine (CallsIn.inRound l (callsIn_wide.2 (Hm1.out W2 HB2.out))).mono ?_
    rintro e W3 ⟨rfl,hb⟩
    have HI3:=hd_ (HI2.out.below hb)
    have HB3:=hd_ (HB2.out.trans (hb.mono HB2.out.size))
    have Hk3:=hd_ (Hk2.out.trans (hb.mono Hk2.out.size))
    clear hb hc3 hc4 hc5 hf4 hf5 Hm1 HI2 HB2 Hk2
    have hc3:=HI3.out.c3
    have hc4:=HI3.out.c4
    have hc5:=HI3.out.c5
    have hf4:=HI3.out.f4
    have hf5:=HI3.out.f5
    gi_wp2_with fail
    refine ⟨trivial,?_⟩
    refine (CallsIn.inRound l (callsIn_wide.2 (Hm2.out W3 HB3.out))).mono ?_
    rintro e W4 ⟨rfl,hb⟩
    have HI4:=hd_ (HI3.out.below hb)
    have HB4:=hd_ (HB3.out.trans (hb.mono HB3.out.size))
    have Hk4:=hd_ (Hk3.out.trans (hb.mono Hk3.out.size))
    clear hb hc3 hc4 hc5 hf4 hf5 Hm2 HI3 HB3 Hk3
    have hc3:=HI4.out.c3
    have hc4:=HI4.out.c4
    have hc5:=HI4.out.c5
    have hf4:=HI4.out.f4
    have hf5:=HI4.out.f5
    gi_wp2_with fail
    refine ⟨trivial,?_⟩
    refine (CallsIn.inRound l (callsIn_wide.2 (Hsg.out W4 HB4.out))).mono ?_
    rintro e W5 ⟨rfl,hb⟩
    have HI5:=hd_ (HI4.out.below hb)
    have HB5:=hd_ (HB4.out.trans (hb.mono HB4.out.size))
    have Hk5:=hd_ (Hk4.out.trans (hb.mono Hk4.out.size))
    clear hb hc3 hc4 hc5 hf4 hf5 Hsg HI4 HB4 Hk4
    have hc3:=HI5.out.c3
    have hc4:=HI5.out.c4
    have hc5:=HI5.out.c5
    have hf4:=HI5.out.f4
    have hf5:=HI5.out.f5
    gi_wp2_with fail
    have q0:=@CellW.h
    have q9:Nonempty (CellW ⟨w.heap.size + 1 + 1,0,none⟩ (.string slo)):=⟨⟨W5,HI5.out.c4⟩⟩
    have q8:Nonempty (CellW ⟨w.heap.size + 1 + 1 + 1,0,none⟩ (.string shi)):=⟨⟨W5,HI5.out.c5⟩⟩
    refine wpIn_region_readers2 [(8,0),(1,1),(9,3),(1,4),(0,2),(0,5),(0,6),(0,7)]
     [(6,fun w'=>∃ p:CellW ⟨w.heap.size + 1 + 1,0,none⟩ (.string slo),w'=p.w),(7,fun w'=>∃ p:CellW ⟨w.heap.size + 1 + 1 + 1,0,none⟩ (.string shi),w'=p.w)]
     (by kernel_rfl) (by kernel_rfl) ⟨.inr ⟨⟨{ W5 with drawn:=W5.drawn + 1 },HI5.out.c4⟩,rfl⟩,.inr ⟨⟨{ W5 with drawn:=W5.drawn + 1 },HI5.out.c5⟩,rfl⟩,trivial⟩ ?_
    refine walkR2_read (s:=6) _ (List.mem_cons_self ..) rfl ?_
    simp only [dz_,tsc_,tz_]
    go_big_quiet_step (fail)
    refine wpQuiet_nil ?_
    refine walkR2_any ?_
    simp only [dsc_,dz_,tsc_,tz_]
    go_big_quiet_step (fail)
    refine wpQuiet_nil ?_
    refine walkR2_read (s:=7) _ (List.mem_cons_of_mem _ (List.mem_cons_self ..)) rfl ?_
    simp only [dsc_,dz_,tsc_,tz_]
    go_big_quiet_step (fail)
    refine wpQuiet_nil ?_
    refine walkR2_any ?_
    simp only [dsc_,dz_,tsc_,tz_]
    go_big_quiet_step (fail)
    refine wpQuiet_nil ?_
    clear q0 q8 q9 hc3 hc4 hc5 hf4 hf5
    obtain ⟨V0,hV0⟩:∃ V0:World,{ heap:=W5.heap,tape:=W5.tape,drawn:=W5.drawn + 1,os:=W5.os,output:=W5.output }=V0:=⟨_,rfl⟩
    rw [hV0]
    have hdr:Below W5.heap.size W5 V0:=by rw [← hV0]; exact ⟨rfl,rfl,rfl,Nat.le_refl _,fun _ _=>rfl⟩
    have HJ0:=hd_ (HI5.out.below hdr)
    have HC0:=hd_ (HB5.out.trans (hdr.mono HB5.out.size))
    have Hl0:=hd_ (Hk5.out.trans (hdr.mono Hk5.out.size))
    clear hV0 hdr HI5 HB5 Hk5
    refine walkR2_move ?_
    simp only [dsc_,dz_,tsc_,tz_]
    go_wp2_with fail
    refine cm_ (Ha1.out V0 HC0.out) ?_
    rintro e V1 ⟨rfl,hb⟩
    have HJ1:=hd_ (HJ0.out.below hb)
    have HC1:=hd_ (HC0.out.trans (hb.mono HC0.out.size))
    have Hl1:=hd_ (Hl0.out.trans (hb.mono Hl0.out.size))
    clear hb HJ0 HC0 Hl0 Ha1
    go_wp2_with fail
    refine ⟨⟨.inr ⟨⟨V1,HJ1.out.c4⟩,rfl⟩,.inr ⟨⟨V1,HJ1.out.c5⟩,rfl⟩,trivial⟩,?_⟩
    refine walkR2_move ?_
    simp only [dsc_,dz_,tsc_,tz_]
    go_wp2_with fail
    refine cm_ (Ha2.out V1 HC1.out) ?_
    rintro e V2 ⟨rfl,hb⟩
    have HJ2:=hd_ (HJ1.out.below hb)
    have HC2:=hd_ (HC1.out.trans (hb.mono HC1.out.size))
    have Hl2:=hd_ (Hl1.out.trans (hb.mono Hl1.out.size))
    clear hb HJ1 HC1 Hl1 Ha2
    go_wp2_with fail
    refine ⟨⟨.inr ⟨⟨V2,HJ2.out.c4⟩,rfl⟩,.inr ⟨⟨V2,HJ2.out.c5⟩,rfl⟩,trivial⟩,?_⟩
    have hc4:=HJ2.out.c4
    have hc5:=HJ2.out.c5
    have hf4:=HJ2.out.f4
    have hf5:=HJ2.out.f5
    refine walkR2_move ?_
    simp only [dsc_,dz_,tsc_,tz_]
    go_wp2_with fail
    have hc52:(V2.setCell ⟨w.heap.size + 1 + 1,0,none⟩ (.string slo2)).cell? ⟨w.heap.size + 1 + 1 + 1,0,none⟩=some (.string shi):=by
     rw [World.cell?_setCell_other _ _ _ _ (by simp)]; exact HJ2.out.c5
    have hf52:(V2.setCell ⟨w.heap.size + 1 + 1,0,none⟩ (.string slo2)).frozen? ⟨w.heap.size + 1 + 1 + 1,0,none⟩=false:=by rw [World.frozen?_setCell]; exact HJ2.out.f5
    refine ⟨⟨.inl rfl,.inr ⟨⟨V2.setCell ⟨w.heap.size + 1 + 1,0,none⟩ (.string slo2),hc52⟩,rfl⟩,trivial⟩,?_⟩
    clear hc4 hc5 hf4 hf5
    refine walkR2_move ?_
    simp only [dsc_,dz_,tsc_,tz_]
    go_wp2_with fail
    refine ⟨⟨.inl rfl,.inl rfl,trivial⟩,?_⟩
    simp only [walkR2]
    exact ⟨(keeps_of_below Hl2.out).trans ((KeepsOthers.setCell _ _ _).trans (KeepsOthers.setCell _ _ _)),ends_kt rfl HB.out HI.out.sz Hl2.out _ _,(HJ2.out.stored _ _).cast Hf1.out Hf2.out,near_below HC2.out _ _⟩
 case done =>
  rintro D' ys W hD rfl ⟨hI,hB⟩ hK
  rw [List.attach_map_subtype_val] at hI
  have HI:=hd_ hI
  have HB:=hd_ hB
  have HK:=hd_ hK
  clear hI hB hK hr1 hr2 hI1 hB1 hB5
  have Hv:Hid (∀ s t,itx (LN.eLo (lf n) tl)=s→itx (LN.eHi (lf n) tl)=t→Ending.returned (.tuple #[.string s,.string t])=Ending.returned (.tuple #[.string (itx (LN.eLo (lf n) tl)),.string (itx (LN.eHi (lf n) tl))])):=by
   intro s t h1 h2
   rw [h1,h2]
  obtain ⟨lo,hlo⟩:∃ s,itx (LN.eLo (lf n) tl)=s:=⟨_,rfl⟩
  obtain ⟨hi,hhi⟩:∃ s,itx (LN.eHi (lf n) tl)=s:=⟨_,rfl⟩
  have Hr:=hd_ (Hv.out lo hi hlo hhi)
  rw [hlo,hhi] at HI
  clear Hv hlo hhi
  have hc4:=HI.out.c4
  have hc5:=HI.out.c5
  have hf4:=HI.out.f4
  have hf5:=HI.out.f5
  gi_wp2_with fail
  gi_region
  gi_wp2
  clear hc4 hc5 hf4 hf5
  have e4:((W.setCell { block:=w.heap.size + 1 + 1,off:=0 } (Value.string lo)).setCell { block:=w.heap.size + 1 + 1 + 1,off:=0 } (Value.string hi)).drew.cell? ⟨w.heap.size + 1 + 1,0,none⟩=some (.string lo):=by
   show World.cell? ((W.setCell { block:=w.heap.size + 1 + 1,off:=0 } (Value.string lo)).setCell { block:=w.heap.size + 1 + 1 + 1,off:=0 } (Value.string hi)) _=_
   rw [World.cell?_setCell_other _ _ _ _ (by simp),World.cell?_setCell_same _ _ _ HI.out.c4]
  have e5:((W.setCell { block:=w.heap.size + 1 + 1,off:=0 } (Value.string lo)).setCell { block:=w.heap.size + 1 + 1 + 1,off:=0 } (Value.string hi)).drew.cell? ⟨w.heap.size + 1 + 1 + 1,0,none⟩=some (.string hi):=by
   show World.cell? ((W.setCell { block:=w.heap.size + 1 + 1,off:=0 } (Value.string lo)).setCell { block:=w.heap.size + 1 + 1 + 1,off:=0 } (Value.string hi)) _=_
   rw [World.cell?_setCell_same _ _ _ (by rw [World.cell?_setCell_other _ _ _ _ (by simp)]; exact HI.out.c5)]
  have hk9:=((KeepsOthers.setCell W ⟨w.heap.size + 1 + 1,0,none⟩ (.string lo)).trans (KeepsOthers.setCell _ ⟨w.heap.size + 1 + 1 + 1,0,none⟩ (.string hi))).trans (KeepsOthers.drew _)
  have hK9:=hk9.same D' _ HK.out rfl
  have hb9:=((HB.out.setCell (p:=⟨w.heap.size + 1 + 1,0,none⟩) (by show _≤w.heap.size + 1 + 1; omega) (.string lo)).setCell (p:=⟨w.heap.size + 1 + 1 + 1,0,none⟩) (by show _≤w.heap.size + 1 + 1 + 1; omega) (.string hi)).drew
  generalize ((W.setCell { block:=w.heap.size + 1 + 1,off:=0 } (Value.string lo)).setCell { block:=w.heap.size + 1 + 1 + 1,off:=0 } (Value.string hi)).drew=w9 at *
  have g4:=cell_kept e4 (grownBy_putObj' _ D' (.deferred none)) (fun r e=>by cases e; exact ⟨_,hK9,rfl⟩)
  have g5:=cell_kept e5 (grownBy_putObj' _ D' (.deferred none)) (fun r e=>by cases e; exact ⟨_,hK9,rfl⟩)
  refine ⟨by simp,.inl ⟨_,_,rfl,run_takeDeferred hK9,?_⟩⟩
  refine ⟨.tuple #[.string lo,.string hi],?_,Hr.out,hb9.trans (belowK_b (w:=w) nr_ w9 D' _ _ (by rw [hsz1] at hD; omega) hK9 rfl rfl)⟩
  simp [results,Tryz.results136,go_sem,g4,g5]
 case stop =>
  rintro D' c pre W hD hSp ⟨hf,_⟩ hK
  exact hf.elim
end Go.Proofs.YtkoicfghplmghaaGreatDoor

namespace Go.Proofs.YtkoicfghplmghaaGreatDoor.LN
theorem sz_of_vt {ps:List Int} {l:List Rat} (hp:∀ p∈ps,0 < p):sz ps l=sg (vt (tlist (tden l) ps l)):=signT_sg _ (tlist_pos hp)
end Go.Proofs.YtkoicfghplmghaaGreatDoor.LN

namespace Go.Proofs.YtkoicfghplmghaaGreatDoor
open Go.RowKit
theorem lowest_neg (w:World) (n:Int) (d g:Nat) (hn:ZNum n) (hd:Num d) (hd0:0 < d) (hn1:Num (n.natAbs + 1)) (hd1:Num (d + 1)) (hg:Nat.gcd n.natAbs d=g) (L:Laid w) :
  Gives Tryz.prog 138 #[.string (itx (-n)),.string (itx (-(d:Int)))] w (fv (n / (g:Int)) (d / g)):=by
 unfold Gives fv
 have hg0:0 < g:=by rw [← hg]; exact Nat.gcd_pos_of_pos_right _ hd0
 have hgl:g≤d:=by rw [← hg]; exact Nat.gcd_le_right _ hd0
 have hgn:Num g:=hd.le hgl
 have Hb0:=hd_ ((Below.refl w.heap.size w).alloc nr_ (.cells #[.string ⟨#[]⟩,.string ⟨#[]⟩] 58))
 have Hnew:Hid ((w.alloc (.cells #[.string ⟨#[]⟩,.string ⟨#[]⟩] 58)).heap[w.heap.size]?=some (.cells #[.string ⟨#[]⟩,.string ⟨#[]⟩] 58 (0,0))):=heap_alloc_new w _
 have HL:=hd_ (L.below Hb0.out)
 have Hsg:Hid (∀ W,Gives Tryz.prog 137 #[.string (itx (-(d:Int)))] W (.int .i64 (-1))):=fun W=>by
  have:=sign_any W (-(d:Int))
  rw [Int.sign_eq_neg_one_of_neg (show -(d:Int) < 0 by omega)] at this
  exact this
 have Hn1:Hid (∀ W,Gives Tryz.prog 175 #[.string (itx (-n))] W (.string (itx n))):=fun W=>by
  have:=neg_any W (-n) (show Num _ by rw [Int.natAbs_neg]; exact hn)
  rw [Int.neg_neg] at this
  exact this
 have Hn2:Hid (∀ W,Gives Tryz.prog 175 #[.string (itx (-(d:Int)))] W (.string (dec d))):=fun W=>by
  have:=neg_any W (-(d:Int)) (show Num _ by rw [Int.natAbs_neg]; exact hd)
  rw [Int.neg_neg,itx_nat] at this
  exact this
 clear L
 go_enter Tryz.func138,Tryz.ntmps138
 go_wp2_with fail
 generalize w.alloc (.cells #[.string ⟨#[]⟩,.string ⟨#[]⟩] 58)=W0 at *
 have Hgc:Hid (∀ W,Below W0.heap.size W0 W→Gives Tryz.prog 176 #[.string (itx n),.string (dec d)] W (.string (dec g))):=fun W hW=>by
  have:=gcdz_any W n (d:Int) hn (show Num _ from hd) (HL.out.below hW)
  rw [itx_nat,show Int.gcd n (d:Int)=g from hg] at this
  exact this
 have Hd1:Hid (∀ W,Below W0.heap.size W0 W→Gives Tryz.prog 133 #[.string (itx n),.string (dec g)] W (.tuple #[.string (itx (n / (g:Int))),.string (itx (n % (g:Int))),.int .i64 0])):=fun W hW=>divmodz_any W n g hn hgn hg0 hn1 (HL.out.below hW)
 have Hd2:Hid (∀ W,Below W0.heap.size W0 W→Gives Tryz.prog 133 #[.string (dec d),.string (dec g)] W (.tuple #[.string (dec (d / g)),.string (itx ((d:Int) % (g:Int))),.int .i64 0])):=fun W hW=>by
  have:=divmodz_any W (d:Int) g (show Num _ from hd) hgn hg0 (show Num (d + 1) from hd1) (HL.out.below hW)
  rw [itx_nat,show (d:Int) / (g:Int)=((d / g:Nat):Int) from rfl,itx_nat] at this
  exact this
 have ho:=is_one g
 by_cases h1:g=1
 ·have Hrs:Hid (itx (n / (g:Int))=itx n):=by show _=_; rw [h1]; congr 1; exact Int.ediv_one n
  have Hrt:Hid (dec (d / g)=dec d):=by show _=_; rw [h1,Nat.div_one]
  rw [decide_eq_true h1] at ho
  clear h1 Hd1 Hd2 hg hg0 hgl hgn hn hd hn1 hd1
  obtain ⟨s,hs⟩:∃ s,itx n=s:=⟨_,rfl⟩
  obtain ⟨t,ht⟩:∃ t,dec d=t:=⟨_,rfl⟩
  rw [hs] at Hrs Hgc Hn1
  rw [ht] at Hrt Hgc Hn2
  clear hs ht
  generalize itx (-n)=ns at *
  generalize itx (-(d:Int))=nd at *
  generalize dec g=u at *
  refine cm_ (Hsg.out _) ?_
  rintro e w1 ⟨rfl,hb1⟩
  have Hb1:=hd_ hb1
  clear hb1 Hsg
  go_wp2_with fail
  refine cm_ (Hn1.out _) ?_
  rintro e w5 ⟨rfl,hb5⟩
  have Hb5:=hd_ (Hb1.out.trans (hb5.mono Hb1.out.size))
  clear hb5 Hb1 Hn1
  go_wp2_with fail
  refine cm_ (Hn2.out _) ?_
  rintro e w6 ⟨rfl,hb6⟩
  have Hb6:=hd_ (Hb5.out.trans (hb6.mono Hb5.out.size))
  clear hb6 Hb5 Hn2
  go_wp2_with fail
  refine cm_ (Hgc.out w6 Hb6.out) ?_
  rintro e w2 ⟨rfl,hb2⟩
  have Hb2:=hd_ (Hb6.out.trans (hb2.mono Hb6.out.size))
  clear hb2 Hb6 Hgc
  have Hcell:=hd_ (stored_cell Hnew.out Hb2.out)
  have Hbw:=hd_ (Hb0.out.trans (Hb2.out.mono Hb0.out.size))
  obtain ⟨k0,k1,f0,f1⟩:=two_cells Hcell.out
  clear Hb2 Hb0 Hcell Hnew HL
  go_wp2
  obtain ⟨c0,c1,hb3⟩:=two_stored (.string s) (.string t) k0 k1 nr_ Hbw.out
  generalize (w2.setCell ⟨w.heap.size,0,none⟩ (.string s)).setCell ⟨w.heap.size,1,none⟩ (.string t)=w9 at *
  exact bodyPost_ret (v := .agg #[.string s,.string t]) (by simp [results,Tryz.results138,go_sem,c0,c1]) rfl ⟨by rw [Hrs.out,Hrt.out],hb3⟩
 ·rw [decide_eq_false h1] at ho
  obtain ⟨rs,hrs⟩:∃ rs,itx (n / (g:Int))=rs:=⟨_,rfl⟩
  obtain ⟨rt,hrt⟩:∃ rt,dec (d / g)=rt:=⟨_,rfl⟩
  rw [hrs] at Hd1
  rw [hrt] at Hd2
  have Hrs:=hd_ hrs
  have Hrt:=hd_ hrt
  clear h1 hg hg0 hgl hgn hn hd hn1 hd1 hrs hrt
  generalize itx (n % (g:Int))=e1 at Hd1
  generalize itx ((d:Int) % (g:Int))=e2 at Hd2
  obtain ⟨s,hs⟩:∃ s,itx n=s:=⟨_,rfl⟩
  obtain ⟨t,ht⟩:∃ t,dec d=t:=⟨_,rfl⟩
  obtain ⟨u,hu⟩:∃ u,dec g=u:=⟨_,rfl⟩
  rw [hs] at Hd1 Hgc Hn1
  rw [ht] at Hd2 Hgc Hn2
  rw [hu] at Hd1 Hd2 Hgc ho
  clear hs ht hu
  generalize itx (-n)=ns at *
  generalize itx (-(d:Int))=nd at *
  refine cm_ (Hsg.out _) ?_
  rintro e w1 ⟨rfl,hb1⟩
  have Hb1:=hd_ hb1
  clear hb1 Hsg
  go_wp2_with fail
  refine cm_ (Hn1.out _) ?_
  rintro e w5 ⟨rfl,hb5⟩
  have Hb5:=hd_ (Hb1.out.trans (hb5.mono Hb1.out.size))
  clear hb5 Hb1 Hn1
  go_wp2_with fail
  refine cm_ (Hn2.out _) ?_
  rintro e w6 ⟨rfl,hb6⟩
  have Hb6:=hd_ (Hb5.out.trans (hb6.mono Hb5.out.size))
  clear hb6 Hb5 Hn2
  go_wp2_with fail
  refine cm_ (Hgc.out w6 Hb6.out) ?_
  rintro e w2 ⟨rfl,hb2⟩
  have Hb2:=hd_ (Hb6.out.trans (hb2.mono Hb6.out.size))
  clear hb2 Hb6 Hgc
  go_wp2_with fail
  refine cm_ (Hd1.out w2 Hb2.out) ?_
  rintro e w3 ⟨rfl,hb3⟩
  have Hb3:=hd_ (Hb2.out.trans (hb3.mono Hb2.out.size))
  clear hb3 Hb2 Hd1
  go_wp2_with fail
  refine cm_ (Hd2.out w3 Hb3.out) ?_
  rintro e w4 ⟨rfl,hb4⟩
  have Hb4:=hd_ (Hb3.out.trans (hb4.mono Hb3.out.size))
  clear hb4 Hb3 Hd2
  have Hcell:=hd_ (stored_cell Hnew.out Hb4.out)
  have Hbw:=hd_ (Hb0.out.trans (Hb4.out.mono Hb0.out.size))
  obtain ⟨k0,k1,f0,f1⟩:=two_cells Hcell.out
  clear Hb4 Hb0 Hcell Hnew HL
  go_wp2
  obtain ⟨c0,c1,hb3⟩:=two_stored (.string rs) (.string rt) k0 k1 nr_ Hbw.out
  generalize (w4.setCell ⟨w.heap.size,0,none⟩ (.string rs)).setCell ⟨w.heap.size,1,none⟩ (.string rt)=w9 at *
  exact bodyPost_ret (v := .agg #[.string rs,.string rt]) (by simp [results,Tryz.results138,go_sem,c0,c1]) rfl ⟨by rw [Hrs.out,Hrt.out],hb3⟩
theorem lowest_any (w:World) (n m:Int) (hn:ZNum n) (hm:ZNum m) (hm0:m≠0) (hn1:Num (n.natAbs + 1)) (hm1:Num (m.natAbs + 1)) (L:Laid w) :
  Gives Tryz.prog 138 #[.string (itx n),.string (itx m)] w (fr ((n:Rat) / (m:Rat))):=by
 have key:∀ (k:Int) (d:Nat),d≠0→fv (k / ((Nat.gcd k.natAbs d:Nat):Int)) (d / Nat.gcd k.natAbs d)=fr (mkRat k d):=fun k d hd=>by
  have:=redV_rat k d hd
  unfold redV at this
  exact this
 by_cases h:0 < m
 ·obtain ⟨d,rfl⟩:∃ d:Nat,m=(d:Int):=⟨m.toNat,by omega⟩
  have:=lowest_frac w n d _ hn hm (by omega) hn1 hm1 rfl L
  rw [key n d (by omega),Rat.mkRat_eq_div] at this
  rw [itx_nat]
  exact this
 ·obtain ⟨d,rfl⟩:∃ d:Nat,m = -(d:Int):=⟨m.natAbs,by omega⟩
  have hmm:Num d:=by have:Num (-(d:Int)).natAbs:=hm; rwa [Int.natAbs_neg] at this
  have hmm1:Num (d + 1):=by rwa [Int.natAbs_neg] at hm1
  have:=lowest_neg w (-n) d _ (show Num _ by rw [Int.natAbs_neg]; exact hn) hmm (by omega) (by rw [Int.natAbs_neg]; exact hn1) hmm1 rfl L
  rw [Int.neg_neg,key (-n) d (by omega),Rat.mkRat_eq_div] at this
  have e:((-n:Int):Rat) / ((d:Nat):Rat)=(n:Rat) / ((-(d:Int):Int):Rat):=by
   rw [Rat.div_def,Rat.div_def,Rat.intCast_neg,Rat.intCast_neg,Rat.intCast_natCast]
   have hi:(-((d:Nat):Rat))⁻¹ = -(((d:Nat):Rat)⁻¹):=by
    apply Rat.inv_eq_of_mul_eq_one
    have:((d:Nat):Rat)≠0:=by intro h0; exact absurd (Rat.natCast_eq_zero_iff.1 h0) (by omega)
    rw [Rat.neg_mul,Rat.mul_neg,Rat.neg_neg,Rat.mul_inv_cancel _ this]
   rw [hi,Rat.neg_mul,Rat.mul_neg]
  rw [e] at this
  exact this
theorem div_eq (a b:Rat):a / b=((a.num * b.den:Int):Rat) / (((a.den:Int) * b.num:Int):Rat):=by
 have h1:a=(a.num:Rat) / ((a.den:Nat):Rat):=by rw [← Rat.mkRat_eq_div,Rat.mkRat_self]
 have h2:b=(b.num:Rat) / ((b.den:Nat):Rat):=by rw [← Rat.mkRat_eq_div,Rat.mkRat_self]
 have ha:((a.den:Nat):Rat)≠0:=by intro h; exact a.den_nz (Rat.natCast_eq_zero_iff.1 h)
 have hb:((b.den:Nat):Rat)≠0:=by intro h; exact b.den_nz (Rat.natCast_eq_zero_iff.1 h)
 rw [Rat.intCast_mul,Rat.intCast_mul,Rat.intCast_natCast,Rat.intCast_natCast]
 generalize a.num=x at *
 generalize b.num=y at *
 generalize ((a.den:Nat):Rat)=u at *
 generalize ((b.den:Nat):Rat)=v at *
 subst h1 h2
 by_cases hy:(y:Rat)=0
 ·rw [hy]; simp [Rat.div_def]
 ·grind
theorem divR (w:World) (a b:Rat) (D E:Nat) (ha:Sm D a) (hb:Sm E b) (hb0:b≠0) (h6:D + E + 2≤1000000) (L:Laid w) :
  Gives Tryz.prog 221 #[fr a,fr b] w (.tuple #[fr (a / b),.int .i64 0]):=by
 have hm0:b.num≠0:=fun h=>hb0 (Rat.num_eq_zero.1 h)
 have p1:=ha.pos
 have p2:=hb.pos
 have e1:(a.num * b.den).natAbs < 10 ^ (D + E):=by rw [Int.natAbs_mul]; exact pow_ten_mul ha.1 hb.2
 have e2:((a.den:Int) * b.num).natAbs < 10 ^ (D + E):=by rw [Int.natAbs_mul]; exact pow_ten_mul ha.2 hb.1
 have h3:10 ^ (D + E) < 10 ^ (D + E + 1):=Nat.pow_lt_pow_right (by decide) (by omega)
 have z1:ZNum (a.num * b.den):=num_pow e1 (by omega) (by omega)
 have z2:ZNum ((a.den:Int) * b.num):=num_pow e2 (by omega) (by omega)
 have z3:Num ((a.num * b.den).natAbs + 1):=num_pow (D:=D + E + 1) (by omega) (by omega) (by omega)
 have z4:Num (((a.den:Int) * b.num).natAbs + 1):=num_pow (D:=D + E + 1) (by omega) (by omega) (by omega)
 have hm1:(a.den:Int) * b.num≠0:=Int.mul_ne_zero (by have:=a.den_nz; omega) hm0
 have zn:ZNum a.num:=num_pow ha.1 p1 (by omega)
 have zm:ZNum b.num:=num_pow hb.1 p2 (by omega)
 have zd:Num a.den:=num_pow ha.2 p1 (by omega)
 have ze:Num b.den:=num_pow hb.2 p2 (by omega)
 obtain ⟨rs,hrs⟩:∃ rs,itx (a / b).num=rs:=⟨_,rfl⟩
 obtain ⟨rt,hrt⟩:∃ rt,dec (a / b).den=rt:=⟨_,rfl⟩
 have Hv:Hid (fr (a / b) = .agg #[.string rs,.string rt]):=by show _=_; unfold fr fv; rw [hrs,hrt]
 have hlo:∀ W,Laid W→Gives Tryz.prog 138 #[.string (itx (a.num * b.den)),.string (itx ((a.den:Int) * b.num))] W (.agg #[.string rs,.string rt]):=fun W LW=>by
  have:=lowest_any W _ _ z1 z2 hm1 z3 z4 LW
  rw [← div_eq] at this
  unfold fr fv at this
  rw [hrs,hrt] at this
  exact this
 unfold Gives
 show Calls _ _ #[fv a.num a.den,fv b.num b.den] _ _
 have Hsg:Hid (∀ W,Gives Tryz.prog 240 #[fv b.num b.den] W (.int .i64 b.num.sign)):=fun W=>sign_frac W b.num b.den
 have hs0:(b.num.sign == 0)=false:=by
  rw [beq_eq_false_iff_ne]
  intro h
  exact hm0 (Int.sign_eq_zero_iff_zero.1 h)
 clear hrs hrt hm1 z3 z4 e1 e2 h3 ha hb hb0
 generalize a.num=n at *
 generalize a.den=d at *
 generalize b.num=m at *
 generalize b.den=e at *
 generalize m.sign=sg at *
 have H3:=hd_ (Three.mk' w (itx n) (dec d) (itx m) (dec e))
 have HL:=hd_ (L.below H3.out.bel)
 clear L
 have Hm1:Hid (∀ W,Below (((w.alloc (.cells #[.string (itx n),.string (dec d)] 58)).alloc (.cells #[.string (itx m),.string (dec e)] 58)).alloc (.cells #[.string ⟨#[]⟩,.string ⟨#[]⟩] 58)).heap.size (((w.alloc (.cells #[.string (itx n),.string (dec d)] 58)).alloc (.cells #[.string (itx m),.string (dec e)] 58)).alloc (.cells #[.string ⟨#[]⟩,.string ⟨#[]⟩] 58)) W→∀ d' os,Calls Tryz.prog 134 #[.string (itx n),.string (dec e)] (Go.Sort.grow (redrawn W d') os) fun x w''=>x = .returned (.string (itx (n * e)))∧∃ p:Regrown,w''=Go.Sort.grow (redrawn W p.d) p.os):=fun W hW d' os=>by
  have:=mulz_any (Go.Sort.grow (redrawn W d') os) n (e:Int) zn (show Num _ from ze) z1 ((HL.out.below hW).below (below_regrown W d' os))
  rw [itx_nat] at this
  exact Calls.regrown_of this
 have Hm2:Hid (∀ W,Below (((w.alloc (.cells #[.string (itx n),.string (dec d)] 58)).alloc (.cells #[.string (itx m),.string (dec e)] 58)).alloc (.cells #[.string ⟨#[]⟩,.string ⟨#[]⟩] 58)).heap.size (((w.alloc (.cells #[.string (itx n),.string (dec d)] 58)).alloc (.cells #[.string (itx m),.string (dec e)] 58)).alloc (.cells #[.string ⟨#[]⟩,.string ⟨#[]⟩] 58)) W→∀ d' os,Calls Tryz.prog 134 #[.string (dec d),.string (itx m)] (Go.Sort.grow (redrawn W d') os) fun x w''=>x = .returned (.string (itx ((d:Int) * m)))∧∃ p:Regrown,w''=Go.Sort.grow (redrawn W p.d) p.os):=fun W hW d' os=>by
  have:=mulz_any (Go.Sort.grow (redrawn W d') os) (d:Int) m (show Num _ from zd) zm z2 ((HL.out.below hW).below (below_regrown W d' os))
  rw [itx_nat] at this
  exact Calls.regrown_of this
 have Hm3:Hid (∀ W,Below (((w.alloc (.cells #[.string (itx n),.string (dec d)] 58)).alloc (.cells #[.string (itx m),.string (dec e)] 58)).alloc (.cells #[.string ⟨#[]⟩,.string ⟨#[]⟩] 58)).heap.size (((w.alloc (.cells #[.string (itx n),.string (dec d)] 58)).alloc (.cells #[.string (itx m),.string (dec e)] 58)).alloc (.cells #[.string ⟨#[]⟩,.string ⟨#[]⟩] 58)) W→∀ d' os,Calls Tryz.prog 138 #[.string (itx (n * e)),.string (itx ((d:Int) * m))] (Go.Sort.grow (redrawn W d') os) fun x w''=>x = .returned (.agg #[.string rs,.string rt])∧∃ p:Regrown,w''=Go.Sort.grow (redrawn W p.d) p.os):=fun W hW d' os=>by
  exact Calls.regrown_of (hlo (Go.Sort.grow (redrawn W d') os) ((HL.out.below hW).below (below_regrown W d' os)))
 unfold fv at Hsg ⊢
 clear hlo z1 z2 zn zm zd ze hm0 p1 p2
 go_enter Tryz.func221,Tryz.ntmps221
 obtain ⟨k0,k1,-,-⟩:=two_cells H3.out.fa
 obtain ⟨k2,k3,-,-⟩:=two_cells H3.out.fb
 go_wp2_with fail
 generalize ((w.alloc (.cells #[.string (itx n),.string (dec d)] 58)).alloc (.cells #[.string (itx m),.string (dec e)] 58)).alloc (.cells #[.string ⟨#[]⟩,.string ⟨#[]⟩] 58)=W0 at *
 clear k0 k1 k2 k3
 refine cm_ (Hsg.out _) ?_
 rintro e w1 ⟨rfl,hb1⟩
 have Hb1:=hd_ hb1
 clear hb1 Hsg
 obtain ⟨k0,k1,-,-⟩:=two_cells (H3.out.next Hb1.out).fa
 obtain ⟨k2,k3,-,-⟩:=two_cells (H3.out.next Hb1.out).fb
 have q0:=cell_regrown k0
 have q1:=cell_regrown k1
 have q2:=cell_regrown k2
 have q3:=cell_regrown k3
 have hM1:=Hm1.out w1 Hb1.out
 have hM2:=Hm2.out w1 Hb1.out
 have hM3:=Hm3.out w1 Hb1.out
 clear k0 k1 k2 k3 Hm1 Hm2 Hm3
 go_wp2_with fail
 refine wp_region_below_tail 11 (by kernel_rfl) (by kernel_rfl) ?_
 simp only [List.take_succ_cons,List.take_zero,List.drop_succ_cons,List.drop_zero]
 repeat (first | go_big_quiet_step (first | with_reducible exact hM1 _ _ | with_reducible exact hM2 _ _ | with_reducible exact hM3 _ _) | quiet_step (first | with_reducible exact hM1 _ _ | with_reducible exact hM2 _ _ | with_reducible exact hM3 _ _))
 refine wpQuiet_nil ?_
 intro w8 hw8
 obtain ⟨⟨dq,osq⟩,rfl⟩:=hw8
 have hb8:=below_regrown w1 dq osq
 have H8:=hd_ ((H3.out.next Hb1.out).next hb8)
 clear hb8 hM1 hM2 hM3 q0 q1 q2 q3 H3 Hb1
 generalize Go.Sort.grow (redrawn w1 dq) osq=w8 at *
 obtain ⟨k0,k1,f0,f1⟩:=two_cells H8.out.fr
 have Hbw:=hd_ H8.out.bel
 clear H8
 go_wp2
 obtain ⟨c0,c1,hb3⟩:=two_stored (B:=w.heap.size) (.string rs) (.string rt) k0 k1 (by omega) Hbw.out
 generalize (w8.setCell ⟨w.heap.size + 1 + 1,0,none⟩ (.string rs)).setCell ⟨w.heap.size + 1 + 1,1,none⟩ (.string rt)=w9 at *
 exact bodyPost_ret (v := .tuple #[.agg #[.string rs,.string rt],.int .i64 0]) (by simp [results,Tryz.results221,go_sem,c0,c1]) rfl ⟨by rw [Hv.out],hb3⟩
end Go.Proofs.YtkoicfghplmghaaGreatDoor

namespace Go.Proofs.YtkoicfghplmghaaGreatDoor
open Go.RowKit
theorem tlist_mem {D:Nat} {ps:List Int} {l:List Rat} {x:Int×Int} (hx:x∈tlist D ps l):x.1∈ps∧∃ q∈l,q.num≠0∧x.2=q.num * ((D / q.den:Nat):Int):=by
 unfold tlist at hx
 obtain ⟨y,hy,he⟩:=List.mem_filterMap.1 hx
 have h1:=(List.of_mem_zip hy).1
 have h2:=(List.of_mem_zip hy).2
 by_cases h:y.2.num=0
 ·rw [if_pos h] at he; cases he
 ·rw [if_neg h] at he
  simp only [Option.some.injEq] at he
  subst he
  exact ⟨h1,y.2,h2,h,rfl⟩
def tlQ (ps:List Int) (l:List Rat):List (Int×Int):=tlist (tden l) ps l
theorem tlQ_znum {ps:List Int} {l:List Rat} {D:Nat} (hs:∀ q∈l,Sm D q) (h6:3 + (l.length + 2) * D≤900000):∀ x∈tlQ ps l,ZNum x.2:=fun x hx=>by
 obtain ⟨_,q,hq,_,he⟩:=tlist_mem hx
 have h1:=tden_lt l D hs l.length nr_
 rw [List.take_length] at h1
 have h2:=(hs q hq).1
 have h3:tden l / q.den≤tden l:=Nat.div_le_self _ _
 have h4:=pow_ten_mul h2 (Nat.lt_of_le_of_lt h3 h1)
 rw [he]
 refine num_pow (D:=D + (1 + l.length * D)) ?_ (by omega) ?_
 ·rw [Int.natAbs_mul]; exact h4
 ·rw [Nat.add_mul] at h6; omega
theorem rd_obj {w:World} {g:Nat} {cs:Array Value} {t:TypeId} (h:w.heap[g]?=some (.cells cs t (0,0))):Rd w (some ⟨g,0,none⟩) cs.toList:=by
 refine .inr ⟨g,0,rfl,(Array.getElem?_eq_some_iff.1 h).1,fun i v hi=>?_⟩
 rw [Nat.zero_add,cell_of_row w g i _ t (0,0) h,← Array.getElem?_toList]
 exact hi
theorem rdl_two {w:World} {g:Nat} {a1 a2:Option Addr} {c1 c2:Nat} {l1 l2:Pairs} {t:TypeId} (h:w.heap[g]?=some (.cells #[.slice a1 l1.length c1,.slice a2 l2.length c2] t (0,0))) (h1:Rd w a1 (cellsS l1)) (h2:Rd w a2 (cellsS l2)):RdL w (some ⟨g,0,none⟩) [l1,l2]:=by
 obtain ⟨k0,k1,-,-⟩:=(⟨by rw [cell_of_row w g 0 _ t (0,0) h]; rfl,by rw [cell_of_row w g 1 _ t (0,0) h]; rfl,trivial,trivial⟩:w.cell? ⟨g,0,none⟩=some (.slice a1 l1.length c1)∧w.cell? ⟨g,1,none⟩=some (.slice a2 l2.length c2)∧True∧True)
 refine .inr ⟨g,0,rfl,(Array.getElem?_eq_some_iff.1 h).1,fun i hi=>?_⟩
 match i,hi with
 | 0,_=>exact ⟨a1,c1,k0,h1⟩
 | 1,_=>exact ⟨a2,c2,k1,h2⟩
theorem infoS:(Tryz.prog.info? 47).map (fun i=>(i.zero,i.size,i.bytes))=some (some (.slice none 0 0),1,24):=by kernel_rfl
structure SizeOk (w:World) (ps:List Int) (a0 a:Option Addr) (l:List Rat) (D:Nat):Prop where
 rp:Rd w a0 (ints ps)
 rl:Rd w a (cellsQ l)
 len:l.length=ps.length
 n:ps.length≤100
 pr:∀ p∈ps,2≤p∧p≤97
 sm:∀ q∈l,Sm D q
 d:D≤1000
theorem SizeOk.below {w w':World} {ps:List Int} {a0 a:Option Addr} {l:List Rat} {D:Nat} (h:SizeOk w ps a0 a l D) (hb:Below w.heap.size w w'):SizeOk w' ps a0 a l D :=
 ⟨h.rp.below hb nr_,h.rl.below hb nr_,h.len,h.n,h.pr,h.sm,h.d⟩
theorem SizeOk.i64 {w:World} {ps:List Int} {a0 a:Option Addr} {l:List Rat} {D:Nat} (h:SizeOk w ps a0 a l D):I64s ps:=fun x hx=>by have:=h.pr x hx; omega
theorem terms_ok {w:World} {ps:List Int} {a0 a:Option Addr} {l:List Rat} {D c0 c:Nat} (S:SizeOk w ps a0 a l D) (L:Laid w) :
  Calls Tryz.prog 82 #[.slice a0 ps.length c0,.slice a l.length c] w fun e w'=>∃ b1 d1 b2 d2,e = .returned (.agg (tcells b1 d1 b2 d2 (tlQ ps l).length (tden l)))∧TermsAt w' (tlQ ps l) b1 b2∧Below w.heap.size w w':=by
 have hn:=S.n
 have hd:=S.d
 have hlen:=S.len
 have h6:3 + (l.length + 2) * D≤900000:=by
  have:(l.length + 2) * D≤102 * 1000:=Nat.mul_le_mul (by omega) hd
  omega
 refine cm_ (termsOf_any w a0 a c0 c ps l D S.rp S.rl S.len.symm S.sm (by omega) h6 L) ?_
 rintro e w' ⟨b1,d1,b2,d2,he,r1,r2,hb⟩
 refine ⟨b1,d1,b2,d2,he,⟨r1,r2,?_,?_,tlQ_znum S.sm h6⟩,hb⟩
 ·exact Nat.le_trans (tlist_length _ _ _) (by omega)
 ·exact fun x hx=>S.pr x.1 (tlist_mem hx).1
end Go.Proofs.YtkoicfghplmghaaGreatDoor

namespace Go.Proofs.YtkoicfghplmghaaGreatDoor
open Go.RowKit
theorem heap_kept {w w':World} {B g:Nat} {o:Obj} (h:w.heap[g]?=some o) (hb:Below B w w') (hB:w.heap.size≤B):w'.heap[g]?=some o :=
 (hb.block g (Nat.lt_of_lt_of_le (Array.getElem?_eq_some_iff.1 h).1 hB)).trans h
theorem Sm.one:Sm 1 1:=⟨by decide,by decide⟩
theorem Sm.minus:Sm 1 (-1):=⟨by decide,by decide⟩
theorem sum_pair (W:World) (g1 g2:Nat) (a1 a2:Option Addr) (c1 c2 n D:Nat) (la lb:List Rat) (f1 f2:Rat)
  (h1:W.heap[g1]?=some (.cells #[.slice a1 la.length c1,.slice a2 lb.length c2] 47 (0,0)))
  (h2:W.heap[g2]?=some (.cells #[.string (itx f1.num),.string (dec f1.den),.string (itx f2.num),.string (dec f2.den)] 58 (0,0)))
  (ra:Rd W a1 (cellsQ la)) (rb:Rd W a2 (cellsQ lb)) (la1:la.length=n) (lb1:lb.length=n) (sa:∀ q∈la,Sm D q) (sb:∀ q∈lb,Sm D q) (s1:Sm 1 f1) (s2:Sm 1 f2)
  (hn:n≤100) (hD:D≤400) (L:Laid W) :
  GivesQ 78 #[.int .i64 n,.slice (some ⟨g1,0,none⟩) 2 2,.slice (some ⟨g2,0,none⟩) 2 2] W (sumQ n [la,lb] [f1,f2]):=by
 have h1':W.heap[g1]?=some (.cells #[.slice a1 (la.map qs).length c1,.slice a2 (lb.map qs).length c2] 47 (0,0)):=by rw [List.length_map,List.length_map]; exact h1
 exact sum_any W _ _ 2 2 n [la,lb] [f1,f2] D 1 (rdl_two h1' ra rb) (rd_obj h2) (by intro l hl; simp only [List.mem_cons,List.not_mem_nil,or_false] at hl; rcases hl with rfl | rfl <;> assumption) rfl
  (by intro l hl; simp only [List.mem_cons,List.not_mem_nil,or_false] at hl; rcases hl with rfl | rfl <;> assumption)
  (by intro q hq; simp only [List.mem_cons,List.not_mem_nil,or_false] at hq; rcases hq with rfl | rfl <;> assumption) (by omega) (by simp) (by simp only [List.length_cons,List.length_nil]; omega) L
theorem sum_pair_sm {n D:Nat} {la lb:List Rat} {f1 f2:Rat} (sa:∀ q∈la,Sm D q) (sb:∀ q∈lb,Sm D q) (s1:Sm 1 f1) (s2:Sm 1 f2):∀ q∈sumQ n [la,lb] [f1,f2],Sm (2 * D + 5) q:=by
 have:=sumK_sm n [la,lb] [f1,f2] D 1 (by intro l hl; simp only [List.mem_cons,List.not_mem_nil,or_false] at hl; rcases hl with rfl | rfl <;> assumption) (by intro q hq; simp only [List.mem_cons,List.not_mem_nil,or_false] at hq; rcases hq with rfl | rfl <;> assumption) rfl 2 nr_
 intro q hq
 have h:=this q (by unfold sumK; unfold sumQ at hq; exact hq)
 rw [show 1 + 2 * (D + 1 + 1)=2 * D + 5 by omega] at h
 exact h
theorem sum_pair_len {n:Nat} {la lb:List Rat} {f1 f2:Rat} (h1:la.length=n) (h2:lb.length=n):(sumQ n [la,lb] [f1,f2]).length=n :=
 sumQ_length n [la,lb] [f1,f2] (by intro l hl; simp only [List.mem_cons,List.not_mem_nil,or_false] at hl; rcases hl with rfl | rfl <;> assumption) rfl
end Go.Proofs.YtkoicfghplmghaaGreatDoor

namespace Go.Proofs.YtkoicfghplmghaaGreatDoor
open Go.RowKit
theorem lf_at {n:Nat} {tl:List (Int×Int)} (h:PrT tl) (hn:n≤1056):∀ x∈tl,LN.LogAt n x.1 (lf n x.1):=fun x hx=>by
 obtain ⟨q,e,hq⟩:=h x hx
 rw [e]
 exact lgN_at hq hn
structure TrT (tl:List (Int×Int)):Prop where
 p:PrT tl
 nz:∀ x∈tl,x.2≠0
 nd:(tl.map Prod.fst).Nodup
theorem sign_of_lo {n:Nat} {tl:List (Int×Int)} (h:TrT tl) (hn:n≤1056) (hne:tl≠[]) (h0:0≤LN.eLo (lf n) tl):LN.signT tl=1:=by
 rw [LN.eLo_eq] at h0
 exact LN.sign_low n (lf n) tl (lf_at h.p hn) h.nz hne h.nd (by omega)
theorem sign_of_hi {n:Nat} {tl:List (Int×Int)} (h:TrT tl) (hn:n≤1056) (hne:tl≠[]) (h0:LN.eHi (lf n) tl≤0):LN.signT tl = -1:=by
 rw [LN.eHi_eq] at h0
 exact LN.sign_high n (lf n) tl (lf_at h.p hn) h.nz hne h.nd (by omega)
theorem isLg_two (N:Nat):IsLg 2 N N:=⟨Nat.le_refl _,Nat.pow_lt_pow_right (by decide) (by omega)⟩
theorem digs_two (more n:Nat) (hm:1≤more) {s:Nat×Nat×Nat} (h:digs 2 more n=some s):s.2.2=2 ^ n :=
 isLg_one (digs_inv 2 more (by decide) hm n s h).lg (isLg_two _)
theorem lgA_lf {p:Int} (hp:∃ q:Nat,p=q∧(q=2∨q∈oddP)) (h:(digs p.toNat 62 26).isSome=true):lgA p=(lf 26 p:Int)∧lgB p=(LN.hiL (lf 26) p:Int):=by
 obtain ⟨q,rfl,hq⟩:=hp
 obtain ⟨s,hs⟩:=Option.isSome_iff_exists.1 h
 rw [Int.toNat_natCast] at hs
 have e:lgA q=(lf 26 q:Int):=by
  unfold lgA
  rw [Int.toNat_natCast,hs]
  show ((s.2.2:Nat):Int)=((lgN q 26:Nat):Int)
  rcases hq with rfl | hq
  ·rw [digs_two 62 26 (by decide) hs]
   rw [show ((2:Nat):Int)=2 from rfl,lgN_two]
  ·rw [digs_lgN hq (by decide) (by decide) hs]
 refine ⟨e,?_⟩
 unfold lgB LN.hiL
 rw [e]
 split
 ·rfl
 ·rfl
theorem lowT_eq {most:Int}:∀ tl:List (Int×Int),PrT tl→(∀ x∈tl,okT most x)→lowT tl=LN.eLo (lf 26) tl∧highT tl=LN.eHi (lf 26) tl
 | [],_,_=>⟨rfl,rfl⟩
 | x :: l,hp,ho=>by
  obtain ⟨i1,i2⟩:=lowT_eq l (fun y hy=>hp y (List.mem_cons_of_mem _ hy)) (fun y hy=>ho y (List.mem_cons_of_mem _ hy))
  obtain ⟨a1,a2⟩:=lgA_lf (hp x List.mem_cons_self) (ho x List.mem_cons_self).2
  have e1:lowT (x :: l)=min (x.2 * lgA x.1) (x.2 * lgB x.1) + lowT l:=by simp [lowT]
  have e2:highT (x :: l)=max (x.2 * lgA x.1) (x.2 * lgB x.1) + highT l:=by simp [highT]
  have f1:LN.eLo (lf 26) (x :: l)=(if x.2 < 0 then x.2 * (LN.hiL (lf 26) x.1:Int) else x.2 * (lf 26 x.1:Int)) + LN.eLo (lf 26) l:=by simp [LN.eLo]
  have f2:LN.eHi (lf 26) (x :: l)=(if x.2 < 0 then x.2 * (lf 26 x.1:Int) else x.2 * (LN.hiL (lf 26) x.1:Int)) + LN.eHi (lf 26) l:=by simp [LN.eHi]
  have hle:lf 26 x.1≤LN.hiL (lf 26) x.1:=by unfold LN.hiL; split <;> omega
  rw [e1,e2,f1,f2,i1,i2,a1,a2]
  by_cases hk:x.2 < 0
  ·have h1:x.2 * (LN.hiL (lf 26) x.1:Int)≤x.2 * (lf 26 x.1:Int):=Int.mul_le_mul_of_nonpos_left (by omega) (by omega)
   rw [if_pos hk,if_pos hk,Int.min_eq_right h1,Int.max_eq_left h1]
   exact ⟨rfl,rfl⟩
  ·have h1:x.2 * (lf 26 x.1:Int)≤x.2 * (LN.hiL (lf 26) x.1:Int):=Int.mul_le_mul_of_nonneg_left (by omega) (by omega)
   rw [if_neg hk,if_neg hk,Int.min_eq_left h1,Int.max_eq_right h1]
   exact ⟨rfl,rfl⟩
theorem quick_sign {tl:List (Int×Int)} (h:TrT tl) (hne:tl≠[]) (hq:quickV tl≠0):quickV tl=LN.signT tl:=by
 unfold quickV at hq ⊢
 split at hq
 ·rename_i ho
  obtain ⟨e1,e2⟩:=lowT_eq tl h.p ho
  rw [if_pos ho]
  rw [e1,e2] at hq ⊢
  split
  ·rename_i h1; rw [sign_of_lo h (by decide) hne h1]
  ·rename_i h1
   rw [if_neg h1] at hq
   split
   ·rename_i h2; rw [sign_of_hi h (by decide) hne h2]
   ·rename_i h2; rw [if_neg h2] at hq; exact absurd rfl hq
 ·exact absurd rfl hq
def Pw (n:Nat):Prop:=n=64∨n=128∨n=256∨n=512∨n=1024
def Dec (tl:List (Int×Int)):Prop:=0≤LN.eLo (lf 1024) tl∨LN.eHi (lf 1024) tl≤0
theorem sign_dec (w:World) (b1 b2:Option Addr) (d1 d2 D E:Nat) (tl:List (Int×Int)) (T:TermsAt w tl b1 b2) (R:TrT tl) (hE:E≤20000) (hK:∀ x∈tl,x.2.natAbs < 2 ^ E) (hd:tl≠[]→Dec tl) (L:Laid w) :
  Gives Tryz.prog 83 #[.agg (tcells b1 d1 b2 d2 tl.length D)] w (.int .i64 (LN.signT tl)):=by
 by_cases h0:tl=[]
 ·have:=sign_quick w b1 b2 d1 d2 D tl T L (.inl h0)
  rw [if_pos h0] at this
  rw [h0] at this ⊢
  exact this
 by_cases hq:quickV tl≠0
 ·have:=sign_quick w b1 b2 d1 d2 D tl T L (.inr hq)
  rw [if_neg h0,quick_sign R h0 hq] at this
  exact this
 ·have hq0:quickV tl=0:=by omega
  unfold Gives
  have Hb0:=hd_ ((Below.refl w.heap.size w).alloc nr_ (.cells (tcells b1 d1 b2 d2 tl.length D) 141))
  have Hn:=hd_ (quick_any _ b1 b2 d1 d2 D tl (T.below Hb0.out) (L.below Hb0.out))
  rw [hq0] at Hn
  have hl0:((tl.length:Int) == 0)=false:=by
   rw [beq_eq_false_iff_ne]
   intro h
   exact h0 (List.eq_nil_of_length_eq_zero (by omega))
  have He:Hid (∀ (n:Nat) W,n≤1056→Below w.heap.size w W→Gives Tryz.prog 136 #[.agg (tcells b1 d1 b2 d2 tl.length D),.int .i64 n] W (.tuple #[.string (itx (LN.eLo (lf n) tl)),.string (itx (LN.eHi (lf n) tl))])) :=
   fun n W hn hW=>ends_any W b1 b2 d1 d2 D n E tl (T.below hW) R.p hE hK hn (L.below hW)
  have Hlo:Hid (∀ n:Nat,n≤1056→0≤LN.eLo (lf n) tl→LN.signT tl=1):=fun n hn h=>sign_of_lo R hn h0 h
  have Hhi:Hid (∀ n:Nat,n≤1056→LN.eHi (lf n) tl≤0→LN.signT tl = -1):=fun n hn h=>sign_of_hi R hn h0 h
  have Hdec:=hd_ (hd h0)
  clear T L hq h0 hq0 R hE hK hd
  generalize LN.signT tl=sv at *
  generalize hm:tl.length=m at *
  clear hm
  have Hob:=hd_ (heap_at w (tcells b1 d1 b2 d2 m D) 141 w.heap.size rfl)
  obtain ⟨m0,m1,m2,m3⟩:=obj_cells3 Hob.out
  clear m3
  go_enter Tryz.func83,Tryz.ntmps83
  go_wp2_with fail
  go_step3
  go_wp2_with fail
  refine cm_ Hn.out ?_
  rintro e w1 ⟨rfl,hb1⟩
  have Hb1:=hd_ (Hb0.out.trans (hb1.mono Hb0.out.size))
  have Hk1:=hd_ (heap_kept Hob.out hb1 nr_)
  clear hb1 Hn Hb0 Hob m0 m1 m2
  go_wp2_with fail
  go_step3
  go_wp2_with fail
  go_loopw [4] (fun a wr=>∃ (n:Nat),Hid (Pw n)∧n≤1024∧a = .int .i64 n∧Hid (Below w.heap.size w wr)∧Hid (wr.heap[w.heap.size]?=some (.cells (tcells b1 d1 b2 d2 m D) 141 (0,0)))) (fun a _=>1024 - (intOf a).toNat)
  case atStart=>exact ⟨64,.inl rfl,by decide,rfl,Hb1,Hk1⟩
  case round =>
   clear Hb1 Hk1
   obtain ⟨n,Hp,hn,rfl,Hb,Hk⟩:=hrel
   obtain ⟨m0,m1,m2,m3⟩:=obj_cells3 Hk.out
   clear m3
   have Hen:=hd_ (He.out n wr (by omega) Hb.out)
   have hlo:=Hlo.out n (by omega)
   have hhi:=Hhi.out n (by omega)
   have hlast:n=1024→0≤LN.eLo (lf n) tl∨LN.eHi (lf n) tl≤0:=fun h=>by rw [h]; exact Hdec.out
   clear He Hlo Hhi Hdec
   generalize LN.eLo (lf n) tl=lo at *
   generalize LN.eHi (lf n) tl=hi at *
   have Hs1:Hid (∀ W,Gives Tryz.prog 137 #[.string (itx lo)] W (.int .i64 lo.sign)):=fun W=>sign_any W lo
   have Hs2:Hid (∀ W,Gives Tryz.prog 137 #[.string (itx hi)] W (.int .i64 hi.sign)):=fun W=>sign_any W hi
   have c1:=sign_cases lo
   have c2:=sign_cases hi
   have hw:IntKind.i64.wrap ((n:Int) * 2)=((n * 2:Nat):Int):=by rw [show (n:Int) * 2=((n * 2:Nat):Int) by omega]; exact iw_ _ (by omega)
   by_cases h1:0≤lo
   ·have Hv:=hd_ (hlo h1)
    have h1':0≤lo.sign:=by omega
    generalize lo.sign=sl at *
    clear c1 c2 hlo hhi hlast Hs2 h1
    generalize itx lo=slo at *
    generalize itx hi=shi at *
    have B1:=Hb
    have K1:=Hk
    clear Hb Hk
    go_wp2_with fail
    refine cm_ (Hen.out) ?_
    rintro e w2 ⟨rfl,hb⟩
    have B2:=hd_ (B1.out.trans (hb.mono B1.out.size))
    have K2:=hd_ (heap_kept K1.out hb nr_)
    clear hb B1 K1
    go_wp2_with fail
    refine cm_ (Hs1.out _) ?_
    rintro e w3 ⟨rfl,hb⟩
    have B3:=hd_ (B2.out.trans (hb.mono B2.out.size))
    have K3:=hd_ (heap_kept K2.out hb nr_)
    clear hb B2 K2
    go_wp2_with fail
    rw [Exit.noGoto_ret]
    go_ret
    exact ⟨by rw [Hv.out]; rfl,B3.out⟩
   ·have h1':lo.sign < 0:=by omega
    by_cases h2:hi≤0
    ·have Hv:=hd_ (hhi h2)
     have h2':hi.sign≤0:=by omega
     generalize lo.sign=sl at *
     generalize hi.sign=sh at *
     clear c1 c2 hlo hhi hlast h1 h2
     generalize itx lo=slo at *
     generalize itx hi=shi at *
     have B1:=Hb
     have K1:=Hk
     clear Hb Hk
     go_wp2_with fail
     refine cm_ (Hen.out) ?_
     rintro e w2 ⟨rfl,hb⟩
     have B2:=hd_ (B1.out.trans (hb.mono B1.out.size))
     have K2:=hd_ (heap_kept K1.out hb nr_)
     clear hb B1 K1
     go_wp2_with fail
     refine cm_ (Hs1.out _) ?_
     rintro e w3 ⟨rfl,hb⟩
     have B3:=hd_ (B2.out.trans (hb.mono B2.out.size))
     have K3:=hd_ (heap_kept K2.out hb nr_)
     clear hb B2 K2
     go_wp2_with fail
     refine cm_ (Hs2.out _) ?_
     rintro e w4 ⟨rfl,hb⟩
     have B4:=hd_ (B3.out.trans (hb.mono B3.out.size))
     have K4:=hd_ (heap_kept K3.out hb nr_)
     clear hb B3 K3
     go_wp2_with fail
     rw [Exit.noGoto_ret]
     go_ret
     exact ⟨by rw [Hv.out]; rfl,B4.out⟩
    ·have h2':0 < hi.sign:=by omega
     have hn2:n * 2≤1024:=by
      rcases Hp.out with h | h | h | h | h
      ·omega
      ·omega
      ·omega
      ·omega
      ·have:=hlast h; omega
     have hp2:Hid (Pw (n * 2)):=by
      rcases Hp.out with h | h | h | h | h
      ·subst h; exact .inr (.inl rfl)
      ·subst h; exact .inr (.inr (.inl rfl))
      ·subst h; exact .inr (.inr (.inr (.inl rfl)))
      ·subst h; exact .inr (.inr (.inr (.inr rfl)))
      ·have:=hlast h; omega
     have hn0:0 < n:=by rcases Hp.out with h | h | h | h | h <;> omega
     generalize lo.sign=sl at *
     generalize hi.sign=sh at *
     clear c1 c2 hlo hhi hlast h1 h2
     generalize itx lo=slo at *
     generalize itx hi=shi at *
     have B1:=Hb
     have K1:=Hk
     clear Hb Hk
     go_wp2_with fail
     refine cm_ (Hen.out) ?_
     rintro e w2 ⟨rfl,hb⟩
     have B2:=hd_ (B1.out.trans (hb.mono B1.out.size))
     have K2:=hd_ (heap_kept K1.out hb nr_)
     clear hb B1 K1
     go_wp2_with fail
     refine cm_ (Hs1.out _) ?_
     rintro e w3 ⟨rfl,hb⟩
     have B3:=hd_ (B2.out.trans (hb.mono B2.out.size))
     have K3:=hd_ (heap_kept K2.out hb nr_)
     clear hb B2 K2
     go_wp2_with fail
     refine cm_ (Hs2.out _) ?_
     rintro e w4 ⟨rfl,hb⟩
     have B4:=hd_ (B3.out.trans (hb.mono B3.out.size))
     have K4:=hd_ (heap_kept K3.out hb nr_)
     clear hb B3 K3
     go_wp2_with fail
     go_roundw
     case rel=>exact ⟨n * 2,hp2,hn2,rfl,B4,K4⟩
     case measure=>simp [intOf]; omega
end Go.Proofs.YtkoicfghplmghaaGreatDoor

namespace Go.Proofs.YtkoicfghplmghaaGreatDoor
open Go.RowKit
theorem sgo_ok:∀ (l:List Rat),(∀ q∈l,Sm 30 q)→sgo (l.map qs)=0
 | [],_=>rfl
 | q :: l,h=>by
  have h1:∃ p:Rat,qs q=qs p∧Sm 400 p:=⟨q,rfl,(h q List.mem_cons_self).le (by decide)⟩
  have h2:∃ p:Rat,qs q=qs p∧shortQ p:=⟨q,rfl,h q List.mem_cons_self⟩
  rw [List.map_cons,sgo,if_pos h1,if_pos h2]
  exact sgo_ok l fun p hp=>h p (List.mem_cons_of_mem _ hp)
theorem scode_ok {n:Nat} {l:List Rat} (h:∀ q∈l,Sm 30 q) (hl:l.length=n):scode n (l.map qs)=0:=by
 unfold scode
 rw [if_pos (by rw [List.length_map]; exact hl),sgo_ok l h]
theorem itx_size (z:Int) (D:Nat) (hD:0 < D) (h:z.natAbs < 10 ^ D):(itx z).size≤D + 1:=by
 have h1:=(size_lt z.natAbs D hD).2 h
 have h2:=itx_size_le z
 omega
theorem ssz_ok {l:List Rat} (h:∀ q∈l,Sm 30 q):Ssz (l.map qs):=fun x hx=>by
 obtain ⟨q,hq,rfl⟩:=List.mem_map.1 hx
 have h1:=itx_size q.num 30 (by decide) (h q hq).1
 have h2:=(size_lt q.den 30 (by decide)).2 (h q hq).2
 exact ⟨Nat.le_trans h1 (by decide),Nat.le_trans h2 (by decide)⟩
theorem lcode_two {ps:List Int} {la lb:List Rat} (hp:pcode ps=0) (ha:∀ q∈la,Sm 30 q) (hb:∀ q∈lb,Sm 30 q) (h1:la.length=ps.length) (h2:lb.length=ps.length):lcode ps [la.map qs,lb.map qs]=0:=by
 unfold lcode
 rw [if_pos hp,lgo,if_pos (scode_ok ha h1),lgo,if_pos (scode_ok hb h2),lgo]
theorem SizeOk.le {w:World} {ps:List Int} {a0 a:Option Addr} {l:List Rat} {D E:Nat} (h:SizeOk w ps a0 a l D) (hE:D≤E) (h1:E≤1000):SizeOk w ps a0 a l E :=
 ⟨h.rp,h.rl,h.len,h.n,h.pr,fun q hq=>(h.sm q hq).le hE,h1⟩
theorem checkAll_two (W:World) (ps:List Int) (g:Nat) (a0 a1 a2:Option Addr) (c0 c1 c2:Nat) (la lb:List Rat) (A:SizeOk W ps a0 a1 la 30) (B:SizeOk W ps a0 a2 lb 30) (hp:pcode ps=0) (L:Laid W)
  (h1:W.heap[g]?=some (.cells #[.slice a1 la.length c1,.slice a2 lb.length c2] 47 (0,0))) :
  Gives Tryz.prog 108 #[.slice a0 ps.length c0,.slice (some ⟨g,0,none⟩) 2 2] W (.int .i64 0):=by
 have h1':W.heap[g]?=some (.cells #[.slice a1 (la.map qs).length c1,.slice a2 (lb.map qs).length c2] 47 (0,0)):=by rw [List.length_map,List.length_map]; exact h1
 have hn:=A.n
 have e1:=A.len
 have e2:=B.len
 have h:=checkAll_any W a0 _ c0 2 ps [la.map qs,lb.map qs] A.rp A.i64 (by omega) (rdl_two h1' A.rl B.rl) (by simp)
  (by
   intro l hl
   simp only [List.mem_cons,List.not_mem_nil,or_false] at hl
   rcases hl with rfl | rfl
   ·exact ⟨by rw [List.length_map]; omega,ssz_ok A.sm⟩
   ·exact ⟨by rw [List.length_map]; omega,ssz_ok B.sm⟩) L
 rw [lcode_two hp A.sm B.sm e1 e2] at h
 exact h
theorem checkQuotient_ok (w:World) (ps:List Int) (a0 a1 a2:Option Addr) (c0 c1 c2:Nat) (la lb:List Rat) (A:SizeOk w ps a0 a1 la 30) (B:SizeOk w ps a0 a2 lb 30) (hp:pcode ps=0) (L:Laid w)
  (hq:tlQ ps lb≠[]) :
  Gives Tryz.prog 153 #[.slice a0 ps.length c0,.slice a1 la.length c1,.slice a2 lb.length c2] w (.int .i64 0):=by
 unfold Gives
 have HB:=hd_ B
 have HL:=hd_ L
 have Hk:Hid (∀ W g,Below w.heap.size w W→W.heap[g]?=some (.cells #[.slice a1 la.length c1,.slice a2 lb.length c2] 47 (0,0))→Gives Tryz.prog 108 #[.slice a0 ps.length c0,.slice (some ⟨g,0,none⟩) 2 2] W (.int .i64 0)):=fun W g hW hg =>
  checkAll_two W ps g a0 a1 a2 c0 c1 c2 la lb (A.below hW) (B.below hW) hp (L.below hW) hg
 have hz:(((tlQ ps lb).length:Int) == 0)=false:=by
  rw [beq_eq_false_iff_ne]
  intro h
  exact hq (List.eq_nil_of_length_eq_zero (by omega))
 have Ht:Hid (∀ W,Below w.heap.size w W→Calls Tryz.prog 82 #[.slice a0 ps.length c0,.slice a2 lb.length c2] W fun e w'=>∃ b1 d1 b2 d2,e = .returned (.agg (tcells b1 d1 b2 d2 (tlQ ps lb).length (tden lb)))∧TermsAt w' (tlQ ps lb) b1 b2∧Below W.heap.size W w'):=fun W hW =>
  terms_ok (HB.out.below hW) (HL.out.below hW)
 clear A B hp L hq HB HL
 generalize (tlQ ps lb).length=m at *
 go_enter Tryz.func153,Tryz.ntmps153
 go_wp2_with fail
 have B1:=hd_ ((Below.refl w.heap.size w).alloc nr_ (.cells #[.slice a1 la.length c1,.slice a2 lb.length c2] 47))
 refine cm_ (Hk.out _ _ B1.out (heap_at w _ _ _ rfl)) ?_
 rintro e w1 ⟨rfl,hb⟩
 have B2:=hd_ (B1.out.trans (hb.mono B1.out.size))
 clear hb Hk B1
 go_wp2_with fail
 refine cm_ (Ht.out _ B2.out) ?_
 rintro e w2 ⟨b1,d1,b2,d2,rfl,T,hb⟩
 have B3:=hd_ (B2.out.trans (hb.mono B2.out.size))
 clear hb Ht T
 have hf:∀ W:World,(Instr.field 141 (.agg (tcells b1 d1 b2 d2 m (tden lb))) 0).run Tryz.prog W = .ok (.slice b1 m d1) W:=fun W=>by rfl
 go_wp2_with fail
 go_ret
 exact ⟨rfl,B3.out⟩
end Go.Proofs.YtkoicfghplmghaaGreatDoor

namespace Go.Proofs.YtkoicfghplmghaaGreatDoor
open Go.RowKit
theorem fieldsQ : (Tryz.prog.fieldsOf 58).toList.map (fun f => (f.name, f.type, f.offset)) = [("Num", 56, 0), ("Den", 56, 1)] := by kernel_rfl
theorem stoodQ:Tryz.prog.stoodInHeld 58=false:=by kernel_rfl
theorem guardQ:Tryz.prog.eqGuardType Tryz.prog.depth 58=false:=by kernel_rfl
theorem eqFields_two (W : World) (d : Nat) (s t s' t' : ByteArray) (fs : List Field) (h : fs.map (fun f => (f.name, f.type, f.offset)) = [("Num", 56, 0), ("Den", 56, 1)]) :
  (Op.eqFields (d + 1) #[.string s,.string t] #[.string s',.string t'] fs).run Tryz.prog W = .ok (s.toList == s'.toList && t.toList == t'.toList) W:=by
 obtain ⟨f,g,rfl⟩:∃ f g,fs=[f,g]:=by
  have hl:=congrArg List.length h
  rw [List.length_map] at hl
  cases fs with
  | nil=>simp at hl
  | cons f fs =>
   cases fs with
   | nil=>simp at hl
   | cons g fs =>
    cases fs with
    | nil=>exact ⟨f,g,rfl⟩
    | cons x fs=>simp at hl
 simp only [List.map_cons,List.map_nil,List.cons.injEq,Prod.mk.injEq,and_true] at h
 obtain ⟨⟨h1,h2,h3⟩,h4,h5,h6⟩:=h
 have hu:=Tryz.underlying56
 simp [Op.eqFields,h1,h2,h3,h4,h5,h6,go_sem,hu]
 by_cases q1:s.toList=s'.toList <;> by_cases q2:t.toList=t'.toList <;> simp [q1,q2]
theorem structQ:Tryz.prog.underlying 58=some (.struct (Tryz.prog.fieldsOf 58)):=by
 have h:=Tryz.underlying58
 unfold Program.fieldsOf
 rw [h]
theorem neqQ_run (W:World) (s t s' t':ByteArray) :
  (binOp .neq 58 (.agg #[.string s,.string t]) (.agg #[.string s',.string t'])).run Tryz.prog W = .ok (.bool (!(s.toList == s'.toList && t.toList == t'.toList))) W:=by
 rw [run_neq_struct,show (10000:Nat)=9998 + 1 + 1 from rfl,run_equalIn_agg (ht:=structQ) (hp:=stoodQ),eqFields_two W _ s t s' t' _ fieldsQ]
 rfl
theorem guardQ_run (W:World) (op:BinOp) (x y:Operand) (xs ys:Array Value):(eqGuard op 58 x y (.agg xs) (.agg ys)).run Tryz.prog W = .ok () W:=run_eqGuard_agg W op _ x y xs ys guardQ
theorem toList_inj {a b:ByteArray} (h:(a.toList == b.toList)=true):a=b:=by
 have h1:=eq_of_beq h
 rw [ByteArray.toList_eq,ByteArray.toList_eq] at h1
 exact ByteArray.ext (Array.toList_inj.1 h1)
theorem qs_beq (p q:Rat):((itx p.num).toList == (itx q.num).toList && (dec p.den).toList == (dec q.den).toList)=decide (p=q):=by
 by_cases h:p=q
 ·subst h; simp
 ·rw [decide_eq_false h,Bool.eq_false_iff]
  intro hc
  rw [Bool.and_eq_true] at hc
  exact h (Rat.ext (itx_inj (toList_inj hc.1)) (decB_inj (toList_inj hc.2)))
theorem quiet_neqQ {C:World→Prop} {K:Act→Prop} {a:Act} {o:Oper} (x y:Operand) (r:TypeId) (p q:Rat) (h:o.op = .binOp .neq 58 x y r) (hx:a.eval x = .agg #[.string (itx p.num),.string (dec p.den)]) (hy:a.eval y = .agg #[.string (itx q.num),.string (dec q.den)])
  (hk:K (a.put o.dst (.bool (!decide (p=q))))):o.quiet Tryz.prog a C K :=
 ⟨_,fun w _=>by
  unfold Oper.quietAt execOp
  rw [h]
  simp only [Sem.run_bind,hx,hy,guardQ_run,neqQ_run,Result.andThen_ok,Sem.run_pure,qs_beq]
  exact ⟨rfl,rfl⟩,hk⟩
end Go.Proofs.YtkoicfghplmghaaGreatDoor

namespace Go.Proofs.YtkoicfghplmghaaGreatDoor
open Go.RowKit
theorem Sm.inv {D:Nat} {q:Rat} (h:Sm D q) (_:0 < D):Sm D q⁻¹:=by
 have e:q⁻¹=Rat.inv q:=rfl
 have h1:=h.1
 have h2:=h.2
 rw [e]
 unfold Rat.inv
 split
 ·refine ⟨?_,h.1⟩
  show (-(q.den:Int)).natAbs < _
  omega
 ·split
  ·exact ⟨by show ((q.den:Nat):Int).natAbs < _; omega,h.1⟩
  ·exact h
theorem Sm.div {D E:Nat} {a b:Rat} (ha:Sm D a) (hb:Sm E b):Sm (D + E) (a / b):=by
 rw [Rat.div_def]; exact ha.mul (hb.inv hb.pos)
def ratioK (la lb:List Rat):Nat→Rat
 | 0=>0
 | k + 1=>if lb.getD k 0=0 then ratioK la lb k else la.getD k 0 / lb.getD k 0
theorem getD_sm {D:Nat} {l:List Rat} (h:∀ q∈l,Sm D q) (hD:0 < D) (k:Nat):Sm D (l.getD k 0):=by
 rw [List.getD_eq_getElem?_getD]
 rcases Nat.lt_or_ge k l.length with hk | hk
 ·rw [List.getElem?_eq_getElem hk]; exact h _ (List.getElem_mem hk)
 ·rw [List.getElem?_eq_none hk]; exact Sm.zero.le hD
theorem ratioK_sm {D:Nat} {la lb:List Rat} (ha:∀ q∈la,Sm D q) (hb:∀ q∈lb,Sm D q) (hD:0 < D):∀ k,Sm (D + D) (ratioK la lb k)
 | 0=>Sm.zero.le (by omega)
 | k + 1=>by
  unfold ratioK
  split
  ·exact ratioK_sm ha hb hD k
  ·exact (getD_sm ha hD k).div (getD_sm hb hD k)
def ratioB (la lb:List Rat) (n:Nat) (k:Rat):Bool:=decide (∀ j,j < n→k * lb.getD j 0=la.getD j 0)
theorem obj_pair {w:World} {g:Nat} {a b:Value} {t:TypeId} (h:w.heap[g]?=some (.cells #[a,b] t (0,0))) (x y:Value) :
  ((w.setCell ⟨g,0,none⟩ x).setCell ⟨g,1,none⟩ y).heap[g]?=some (.cells #[x,y] t (0,0)):=by
 rw [obj_set (obj_set h 0 x) 1 y]; rfl
theorem obj_pair_other {w:World} {g k:Nat} {o:Obj} (h:w.heap[k]?=some o) (hk:g≠k) (x y:Value) :
  ((w.setCell ⟨g,0,none⟩ x).setCell ⟨g,1,none⟩ y).heap[k]?=some o:=by
 rw [obj_other hk,obj_other hk]; exact h
structure BW (W:World) where
 w:World
 b:Below W.heap.size W w
theorem BW.cell {W:World} {p:Addr} {v:Value} (h:W.cell? p=some v) (q:BW W):q.w.cell? p=some v:=(q.b.cell (block_lt_of_cell h)).trans h
theorem ratio_any (w:World) (a1 a2:Option Addr) (c1 c2 n D:Nat) (la lb:List Rat) (ra:Rd w a1 (cellsQ la)) (rb:Rd w a2 (cellsQ lb)) (ea:la.length=n) (eb:lb.length=n)
  (sa:∀ q∈la,Sm D q) (sb:∀ q∈lb,Sm D q) (hn:n≤1000) (hD0:0 < D) (hD:D≤1000) (L:Laid w) :
  Gives Tryz.prog 189 #[.slice a1 n c1,.slice a2 n c2] w (.tuple #[fr (ratioK la lb n),.bool (ratioB la lb n (ratioK la lb n))]):=by
 unfold Gives
 have HL:=hd_ L
 have Hra:=hd_ ra
 have Hrb:=hd_ rb
 have Hea:=hd_ ea
 have Heb:=hd_ eb
 have Hsa:=hd_ sa
 have Hsb:=hd_ sb
 have HD:=hd_ hD
 have HD0:=hd_ hD0
 have B0:=hd_ ((Below.refl w.heap.size w).alloc nr_ (.cells #[.string ⟨#[]⟩,.string ⟨#[]⟩] 58))
 have K0:=hd_ (heap_at w #[.string ⟨#[]⟩,.string ⟨#[]⟩] 58 _ rfl)
 have S0:Hid ((w.alloc (.cells #[.string ⟨#[]⟩,.string ⟨#[]⟩] 58)).heap.size=w.heap.size + 1):=by show (w.heap.push _).size=_; exact Array.size_push ..
 have Hnum:Hid (∀ W,Below w.heap.size w W→Gives Tryz.prog 79 #[.int .i64 0] W (.agg #[.string (itx 0),.string (dec 1)])):=fun W hW=>number_any W 0 (by decide) (by decide) (HL.out.below hW)
 clear L ra rb ea eb sa sb hD hD0
 go_enter Tryz.func189,Tryz.ntmps189
 go_wp2_with fail
 generalize w.alloc (.cells #[.string ⟨#[]⟩,.string ⟨#[]⟩] 58)=w0 at *
 refine cm_ (Hnum.out _ B0.out) ?_
 rintro e w1 ⟨rfl,hb⟩
 have B1:=hd_ (B0.out.trans (hb.mono B0.out.size))
 have K1:=hd_ (heap_kept K0.out hb nr_)
 have S1:Hid (w.heap.size + 1≤w1.heap.size):=by show _≤_; have:=hb.size; have:=S0.out; omega
 clear hb K0 B0 S0 Hnum
 go_wp2_with fail
 have B2:=hd_ (B1.out.alloc B1.out.size (.cells #[.string (itx 0),.string (dec 1)] 58))
 have K2:=hd_ (heap_old K1.out (.cells #[.string (itx 0),.string (dec 1)] 58))
 have M2:=hd_ (heap_at w1 #[.string (itx 0),.string (dec 1)] 58 _ rfl)
 have hne:w.heap.size≠w1.heap.size:=by have:=S1.out; omega
 have hge:w.heap.size≤w1.heap.size:=by have:=S1.out; omega
 have Hne:=hd_ hne
 have Hge:=hd_ hge
 generalize w1.alloc (.cells #[.string (itx 0),.string (dec 1)] 58)=w2 at *
 clear K1 B1 S1 hne hge
 generalize w1.heap.size=g1 at *
 go_loopw [14] (fun i wr=>∃ k:Nat,k≤n∧i = .int .i64 k∧Hid (wr.heap[w.heap.size]?=some (.cells #[.string ⟨#[]⟩,.string ⟨#[]⟩] 58 (0,0)))∧Hid (wr.heap[g1]?=some (.cells #[.string (itx (ratioK la lb k).num),.string (dec (ratioK la lb k).den)] 58 (0,0)))∧Hid (Below w.heap.size w wr)) (fun i _=>n - (intOf i).toNat)
 case atStart=>exact ⟨0,Nat.zero_le _,rfl,K2,M2,B2⟩
 case round =>
  obtain ⟨k,hk,rfl,K,M,B⟩:=hrel
  by_cases hlt:k < n
  ·have hlt':(k:Int) < n:=by omega
   have hkb:k < lb.length:=by rw [Heb.out]; exact hlt
   have hka:k < la.length:=by rw [Hea.out]; exact hlt
   obtain ⟨b,off,rfl,hb,hcells⟩:=Hrb.out.open (by rw [cellsQ_length,Heb.out]; omega)
   obtain ⟨x0,x1⟩:=cellsS_rd hcells k (by rw [List.length_map]; exact hkb)
   rw [← B.out.cell (p:=⟨b,off + k * 2,none⟩) hb,qs_getD _ k hkb] at x0
   rw [← B.out.cell (p:=⟨b,off + k * 2 + 1,none⟩) hb,qs_getD _ k hkb] at x1
   have Hxb:Hid (lb.getD k 0=lb[k]):=by show _=_; rw [List.getD_eq_getElem?_getD,List.getElem?_eq_getElem hkb]; rfl
   have Hxa:Hid (la.getD k 0=la[k]):=by show _=_; rw [List.getD_eq_getElem?_getD,List.getElem?_eq_getElem hka]; rfl
   have Sa:=hd_ (Hsa.out _ (List.getElem_mem hka))
   have Sb:=hd_ (Hsb.out _ (List.getElem_mem hkb))
   obtain ⟨b',off',rfl,hb',hcells'⟩:=Hra.out.open (by rw [cellsQ_length,Hea.out]; omega)
   obtain ⟨y0,y1⟩:=cellsS_rd hcells' k (by rw [List.length_map]; exact hka)
   rw [← B.out.cell (p:=⟨b',off' + k * 2,none⟩) hb',qs_getD _ k hka] at y0
   rw [← B.out.cell (p:=⟨b',off' + k * 2 + 1,none⟩) hb',qs_getD _ k hka] at y1
   have Hs:Hid (ratioK la lb (k + 1)=if lb.getD k 0=0 then ratioK la lb k else la.getD k 0 / lb.getD k 0):=hd_ rfl
   rw [Hxb.out,Hxa.out] at Hs
   generalize lb[k]=xb at *
   generalize la[k]=xa at *
   simp only [qs] at x0 x1 y0 y1
   clear hcells hcells' Hxb Hxa
   by_cases h0:xb=0
   ·subst h0
    have Hs':Hid (ratioK la lb (k + 1)=ratioK la lb k):=by show _=_; rw [Hs.out,if_pos rfl]
    have hz:((itx (0:Int)).toList == [48])=true:=by rw [itx_isz]; rfl
    have B':=hd_ (B.out.alloc B.out.size (.cells #[.string (itx 0),.string (dec 1)] 58))
    have K':=hd_ (heap_old K.out (.cells #[.string (itx 0),.string (dec 1)] 58))
    have M':=hd_ (heap_old M.out (.cells #[.string (itx 0),.string (dec 1)] 58))
    clear Hs y0 y1 B K M Sa Sb
    go_wp2_with fail
    go_roundw
    case rel =>
     refine ⟨k + 1,by omega,by go_num,K',?_,B'⟩
     rw [Hs'.out]
     exact M'
    case measure=>simp [intOf]; omega
   ·have Hs':Hid (ratioK la lb (k + 1)=xa / xb):=by show _=_; rw [Hs.out,if_neg h0]
    have hz:((itx xb.num).toList == [48])=false:=by rw [itx_isz]; exact decide_eq_false fun h=>h0 (Rat.num_eq_zero.1 h)
    have B':=hd_ (B.out.alloc B.out.size (.cells #[.string (itx xb.num),.string (dec xb.den)] 58))
    have K':=hd_ (heap_old K.out (.cells #[.string (itx xb.num),.string (dec xb.den)] 58))
    have M':=hd_ (heap_old M.out (.cells #[.string (itx xb.num),.string (dec xb.den)] 58))
    have N':=hd_ (heap_at wr #[.string (itx xb.num),.string (dec xb.den)] 58 _ rfl)
    have W':=hd_ ((Below.refl wr.heap.size wr).alloc nr_ (.cells #[.string (itx xb.num),.string (dec xb.den)] 58))
    have Y0:=hd_ ((W'.out.cell (p:=⟨b',off' + k * 2,none⟩) (Nat.lt_of_lt_of_le hb' B.out.size)).trans y0)
    have Y1:=hd_ ((W'.out.cell (p:=⟨b',off' + k * 2 + 1,none⟩) (Nat.lt_of_lt_of_le hb' B.out.size)).trans y1)
    have HDv:Hid (∀ W,Below w.heap.size w W→Gives Tryz.prog 221 #[fr xa,fr xb] W (.tuple #[fr (xa / xb),.int .i64 0])):=fun W hW =>
     divR W xa xb D D Sa.out Sb.out h0 (by have:=HD.out; omega) (HL.out.below hW)
    unfold fr fv at HDv
    clear Hs y0 y1 B K M Sa Sb h0 W'
    have H0:=hd_ (show ((0:Int)≤k∧(k:Int) < n) from ⟨by omega,by omega⟩)
    go_wp2_with fail
    generalize wr.alloc (.cells #[.string (itx xb.num),.string (dec xb.den)] 58)=W0 at *
    clear x0 x1
    obtain ⟨k0,k1,-,-⟩:=two_cells N'.out
    have q0:=BW.cell k0
    have q1:=BW.cell k1
    have q2:=BW.cell Y0.out
    have q3:=BW.cell Y1.out
    have hnon:Nonempty (BW W0):=⟨⟨W0,Below.refl _ _⟩⟩
    clear k0 k1 N'
    refine RY.wp_region_readers 9 [(1,0),(1,1),(1,2),(1,3),(1,4),(0,5),(2,6),(2,7),(2,8),(0,9)] (fun w'=>∃ p:BW W0,w'=p.w) (by kernel_rfl) (by kernel_rfl) ?_ ?_
    ·exact ⟨⟨{ W0 with drawn:=W0.drawn + 1 },⟨rfl,rfl,rfl,Nat.le_refl _,fun _ _=>rfl⟩⟩,rfl⟩
    iterate 5 (refine RY.walkR_read ?_; simp only [dsc_,dz_,tsc_,tz_]; go_big_quiet_step (fail); refine wpQuiet_nil ?_)
    clear q0 q1 q2 q3 hnon
    refine RY.walkR_move ?_
    simp only [dsc_,dz_,tsc_,tz_]
    go_wp2_with fail
    refine cm_ (HDv.out _ B'.out.drew) ?_
    rintro e w5 ⟨rfl,hb5⟩
    have W5:Hid (Below W0.heap.size W0 w5):=(Below.refl W0.heap.size W0).drew.trans hb5
    have B5:=hd_ (B'.out.trans (W5.out.mono B'.out.size))
    have K5:=hd_ (heap_kept K'.out W5.out nr_)
    have M5:=hd_ (heap_kept M'.out W5.out nr_)
    clear hb5 HDv K' M' B' Y0 Y1
    go_wp2_with fail
    refine ⟨⟨⟨w5,W5.out⟩,rfl⟩,?_⟩
    refine RY.walkR_any ?_
    simp only [dsc_,dz_,tsc_,tz_]
    go_big_quiet_step (fail)
    refine wpQuiet_nil ?_
    refine RY.walkR_any ?_
    simp only [dsc_,dz_,tsc_,tz_]
    go_big_quiet_step (fail)
    refine wpQuiet_nil ?_
    refine RY.walkR_any ?_
    simp only [dsc_,dz_,tsc_,tz_]
    go_big_quiet_step (fail)
    refine wpQuiet_nil ?_
    obtain ⟨k0,k1,f0,f1⟩:=two_cells M5.out
    refine RY.walkR_move ?_
    simp only [dsc_,dz_,tsc_,tz_]
    go_wp2_with fail
    have B6:=hd_ ((B5.out.setCell (p:=⟨g1,0,none⟩) Hge.out (.string (itx (xa / xb).num))).setCell (p:=⟨g1,1,none⟩) Hge.out (.string (dec (xa / xb).den)))
    have M6:=hd_ (obj_pair M5.out (.string (itx (xa / xb).num)) (.string (dec (xa / xb).den)))
    have K6:=hd_ (obj_pair_other K5.out Hne.out.symm (.string (itx (xa / xb).num)) (.string (dec (xa / xb).den)))
    clear k0 k1 f0 f1 K5 M5 B5 W5
    generalize (w5.setCell ⟨g1,0,none⟩ (.string (itx (xa / xb).num))).setCell ⟨g1,1,none⟩ (.string (dec (xa / xb).den))=w6 at *
    simp only [RY.walkR]
    go_wp2
    go_roundw
    case rel =>
     refine ⟨k + 1,by omega,by go_num,K6,?_,B6⟩
     rw [Hs'.out]
     exact M6
    case measure=>simp [intOf]; omega
  ·have hlt':¬ (k:Int) < n:=by omega
   have hkn:k=n:=by omega
   subst hkn
   clear hk hlt
   generalize hq:ratioK la lb k=q at *
   have Sq:Hid (Sm (D + D) q):=by show Sm _ q; rw [← hq]; exact ratioK_sm Hsa.out Hsb.out HD0.out k
   have Hq:=hd_ hq
   clear hq
   go_wp2_with fail
   go_loopw [34] (fun i wr=>∃ j:Nat,j≤k∧i = .int .i64 j∧Hid (∀ i,i < j→q * lb.getD i 0=la.getD i 0)∧Hid (wr.heap[w.heap.size]?=some (.cells #[.string ⟨#[]⟩,.string ⟨#[]⟩] 58 (0,0)))∧Hid (wr.heap[g1]?=some (.cells #[.string (itx q.num),.string (dec q.den)] 58 (0,0)))∧Hid (Below w.heap.size w wr)) (fun i _=>k - (intOf i).toNat)
   case atStart=>exact ⟨0,Nat.zero_le _,rfl,fun i hi=>absurd hi (Nat.not_lt_zero _),K,M,B⟩
   case round =>
    clear K M B
    obtain ⟨j,hj,rfl,Hall,K,M,B⟩:=hrel
    by_cases hlt:j < k
    ·have hlt':(j:Int) < k:=by omega
     have hkb:j < lb.length:=by rw [Heb.out]; exact hlt
     have hka:j < la.length:=by rw [Hea.out]; exact hlt
     obtain ⟨b,off,rfl,hb,hcells⟩:=Hrb.out.open (by rw [cellsQ_length,Heb.out]; omega)
     obtain ⟨x0,x1⟩:=cellsS_rd hcells j (by rw [List.length_map]; exact hkb)
     rw [← B.out.cell (p:=⟨b,off + j * 2,none⟩) hb,qs_getD _ j hkb] at x0
     rw [← B.out.cell (p:=⟨b,off + j * 2 + 1,none⟩) hb,qs_getD _ j hkb] at x1
     have Hxb:Hid (lb.getD j 0=lb[j]):=by show _=_; rw [List.getD_eq_getElem?_getD,List.getElem?_eq_getElem hkb]; rfl
     have Hxa:Hid (la.getD j 0=la[j]):=by show _=_; rw [List.getD_eq_getElem?_getD,List.getElem?_eq_getElem hka]; rfl
     have Sb:=hd_ (Hsb.out _ (List.getElem_mem hkb))
     obtain ⟨b',off',rfl,hb',hcells'⟩:=Hra.out.open (by rw [cellsQ_length,Hea.out]; omega)
     obtain ⟨y0,y1⟩:=cellsS_rd hcells' j (by rw [List.length_map]; exact hka)
     rw [← B.out.cell (p:=⟨b',off' + j * 2,none⟩) hb',qs_getD _ j hka] at y0
     rw [← B.out.cell (p:=⟨b',off' + j * 2 + 1,none⟩) hb',qs_getD _ j hka] at y1
     generalize lb[j]=xb at *
     generalize la[j]=xa at *
     simp only [qs] at x0 x1 y0 y1
     have B':=hd_ (B.out.alloc B.out.size (.cells #[.string (itx xb.num),.string (dec xb.den)] 58))
     have K':=hd_ (heap_old K.out (.cells #[.string (itx xb.num),.string (dec xb.den)] 58))
     have M':=hd_ (heap_old M.out (.cells #[.string (itx xb.num),.string (dec xb.den)] 58))
     have N':=hd_ (heap_at wr #[.string (itx xb.num),.string (dec xb.den)] 58 _ rfl)
     have W':=hd_ ((Below.refl wr.heap.size wr).alloc nr_ (.cells #[.string (itx xb.num),.string (dec xb.den)] 58))
     have Y0:=hd_ ((W'.out.cell (p:=⟨b',off' + j * 2,none⟩) (Nat.lt_of_lt_of_le hb' B.out.size)).trans y0)
     have Y1:=hd_ ((W'.out.cell (p:=⟨b',off' + j * 2 + 1,none⟩) (Nat.lt_of_lt_of_le hb' B.out.size)).trans y1)
     have HM:Hid (∀ W,Below w.heap.size w W→∀ d os,Calls Tryz.prog 129 #[fr q,fr xb] (Go.Sort.grow (redrawn W d) os) fun e w''=>e = .returned (fr (q * xb))∧∃ p:Regrown,w''=Go.Sort.grow (redrawn W p.d) p.os):=fun W hW =>
      mulR_regrown W q xb (D + D) D Sq.out Sb.out (by have:=HD.out; omega) (HL.out.below hW)
     unfold fr fv at HM
     clear hcells hcells' y0 y1 K M B W' Sb
     have H0:=hd_ (show ((0:Int)≤j∧(j:Int) < k) from ⟨by omega,by omega⟩)
     go_wp2_with fail
     generalize wr.alloc (.cells #[.string (itx xb.num),.string (dec xb.den)] 58)=W0 at *
     clear x0 x1
     obtain ⟨k0,k1,-,-⟩:=two_cells N'.out
     obtain ⟨m0,m1,-,-⟩:=two_cells M'.out
     have q0:=cell_regrown k0
     have q1:=cell_regrown k1
     have q2:=cell_regrown Y0.out
     have q3:=cell_regrown Y1.out
     have q4:=cell_regrown m0
     have q5:=cell_regrown m1
     have hM:=HM.out _ B'.out
     clear k0 k1 HM N' m0 m1
     refine wp_region_quiet_below (by kernel_rfl) (by kernel_rfl) ?_
     repeat (first | go_big_quiet_step (with_reducible exact hM _ _) | quiet_step (with_reducible exact hM _ _))
     refine BigFrame.wpQuiet_want rfl fun K hK=>quiet_neqQ _ _ _ (q * xb) xa rfl rfl rfl (hK _ ?_)
     refine wpQuiet_nil ?_
     intro w2 hw2
     obtain ⟨⟨dq,osq⟩,rfl⟩:=hw2
     have W2:=hd_ (below_regrown W0 dq osq)
     have B2:=hd_ (B'.out.trans (W2.out.mono B'.out.size))
     have K2:=hd_ (heap_kept K'.out W2.out nr_)
     have M2:=hd_ (heap_kept M'.out W2.out nr_)
     clear K' M' B' Y0 Y1 W2 hM q0 q1 q2 q3 q4 q5
     generalize Go.Sort.grow (redrawn W0 dq) osq=w2 at *
     by_cases hqx:q * xb=xa
     ·rw [decide_eq_true hqx]
      have Hall':Hid (∀ i,i < j + 1→q * lb.getD i 0=la.getD i 0):=fun i hi=>by
       rcases Nat.lt_or_ge i j with h | h
       ·exact Hall.out i h
       ·rw [show i=j by omega,Hxb.out,Hxa.out]; exact hqx
      clear hqx Hall Hxa Hxb
      go_wp2_with fail
      go_roundw
      case rel=>exact ⟨j + 1,by omega,by go_num,Hall',K2,M2,B2⟩
      case measure=>simp [intOf]; omega
     ·rw [decide_eq_false hqx]
      have HB:Hid (ratioB la lb k q=false):=by
       show _=_
       exact decide_eq_false fun h=>hqx (by rw [← Hxb.out,← Hxa.out]; exact h j hlt)
      clear hqx Hall Hxa Hxb
      obtain ⟨k0,k1,f0,f1⟩:=two_cells K2.out
      obtain ⟨m0,m1,-,-⟩:=two_cells M2.out
      go_wp2_with fail
      obtain ⟨c0,c1,hb3⟩:=two_stored (B:=w.heap.size) (.string (itx q.num)) (.string (dec q.den)) k0 k1 nr_ B2.out
      generalize (w2.setCell ⟨w.heap.size,0,none⟩ (.string (itx q.num))).setCell ⟨w.heap.size,1,none⟩ (.string (dec q.den))=w9 at *
      rw [Hq.out,HB.out]
      exact bodyPost_ret (v := .tuple #[.agg #[.string (itx q.num),.string (dec q.den)],.bool false]) (by simp [results,Tryz.results189,go_sem,c0,c1]) rfl ⟨rfl,hb3⟩
    ·have hlt':¬ (j:Int) < k:=by omega
     have HB:Hid (ratioB la lb k q=true):=by
      show _=_
      exact decide_eq_true fun i hi=>Hall.out i (by omega)
     clear Hall
     obtain ⟨k0,k1,f0,f1⟩:=two_cells K.out
     obtain ⟨m0,m1,-,-⟩:=two_cells M.out
     go_wp2_with fail
     obtain ⟨c0,c1,hb3⟩:=two_stored (B:=w.heap.size) (.string (itx q.num)) (.string (dec q.den)) k0 k1 nr_ B.out
     generalize (wr.setCell ⟨w.heap.size,0,none⟩ (.string (itx q.num))).setCell ⟨w.heap.size,1,none⟩ (.string (dec q.den))=w9 at *
     rw [Hq.out,HB.out]
     exact bodyPost_ret (v := .tuple #[.agg #[.string (itx q.num),.string (dec q.den)],.bool true]) (by simp [results,Tryz.results189,go_sem,c0,c1]) rfl ⟨rfl,hb3⟩
end Go.Proofs.YtkoicfghplmghaaGreatDoor

namespace Go.Proofs.YtkoicfghplmghaaGreatDoor
open Go.RowKit
end Go.Proofs.YtkoicfghplmghaaGreatDoor

namespace Go.Proofs.YtkoicfghplmghaaGreatDoor
open Go.RowKit
end Go.Proofs.YtkoicfghplmghaaGreatDoor

namespace Go.Proofs.YtkoicfghplmghaaGreatDoor
open Go.RowKit
theorem Floor_of (w:World) (ps:List Int) (a0 a1 a2:Option Addr) (c0 c1 c2:Nat) (la lb:List Rat) (A:SizeOk w ps a0 a1 la 30) (B:SizeOk w ps a0 a2 lb 30) (hp:pcode ps=0) (L:Laid w) (hz:tlQ ps lb≠[]) (q:Int)
  (hf:∀ W,Below w.heap.size w W→Gives Tryz.prog 154 #[.slice a0 ps.length c0,.slice a1 la.length c1,.slice a2 lb.length c2] W (.string (itx q))) :
  Gives Tryz.prog 106 #[.slice a0 ps.length c0,.slice a1 la.length c1,.slice a2 lb.length c2] w (.tuple #[.string (itx q),.int .i64 0]):=by
 unfold Gives
 have Hc:=hd_ (checkQuotient_ok w ps a0 a1 a2 c0 c1 c2 la lb A B hp L hz)
 have Hf:=hd_ hf
 clear A B hp L hz hf
 go_enter Tryz.func106,Tryz.ntmps106
 go_wp2_with fail
 refine cm_ Hc.out ?_
 rintro e w1 ⟨rfl,hb⟩
 have B1:=hd_ hb
 clear hb Hc
 go_wp2_with fail
 refine cm_ (Hf.out _ B1.out) ?_
 rintro e w2 ⟨rfl,hb⟩
 have B2:=hd_ (B1.out.trans (hb.mono B1.out.size))
 clear hb Hf
 go_wp2_with fail
 go_ret2
 exact ⟨rfl,B2.out⟩
theorem Sm.two:Sm 1 2:=⟨by decide,by decide⟩
end Go.Proofs.YtkoicfghplmghaaGreatDoor

namespace Go.Proofs.YtkoicfghplmghaaGreatDoor
open Go.RowKit
end Go.Proofs.YtkoicfghplmghaaGreatDoor

namespace Go.Proofs.YtkoicfghplmghaaGreatDoor
open Go.RowKit
end Go.Proofs.YtkoicfghplmghaaGreatDoor

namespace Go.Proofs.YtkoicfghplmghaaGreatDoor
open Go.RowKit
end Go.Proofs.YtkoicfghplmghaaGreatDoor

namespace Go.Proofs.YtkoicfghplmghaaGreatDoor
open Go.RowKit
end Go.Proofs.YtkoicfghplmghaaGreatDoor

namespace Go.Proofs.YtkoicfghplmghaaGreatDoor
open Go.RowKit
end Go.Proofs.YtkoicfghplmghaaGreatDoor

namespace Go.Proofs.YtkoicfghplmghaaGreatDoor
open Go.RowKit
end Go.Proofs.YtkoicfghplmghaaGreatDoor

namespace Go.Proofs.YtkoicfghplmghaaGreatDoor
open Go.RowKit
end Go.Proofs.YtkoicfghplmghaaGreatDoor

namespace Go.Proofs.YtkoicfghplmghaaGreatDoor
open Go.RowKit
end Go.Proofs.YtkoicfghplmghaaGreatDoor

namespace Go.Proofs.YtkoicfghplmghaaGreatDoor
open Go.RowKit
end Go.Proofs.YtkoicfghplmghaaGreatDoor

namespace Go.Proofs.YtkoicfghplmghaaGreatDoor
open Go.RowKit Go.Shelf
end Go.Proofs.YtkoicfghplmghaaGreatDoor

namespace Go.Proofs.YtkoicfghplmghaaGreatDoor
open Go.RowKit
end Go.Proofs.YtkoicfghplmghaaGreatDoor

namespace Go.Proofs.YtkoicfghplmghaaGreatDoor
open Go.RowKit
instance (D:Nat) (q:Rat):Decidable (Sm D q):=by unfold Sm; infer_instance
end Go.Proofs.YtkoicfghplmghaaGreatDoor

namespace Go.Proofs.YtkoicfghplmghaaGreatDoor
open Go.RowKit
theorem k7:((itx 7).toList == [55])=true:=by decide +kernel
end Go.Proofs.YtkoicfghplmghaaGreatDoor

namespace Go.Proofs.YtkoicfghplmghaaGreatDoor
open Go.RowKit
end Go.Proofs.YtkoicfghplmghaaGreatDoor

namespace Go.Proofs.YtkoicfghplmghaaGreatDoor
open Go.RowKit
end Go.Proofs.YtkoicfghplmghaaGreatDoor
