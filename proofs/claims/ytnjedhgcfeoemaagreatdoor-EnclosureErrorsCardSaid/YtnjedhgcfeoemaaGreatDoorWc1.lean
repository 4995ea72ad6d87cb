/- Lemmas for the laws of this seat, part 1. -/
import Derived.Test.YtnjedhgcfeoemaaGreatDoorRows
import Derived.Stop.LaidErr
import Derived.Lib.LaidTab
import Derived.ProofKit
import Derived.LaidMore
import Derived.OpenShut
import Derived.Stop.Joined
import Derived.MakeChecks
import Derived.Lib.SmallJoins
import Derived.Test.YtnjedhgcfeoemaaGreatDoorCards
import Derived.Test.YtnjedhgcfeoemaaGreatDoorTie
import Derived.SevenTiedAt
import Derived.Test.YtnjedhgcfeoemaaGreatDoorWb4
set_option maxRecDepth 100000
set_option maxHeartbeats 16000000
namespace Go.Proofs.YtnjedhgcfeoemaaGreatDoor
open Go.ChangeShapes Go.WideShapes Go.ChangeAt Go.RowKit
theorem cellsInt:Tryz.prog.cellsOf 3=1:=by kernel_rfl
theorem open_ints_any {H:Type} {enc:TypeId×Value→H} {W:World} {v:Value} {d:DataW H} {p:List MemPlace} {t:TypeId} (ht:Tryz.prog.underlying t=some (.slice 3))
  (h:DataW.Trod enc Tryz.prog W 0 (fun _=>true) true t v d p) (hv:∃ a len cap,v = .slice a len cap) :
  ∃ (a:Option Addr) (c:Nat) (l:List Int),v = .slice a l.length c∧Rd W a (ints l)∧I64s l∧l.length≤maxLen:=by
 obtain ⟨a,len,cap,rfl⟩:=hv
 obtain ⟨fuel,hf⟩:=h
 rcases open_ints ht Tryz.underlying3 cellsInt hf with ⟨hcs,_⟩ | ⟨a,len,cap,zs,hcs,_,hl,hm,hz,_,hcell,hwz⟩
 ·simp [Value.cells] at hcs
  obtain ⟨rfl,rfl,rfl⟩:=hcs
  exact ⟨none,0,[],rfl,.inl rfl,(fun x hx=>by cases hx),Nat.zero_le _⟩
 ·simp [Value.cells] at hcs
  obtain ⟨rfl,rfl,rfl⟩:=hcs
  simp only [if_true] at hz
  refine ⟨some a,cap,zs.take len,by simp; omega,?_,?_,by simp; omega⟩
  ·by_cases h0:len=0
   ·subst h0; exact .inl (by simp [ints])
   ·obtain ⟨b,off,rfl,hc⟩:=ints_at hcell (by omega)
    refine .inr ⟨b,off,rfl,block_lt_of_cell (hc 0 (by omega)),fun i v hi=>?_⟩
    unfold ints at hi
    rw [List.getElem?_map,Option.map_eq_some_iff] at hi
    obtain ⟨x,hx,rfl⟩:=hi
    obtain ⟨hil,hxe⟩:=List.getElem?_eq_some_iff.1 hx
    rw [List.length_take] at hil
    rw [hc i (by omega),List.getD_eq_getElem?_getD,List.getElem?_eq_getElem (by omega)]
    rw [List.getElem_take] at hxe
    rw [← hxe]; rfl
  ·intro x hx
   exact bounds_i64 (hwz x (List.mem_of_mem_take hx))
end Go.Proofs.YtnjedhgcfeoemaaGreatDoor

namespace Go.Proofs.YtnjedhgcfeoemaaGreatDoor
open Go.RowKit
theorem combine_err (w:World) (a0 a1 a2:Option Addr) (c0 c1 c2 m:Nat) (ps:List Int) (ls:List Pairs) (rp:Rd w a0 (ints ps)) (hi:I64s ps) (hl0:ps.length≤1000000) (rl:RdL w a1 ls) (hl:ls.length≤1000000) (hl2:∀ l∈ls,l.length≤1000000∧Ssz l)
  (hc:lcode ps ls≠0) (L:Laid w):GivesErr 103 #[.slice a0 ps.length c0,.slice a1 ls.length c1,.slice a2 m c2] w (lcode ps ls):=by
 unfold GivesErr Gives
 have H1:=hd_ (checkAll_any w a0 a1 c0 c1 ps ls rp hi hl0 rl hl hl2 L)
 have hp0:(lcode ps ls == 0)=false:=by rw [beq_eq_false_iff_ne]; exact hc
 clear rp hi hl0 rl hl hl2 hc L
 generalize lcode ps ls=p at *
 generalize ps.length=n at *
 generalize ls.length=k at *
 go_enter Tryz.func103,Tryz.ntmps103
 go_wp2_with fail
 refine cm_ H1.out ?_
 rintro e w1 ⟨rfl,hb1⟩
 have Hb1:=hd_ hb1
 clear hb1 H1
 go_wp2_with fail
 go_ret2
 exact ⟨rfl,Hb1.out⟩
end Go.Proofs.YtnjedhgcfeoemaaGreatDoor

namespace Go.Proofs.YtnjedhgcfeoemaaGreatDoor
open Go.ChangeShapes Go.WideShapes Go.ChangeAt Go.RowKit Go.Joins
theorem cellsRat:Tryz.prog.cellsOf 42=2:=by kernel_rfl
theorem cellsIntS:Tryz.prog.cellsOf 25=1:=by kernel_rfl
section
variable {H:Type} {enc:TypeId×Value→H} {W:World}
end
end Go.Proofs.YtnjedhgcfeoemaaGreatDoor

namespace Go.Proofs.YtnjedhgcfeoemaaGreatDoor
open Go.ChangeShapes Go.WideShapes Go.ChangeAt Go.RowKit Go.Joins
theorem cells_get {w:World} {base n:Nat} {a:Addr} {cs:List Value} (h:w.cells? base a n=some cs):cs.length=n∧∀ i,i < n→w.cell? (a.add i)=cs[i]?:=by
 unfold World.cells? at h
 split at h
 ·have hl:cs.length=n:=by
   have:=Lib.mapM_length h
   simpa using this
  refine ⟨hl,fun i hi=>?_⟩
  obtain ⟨b,hb,he⟩:=Lib.mapM_at h i i (by simp [hi])
  rw [hb,he]
 ·cases h
theorem choose_list {α β:Type} {f : β → α} {B : β→Prop}:∀ l:List α,(∀ x∈l,∃ p,x=f p∧B p)→∃ ps:List β,l=ps.map f∧∀ p∈ps,B p
 | [],_=>⟨[],rfl,fun _ h=>by cases h⟩
 | x :: l,h=>by
  obtain ⟨p,hp,hb⟩:=h x List.mem_cons_self
  obtain ⟨ps,hps,hbs⟩:=choose_list l fun y hy=>h y (List.mem_cons_of_mem _ hy)
  refine ⟨p :: ps,by rw [hp,hps]; rfl,fun q hq=>?_⟩
  rcases List.mem_cons.1 hq with rfl | hq
  ·exact hb
  ·exact hbs q hq
def RdK (w:World) (k:Nat) (a:Option Addr) (css:List (List Value)):Prop :=
 css=[]∨∃ b off,a=some ⟨b,off,none⟩∧b < w.heap.size∧∀ i (h:i < css.length) j,j < k→w.cell? ⟨b,off + i * k + j,none⟩=css[i][j]?
section
variable {H:Type} {enc:TypeId×Value→H} {W:World}
theorem open_slice_of {t e:TypeId} {k:Nat} (ht:Tryz.prog.underlying t=some (.slice e)) (hk:Tryz.prog.cellsOf e=k) (k0:0 < k) {Q:List Value→Prop}
  (hQ:∀ (n:Nat) (cs:List Value) (x:DataW H×List MemPlace),DataW.trod enc Tryz.prog W 0 (fun _=>true) true n e cs=some x→Q cs)
  {v:Value} {d:DataW H} {p:List MemPlace} (h:DataW.Trod enc Tryz.prog W 0 (fun _=>true) true t v d p) (hv:∃ a len cap,v = .slice a len cap) :
  ∃ (a:Option Addr) (c:Nat) (css:List (List Value)),v = .slice a css.length c∧RdK W k a css∧(∀ cs∈css,Q cs)∧css.length≤maxLen:=by
 obtain ⟨a,len,cap,rfl⟩:=hv
 obtain ⟨fuel,hf⟩:=h
 rcases DataW.trod_slice ht hf with ⟨hcs,_⟩ | ⟨a,len,cap,elems,rest,n,_,hcs,_,hb,hl,hm,hlen,hel,_,_⟩
 ·simp [Value.cells] at hcs
  obtain ⟨rfl,rfl,rfl⟩:=hcs
  exact ⟨none,0,[],rfl,.inl rfl,(fun x hx=>by cases hx),Nat.zero_le _⟩
 ·simp [Value.cells] at hcs
  obtain ⟨rfl,rfl,rfl⟩:=hcs
  rw [hk] at hel
  have each:∀ i,i < len→∃ cs,W.cells? 0 (a.add (i * k)) k=some cs∧Q cs:=fun i hi=>by
   have h1:=hel i hi
   have h2:i < elems.length:=by omega
   rw [List.getElem?_eq_getElem h2,Option.bind_eq_some_iff] at h1
   obtain ⟨cs,hcs,hx⟩:=h1
   exact ⟨cs,hcs,hQ _ _ _ hx⟩
  have hlist:∀ m,m≤len→∃ css:List (List Value),css.length=m∧(∀ cs∈css,Q cs)∧∀ i (h:i < css.length),W.cells? 0 (a.add (i * k)) k=some css[i]:=by
   intro m
   induction m with
   | zero=>intro _; exact ⟨[],rfl,(fun _ h=>by cases h),fun i h=>absurd h (Nat.not_lt_zero _)⟩
   | succ m ih =>
    intro hm'
    obtain ⟨css,h1,h2,h3⟩:=ih (by omega)
    obtain ⟨cs,h4,h5⟩:=each m (by omega)
    refine ⟨css ++ [cs],by simp [h1],?_,?_⟩
    ·intro x hx
     rcases List.mem_append.1 hx with hx | hx
     ·exact h2 x hx
     ·rw [List.mem_singleton.1 hx]; exact h5
    ·intro i hi
     rw [List.length_append,List.length_singleton] at hi
     by_cases him:i < css.length
     ·rw [List.getElem_append_left him]; exact h3 i him
     ·have e:i=m:=by omega
      subst e
      rw [List.getElem_append_right (by omega)]
      simp only [h1,Nat.sub_self,List.getElem_cons_zero]
      exact h4
  obtain ⟨css,h1,h2,h3⟩:=hlist len nr_
  refine ⟨some a,cap,css,by rw [h1],?_,h2,by omega⟩
  by_cases h0:len=0
  ·exact .inl (List.eq_nil_of_length_eq_zero (by omega))
  ·obtain ⟨b,off,spot⟩:=a
   have hc0:=(cells_get (h3 0 (by omega))).2 0 k0
   have hl0:=(cells_get (h3 0 (by omega))).1
   have hspot:spot=none:=by
    rw [List.getElem?_eq_getElem (by omega)] at hc0
    simpa [Addr.add] using World.cell?_spot hc0
   subst hspot
   refine .inr ⟨b,off,rfl,?_,fun i hi j hj=>?_⟩
   ·rw [List.getElem?_eq_getElem (by omega)] at hc0
    have:=block_lt_of_cell hc0
    rw [Go.WideShapes.add_plain,Go.WideShapes.add_plain] at this
    exact this
   ·have:=(cells_get (h3 i hi)).2 j hj
    rw [Go.WideShapes.add_plain,Go.WideShapes.add_plain] at this
    exact this
theorem open_rat {base fuel:Nat} {sp:Nat→Bool} {held:Bool} {cs:List Value} {x:DataW H×List MemPlace} (h:DataW.trod enc Tryz.prog W base sp held fuel 42 cs=some x) :
  ∃ q:ByteArray×ByteArray,cs=[.string q.1,.string q.2]∧q.1.size≤maxLen∧q.2.size≤maxLen:=by
 obtain ⟨y0,y1,n,hx,hl,h0,h1⟩:=trod_struct2 Tryz.underlying42 h
 rw [cellsRat] at hl
 match cs,hl with
 | [c0,c1],_ =>
  simp only [List.drop_zero,List.drop_succ_cons,cellsIntS,List.take_succ_cons,List.take_zero] at h0 h1
  obtain ⟨s,hs,_,ws⟩:=DataW.trod_string Tryz.underlying25 h0
  obtain ⟨t,ht,_,wt⟩:=DataW.trod_string Tryz.underlying25 h1
  simp only [List.cons.injEq,and_true] at hs ht
  exact ⟨(s,t),by rw [hs,ht],by simpa [Lit.wf] using ws,by simpa [Lit.wf] using wt⟩
end
end Go.Proofs.YtnjedhgcfeoemaaGreatDoor

namespace Go.Proofs.YtnjedhgcfeoemaaGreatDoor
open Go.RowKit
theorem rdk_rd {w:World} {a:Option Addr} {fl:Pairs} (h:RdK w 2 a (fl.map fun q=>[.string q.1,.string q.2])):Rd w a (cellsS fl):=by
 rcases h with h | ⟨b,off,rfl,hb,hc⟩
 ·left
  have:fl=[]:=by simpa using h
  rw [this]; rfl
 ·refine .inr ⟨b,off,rfl,hb,fun i v hi=>?_⟩
  have hil:=(List.getElem?_eq_some_iff.1 hi).1
  rw [cellsS_length] at hil
  obtain ⟨j,hj⟩:∃ j,i=j * 2∨i=j * 2 + 1:=⟨i / 2,by omega⟩
  have hk:j < fl.length:=by omega
  obtain ⟨g0,g1⟩:=cellsS_get fl j hk
  rcases hj with rfl | rfl
  ·have h0:=hc j (by rw [List.length_map]; exact hk) 0 (by decide)
   rw [g0] at hi
   rw [Nat.add_zero,List.getElem_map] at h0
   rw [h0,← hi]; rfl
  ·have h0:=hc j (by rw [List.length_map]; exact hk) 1 (by decide)
   rw [g1] at hi
   rw [List.getElem_map] at h0
   rw [← Nat.add_assoc,h0,← hi]; rfl
end Go.Proofs.YtnjedhgcfeoemaaGreatDoor

namespace Go.Proofs.YtnjedhgcfeoemaaGreatDoor
open Go.RowKit
theorem decide_err (w:World) (a1 a2:Option Addr) (c1 c2:Nat) (ps:List Int) (l:Pairs) (hp:Rd w a1 (ints ps)) (hi:I64s ps) (hl1:ps.length≤1000000) (hr:Rd w a2 (cellsS l)) (hl:l.length≤1000000) (hs:Ssz l) (L:Laid w) (he:ccode ps l≠0) :
  Gives Tryz.prog 26 #[.slice a1 ps.length c1,.slice a2 l.length c2] w (.tuple #[cmpV 0 0 none 0 0,.int .i64 (ccode ps l)]):=by
 unfold Gives cmpV
 have Hb0:=hd_ ((Below.refl w.heap.size w).alloc nr_ (.cells #[.int .i64 0,.int .i64 0,.slice none 0 0] 51))
 have Hnew:Hid ((w.alloc (.cells #[.int .i64 0,.int .i64 0,.slice none 0 0] 51)).heap[w.heap.size]?=some (.cells #[.int .i64 0,.int .i64 0,.slice none 0 0] 51 (0,0))):=heap_alloc_new w _
 have HC:=hd_ (sizeCheck_any (w.alloc (.cells #[.int .i64 0,.int .i64 0,.slice none 0 0] 51)) a1 a2 c1 c2 ps l (hp.below Hb0.out nr_) hi hl1 (hr.below Hb0.out nr_) hl hs (L.below Hb0.out))
 have hnz:(ccode ps l != 0)=true:=by rw [bne_iff_ne]; exact he
 clear he hp hi hl1 hr hl hs L
 generalize ccode ps l=v at *
 generalize ps.length=n1 at *
 generalize l.length=n2 at *
 go_enter Tryz.func26,Tryz.ntmps26
 go_wp2_with fail
 generalize w.alloc (.cells #[.int .i64 0,.int .i64 0,.slice none 0 0] 51)=W0 at *
 refine cm_ HC.out ?_
 rintro e w1 ⟨rfl,hb⟩
 have Hcell:Hid (w1.heap[w.heap.size]?=some (.cells #[.int .i64 0,.int .i64 0,.slice none 0 0] 51 (0,0))):=by
  show _=_
  rw [hb.block _ (Array.getElem?_eq_some_iff.1 Hnew.out).1]; exact Hnew.out
 have Hbw:=hd_ (Hb0.out.trans (hb.mono Hb0.out.size))
 obtain ⟨k0,k1,k2,kf⟩:=three_cells Hcell.out
 have f0:=kf 0
 have f1:=kf 1
 have f2:=kf 2
 clear hb HC kf Hcell Hnew Hb0
 go_wp2
 obtain ⟨c0,c1,c2,hb3⟩:=three_stored (.int .i64 0) (.int .i64 0) (.slice none 0 0) k0 k1 k2 nr_ Hbw.out
 generalize ((w1.setCell ⟨w.heap.size,0,none⟩ (.int .i64 0)).setCell ⟨w.heap.size,1,none⟩ (.int .i64 0)).setCell ⟨w.heap.size,2,none⟩ (.slice none 0 0)=w9 at *
 exact bodyPost_ret (v := .tuple #[.agg #[.int .i64 0,.int .i64 0,.slice none 0 0],.int .i64 v]) (by simp [results,Tryz.results26,go_sem,c0,c1,c2]) rfl ⟨rfl,hb3⟩
end Go.Proofs.YtnjedhgcfeoemaaGreatDoor

namespace Go.Proofs.YtnjedhgcfeoemaaGreatDoor
open Go.RowKit
def noF:Value := .agg #[.string ⟨#[]⟩,.string ⟨#[]⟩]
theorem enclose_err (w:World) (a1 a2:Option Addr) (c1 c2 n1 n2:Nat) (v:Int) (b:Int) (hck:∀ W,Below w.heap.size w W→Gives Tryz.prog 22 #[.slice a1 n1 c1,.slice a2 n2 c2] W (.int .i64 v)) (he:v≠0) :
  Gives Tryz.prog 23 #[.slice a1 n1 c1,.slice a2 n2 c2,.int .i64 b] w (.tuple #[noF,noF,.int .i64 v]):=by
 unfold Gives noF
 have HE:=hd_ (TwoE.mk' w)
 have HC:=hd_ (hck _ HE.out.bel)
 have hnz:(v != 0)=true:=by rw [bne_iff_ne]; exact he
 clear he hck
 go_enter Tryz.func23,Tryz.ntmps23
 go_wp2_with fail
 generalize (w.alloc (.cells #[.string ⟨#[]⟩,.string ⟨#[]⟩] 42)).alloc (.cells #[.string ⟨#[]⟩,.string ⟨#[]⟩] 42)=W0 at *
 refine cm_ HC.out ?_
 rintro e w1 ⟨rfl,hb⟩
 have HE1:=hd_ (HE.out.below hb)
 clear hb HC HE
 obtain ⟨k0,k1,f0,f1⟩:=two_cells HE1.out.e0
 obtain ⟨k2,k3,f2,f3⟩:=two_cells HE1.out.e1
 go_wp2
 obtain ⟨w9,hw9,h0,h1,hb9⟩:=four_stored HE1.out (.string ⟨#[]⟩) (.string ⟨#[]⟩) (.string ⟨#[]⟩) (.string ⟨#[]⟩)
 rw [hw9]
 obtain ⟨z0,z1,-,-⟩:=two_cells h0
 obtain ⟨z2,z3,-,-⟩:=two_cells h1
 exact bodyPost_ret (v := .tuple #[.agg #[.string ⟨#[]⟩,.string ⟨#[]⟩],.agg #[.string ⟨#[]⟩,.string ⟨#[]⟩],.int .i64 v]) (by simp [results,Tryz.results23,go_sem,z0,z1,z2,z3]) rfl ⟨rfl,hb9⟩
theorem enclose_neg (w:World) (a1 a2:Option Addr) (c1 c2 n1 n2:Nat) (b:Int) (hck:∀ W,Below w.heap.size w W→Gives Tryz.prog 22 #[.slice a1 n1 c1,.slice a2 n2 c2] W (.int .i64 0)) (he:b < 0) :
  Gives Tryz.prog 23 #[.slice a1 n1 c1,.slice a2 n2 c2,.int .i64 b] w (.tuple #[noF,noF,.int .i64 3]):=by
 unfold Gives noF
 have HE:=hd_ (TwoE.mk' w)
 have HC:=hd_ (hck _ HE.out.bel)
 clear hck
 go_enter Tryz.func23,Tryz.ntmps23
 go_wp2_with fail
 generalize (w.alloc (.cells #[.string ⟨#[]⟩,.string ⟨#[]⟩] 42)).alloc (.cells #[.string ⟨#[]⟩,.string ⟨#[]⟩] 42)=W0 at *
 refine cm_ HC.out ?_
 rintro e w1 ⟨rfl,hb⟩
 have HE1:=hd_ (HE.out.below hb)
 clear hb HC HE
 obtain ⟨k0,k1,f0,f1⟩:=two_cells HE1.out.e0
 obtain ⟨k2,k3,f2,f3⟩:=two_cells HE1.out.e1
 go_wp2
 obtain ⟨w9,hw9,h0,h1,hb9⟩:=four_stored HE1.out (.string ⟨#[]⟩) (.string ⟨#[]⟩) (.string ⟨#[]⟩) (.string ⟨#[]⟩)
 rw [hw9]
 obtain ⟨z0,z1,-,-⟩:=two_cells h0
 obtain ⟨z2,z3,-,-⟩:=two_cells h1
 exact bodyPost_ret (v := .tuple #[.agg #[.string ⟨#[]⟩,.string ⟨#[]⟩],.agg #[.string ⟨#[]⟩,.string ⟨#[]⟩],.int .i64 3]) (by simp [results,Tryz.results23,go_sem,z0,z1,z2,z3]) rfl ⟨rfl,hb9⟩
end Go.Proofs.YtnjedhgcfeoemaaGreatDoor

namespace Go.Proofs.YtnjedhgcfeoemaaGreatDoor
open Go.RowKit
theorem certain_err (w:World) (a1 a2:Option Addr) (c1 c2 n1 n2:Nat) (v k:Int) (hck:∀ W,Below w.heap.size w W→Gives Tryz.prog 22 #[.slice a1 n1 c1,.slice a2 n2 c2] W (.int .i64 v)) (he:v≠0) :
  Gives Tryz.prog 81 #[.slice a1 n1 c1,.slice a2 n2 c2,.int .i64 k] w (.tuple #[.int .i64 0,.string ⟨#[]⟩,.int .i64 v]):=by
 unfold Gives
 have B0:=hd_ ((Below.refl w.heap.size w).alloc nr_ (.cells #[.int .i64 k] 3))
 have HC:=hd_ (hck _ B0.out)
 have hnz:(v != 0)=true:=by rw [bne_iff_ne]; exact he
 clear he hck
 go_enter Tryz.func81,Tryz.ntmps81
 go_wp2_with fail
 refine cm_ HC.out ?_
 rintro e w1 ⟨rfl,hb⟩
 have B1:=hd_ (B0.out.trans (hb.mono B0.out.size))
 clear hb HC
 go_wp2_with fail
 go_ret3
 exact ⟨rfl,B1.out⟩
theorem certain_rng (w:World) (a1 a2:Option Addr) (c1 c2 n1 n2:Nat) (k:Int) (hck:∀ W,Below w.heap.size w W→Gives Tryz.prog 22 #[.slice a1 n1 c1,.slice a2 n2 c2] W (.int .i64 0)) (he:k < 0∨9 < k) :
  Gives Tryz.prog 81 #[.slice a1 n1 c1,.slice a2 n2 c2,.int .i64 k] w (.tuple #[.int .i64 0,.string ⟨#[]⟩,.int .i64 3]):=by
 unfold Gives
 have B0:=hd_ ((Below.refl w.heap.size w).alloc nr_ (.cells #[.int .i64 k] 3))
 have N0:Hid ((w.alloc (.cells #[.int .i64 k] 3)).cell? ⟨w.heap.size,0,none⟩=some (.int .i64 k)):=cell_of_row _ _ 0 _ 3 (0,0) (heap_alloc_new w _)
 have HC:=hd_ (hck _ B0.out)
 clear hck
 by_cases h1:k < 0
 ·go_enter Tryz.func81,Tryz.ntmps81
  go_wp2_with fail
  generalize w.alloc (.cells #[.int .i64 k] 3)=W0 at *
  refine cm_ HC.out ?_
  rintro e w1 ⟨rfl,hb⟩
  have c1:=(hb.cell (block_lt_of_cell N0.out)).trans N0.out
  have B1:=hd_ (B0.out.trans (hb.mono B0.out.size))
  clear hb HC
  go_wp2_with fail
  go_ret3
  exact ⟨rfl,B1.out⟩
 ·have h2:9 < k:=by omega
  go_enter Tryz.func81,Tryz.ntmps81
  go_wp2_with fail
  generalize w.alloc (.cells #[.int .i64 k] 3)=W0 at *
  refine cm_ HC.out ?_
  rintro e w1 ⟨rfl,hb⟩
  have c1:=(hb.cell (block_lt_of_cell N0.out)).trans N0.out
  have B1:=hd_ (B0.out.trans (hb.mono B0.out.size))
  clear hb HC
  go_wp2_with fail
  go_ret3
  exact ⟨rfl,B1.out⟩
end Go.Proofs.YtnjedhgcfeoemaaGreatDoor

namespace Go.Proofs.YtnjedhgcfeoemaaGreatDoor
open Go.RowKit
theorem cents_fail (w:World) (a1 a2:Option Addr) (c1 c2 n1 n2:Nat) (v k:Int) (hc:Gives Tryz.prog 81 #[.slice a1 n1 c1,.slice a2 n2 c2,.int .i64 k] w (.tuple #[.int .i64 0,.string ⟨#[]⟩,.int .i64 v])) (he:v≠0) :
  Gives Tryz.prog 24 #[.slice a1 n1 c1,.slice a2 n2 c2,.int .i64 k] w (.tuple #[.string ⟨#[]⟩,.int .i64 v]):=by
 have HC:=hd_ hc
 have hnz:(v != 0)=true:=by rw [bne_iff_ne]; exact he
 clear he hc
 unfold Gives
 go_enter Tryz.func24,Tryz.ntmps24
 go_wp2_with fail
 refine cm_ HC.out ?_
 rintro e w1 ⟨rfl,hb⟩
 have B1:=hd_ hb
 clear hb HC
 go_wp2_with fail
 go_ret2
 exact ⟨rfl,B1.out⟩
theorem narrow_any (w:World) (a1 a2:Option Addr) (c1 c2 n1 n2:Nat) (v k:Int) {Q:Int→ByteArray→Prop} (hc:Calls Tryz.prog 81 #[.slice a1 n1 c1,.slice a2 n2 c2,.int .i64 k] w fun e w'=>∃ m s,e = .returned (.tuple #[.int .i64 m,.string s,.int .i64 v])∧Q m s∧Below w.heap.size w w') :
  Calls Tryz.prog 25 #[.slice a1 n1 c1,.slice a2 n2 c2,.int .i64 k] w fun e w'=>∃ m s,e = .returned (.tuple #[.int .i64 m,.int .i64 v])∧Q m s∧Below w.heap.size w w':=by
 have HC:=hd_ hc
 clear hc
 go_enter Tryz.func25,Tryz.ntmps25
 go_wp2_with fail
 refine cm_ HC.out ?_
 rintro e w1 ⟨m,s,rfl,hq,hb⟩
 have B1:=hd_ hb
 have HQ:=hd_ hq
 clear hb HC hq
 go_wp2_with fail
 go_ret2
 exact ⟨m,s,rfl,HQ.out,B1.out⟩
theorem verify_err (w:World) (a1 a2:Option Addr) (c1 c2 n1 n2:Nat) (v sg n:Int) (a3:Option Addr) (m3 c3:Nat) (hck:∀ W,Below w.heap.size w W→Gives Tryz.prog 22 #[.slice a1 n1 c1,.slice a2 n2 c2] W (.int .i64 v)) (he:v≠0) :
  Gives Tryz.prog 29 #[.slice a1 n1 c1,.slice a2 n2 c2,cmpV sg n a3 m3 c3] w (.int .i64 v):=by
 unfold Gives cmpV
 have B0:=hd_ ((Below.refl w.heap.size w).alloc nr_ (.cells #[.int .i64 sg,.int .i64 n,.slice a3 m3 c3] 51))
 have HC:=hd_ (hck _ B0.out)
 have hnz:(v != 0)=true:=by rw [bne_iff_ne]; exact he
 clear he hck
 go_enter Tryz.func29,Tryz.ntmps29
 go_wp2_with fail
 generalize w.alloc (.cells #[.int .i64 sg,.int .i64 n,.slice a3 m3 c3] 51)=W0 at *
 refine cm_ HC.out ?_
 rintro e w1 ⟨rfl,hb⟩
 have B1:=hd_ (B0.out.trans (hb.mono B0.out.size))
 clear hb HC
 go_wp2_with fail
 go_ret
 exact ⟨rfl,B1.out⟩
theorem order_err (w:World) (a0 a1 a2:Option Addr) (c0 c1 c2 n0 n1 n2:Nat) (v:Int) (hsub:∀ W,Below w.heap.size w W→Calls Tryz.prog 39 #[.slice a0 n0 c0,.slice a1 n1 c1,.slice a2 n2 c2] W fun e w'=>(∃ x,e = .returned (.tuple #[.slice none 0 x,.int .i64 v]))∧Below W.heap.size W w') (he:v≠0) :
  Gives Tryz.prog 27 #[.slice a0 n0 c0,.slice a1 n1 c1,.slice a2 n2 c2] w (.tuple #[cmpV 0 0 none 0 0,.int .i64 v]):=by
 unfold Gives cmpV
 have Hb0:=hd_ ((Below.refl w.heap.size w).alloc nr_ (.cells #[.int .i64 0,.int .i64 0,.slice none 0 0] 51))
 have Hnew:Hid ((w.alloc (.cells #[.int .i64 0,.int .i64 0,.slice none 0 0] 51)).heap[w.heap.size]?=some (.cells #[.int .i64 0,.int .i64 0,.slice none 0 0] 51 (0,0))):=heap_alloc_new w _
 have HC:=hd_ (hsub _ Hb0.out)
 have hnz:(v != 0)=true:=by rw [bne_iff_ne]; exact he
 clear he hsub
 go_enter Tryz.func27,Tryz.ntmps27
 go_wp2_with fail
 generalize w.alloc (.cells #[.int .i64 0,.int .i64 0,.slice none 0 0] 51)=W0 at *
 refine cm_ HC.out ?_
 rintro e w1 ⟨⟨x,rfl⟩,hb⟩
 have Hcell:Hid (w1.heap[w.heap.size]?=some (.cells #[.int .i64 0,.int .i64 0,.slice none 0 0] 51 (0,0))):=by
  show _=_
  rw [hb.block _ (Array.getElem?_eq_some_iff.1 Hnew.out).1]; exact Hnew.out
 have Hbw:=hd_ (Hb0.out.trans (hb.mono Hb0.out.size))
 obtain ⟨k0,k1,k2,kf⟩:=three_cells Hcell.out
 have f0:=kf 0
 have f1:=kf 1
 have f2:=kf 2
 clear hb HC kf Hcell Hnew Hb0
 go_wp2
 obtain ⟨c0,c1,c2,hb3⟩:=three_stored (.int .i64 0) (.int .i64 0) (.slice none 0 0) k0 k1 k2 nr_ Hbw.out
 generalize ((w1.setCell ⟨w.heap.size,0,none⟩ (.int .i64 0)).setCell ⟨w.heap.size,1,none⟩ (.int .i64 0)).setCell ⟨w.heap.size,2,none⟩ (.slice none 0 0)=w9 at *
 exact bodyPost_ret (v := .tuple #[.agg #[.int .i64 0,.int .i64 0,.slice none 0 0],.int .i64 v]) (by simp [results,Tryz.results27,go_sem,c0,c1,c2]) rfl ⟨rfl,hb3⟩
end Go.Proofs.YtnjedhgcfeoemaaGreatDoor

namespace Go.Proofs.YtnjedhgcfeoemaaGreatDoor
open Go.RowKit
structure TwoS (w:World) (ps:List Int) (a0 a1 a2:Option Addr) (l1 l2:Pairs):Prop where
 rp:Rd w a0 (ints ps)
 hi:I64s ps
 hl:ps.length≤1000
 r1:Rd w a1 (cellsS l1)
 r2:Rd w a2 (cellsS l2)
 n1:l1.length≤1000
 n2:l2.length≤1000
 s1:Ssz l1
 s2:Ssz l2
 L:Laid w
theorem TwoS.all {w W:World} {ps:List Int} {a0 a1 a2:Option Addr} {l1 l2:Pairs} (H:TwoS w ps a0 a1 a2 l1 l2) (hW:Below w.heap.size w W) {g c0 c1 c2:Nat} (hg:W.heap[g]?=some (.cells #[.slice a1 l1.length c1,.slice a2 l2.length c2] 38 (0,0))) :
  Gives Tryz.prog 107 #[.slice a0 ps.length c0,.slice (some ⟨g,0,none⟩) 2 2] W (.int .i64 (lcode ps [l1,l2])) :=
 checkAll_any W a0 _ c0 2 ps [l1,l2] (H.rp.below hW nr_) H.hi (Nat.le_trans H.hl (by decide)) (rdl_two hg (H.r1.below hW nr_) (H.r2.below hW nr_)) (by simp)
  (by intro l hl; simp only [List.mem_cons,List.not_mem_nil,or_false] at hl; rcases hl with rfl | rfl; exact ⟨Nat.le_trans H.n1 (by decide),H.s1⟩; exact ⟨Nat.le_trans H.n2 (by decide),H.s2⟩) (H.L.below hW)
theorem Sub_err (w:World) (ps:List Int) (a0 a1 a2:Option Addr) (c0 c1 c2:Nat) (l1 l2:Pairs) (H:TwoS w ps a0 a1 a2 l1 l2) (hc:lcode ps [l1,l2]≠0) :
  Gives Tryz.prog 39 #[.slice a0 ps.length c0,.slice a1 l1.length c1,.slice a2 l2.length c2] w (.tuple #[.slice none 0 0,.int .i64 (lcode ps [l1,l2])]):=by
 obtain ⟨u,hu⟩:∃ q:Rat,q=1:=⟨_,rfl⟩
 obtain ⟨v,hv⟩:∃ q:Rat,q=(((-1):Int):Rat):=⟨_,rfl⟩
 have Hc:Hid (∀ W g1 g2,Below w.heap.size w W→W.heap[g1]?=some (.cells #[.slice a1 l1.length c1,.slice a2 l2.length c2] 38 (0,0))→Gives Tryz.prog 103 #[.slice a0 ps.length c0,.slice (some ⟨g1,0,none⟩) 2 2,.slice (some ⟨g2,0,none⟩) 2 2] W (.tuple #[.slice none 0 0,.int .i64 (lcode ps [l1,l2])])):=fun W g1 g2 hW hg =>
  combine_err W a0 _ _ c0 2 2 2 ps [l1,l2] (H.rp.below hW nr_) H.hi (Nat.le_trans H.hl (by decide)) (rdl_two hg (H.r1.below hW nr_) (H.r2.below hW nr_)) (by simp)
   (by intro l hl; simp only [List.mem_cons,List.not_mem_nil,or_false] at hl; rcases hl with rfl | rfl; exact ⟨Nat.le_trans H.n1 (by decide),H.s1⟩; exact ⟨Nat.le_trans H.n2 (by decide),H.s2⟩) hc (H.L.below hW)
 have N1:Hid (∀ W,Below w.heap.size w W→Gives Tryz.prog 98 #[.int .i64 1] W (fr u)):=fun W hW=>by subst hu; exact numberR W 1 (by decide) (by decide) (H.L.below hW)
 have N2:Hid (∀ W,Below w.heap.size w W→Gives Tryz.prog 98 #[.int .i64 (-1)] W (fr v)):=fun W hW=>by subst hv; exact numberR W (-1) (by decide) (by decide) (H.L.below hW)
 unfold fr fv at N1 N2
 unfold Gives
 clear hu hv H hc
 generalize lcode ps [l1,l2]=code at *
 generalize ps.length=n at *
 generalize l1.length=na at *
 generalize l2.length=nb at *
 have B0:=hd_ ((Below.refl w.heap.size w).alloc nr_ (.cells #[.slice a1 na c1,.slice a2 nb c2] 38))
 have K0:=hd_ (heap_at w #[.slice a1 na c1,.slice a2 nb c2] 38 _ rfl)
 go_enter Tryz.func39,Tryz.ntmps39
 go_wp2_with fail
 generalize w.alloc (.cells #[.slice a1 na c1,.slice a2 nb c2] 38)=w0 at *
 refine cm_ (N1.out _ B0.out) ?_
 rintro e w1 ⟨rfl,hb⟩
 have B1:=hd_ (B0.out.trans (hb.mono B0.out.size))
 have K1:=hd_ (heap_kept K0.out hb nr_)
 clear hb B0 K0
 go_wp2_with fail
 refine cm_ (N2.out _ B1.out) ?_
 rintro e w2 ⟨rfl,hb⟩
 have B2:=hd_ (B1.out.trans (hb.mono B1.out.size))
 have K2:=hd_ (heap_kept K1.out hb nr_)
 clear hb B1 K1 N1 N2
 go_wp2_with fail
 have B3:=hd_ (B2.out.alloc B2.out.size (.cells #[.string (itx u.num),.string (dec u.den),.string (itx v.num),.string (dec v.den)] 42))
 have K3:=hd_ (heap_old K2.out (.cells #[.string (itx u.num),.string (dec u.den),.string (itx v.num),.string (dec v.den)] 42))
 generalize w2.alloc (.cells #[.string (itx u.num),.string (dec u.den),.string (itx v.num),.string (dec v.den)] 42)=w3 at *
 refine cm_ (Hc.out _ _ _ B3.out K3.out) ?_
 rintro e w4 ⟨rfl,hb⟩
 have B4:=hd_ (B3.out.trans (hb.mono B3.out.size))
 clear hb Hc B2 K2 B3 K3
 go_wp2_with fail
 go_ret2
 exact ⟨rfl,B4.out⟩
end Go.Proofs.YtnjedhgcfeoemaaGreatDoor

namespace Go.Proofs.YtnjedhgcfeoemaaGreatDoor
open Go.RowKit
theorem rds_at {w wr:World} {a:Option Addr} {l:Pairs} {B:Nat} (h:Rd w a (cellsS l)) (hb:Below B w wr) (hB:w.heap.size≤B) (k:Nat) (hk:k < l.length) :
  ∃ b off,a=some ⟨b,off,none⟩∧wr.cell? ⟨b,off + k * 2,none⟩=some (.string l[k].1)∧wr.cell? ⟨b,off + k * 2 + 1,none⟩=some (.string l[k].2):=by
 obtain ⟨b,off,rfl,hbl,hcells⟩:=h.open (by rw [cellsS_length]; omega)
 obtain ⟨x0,x1⟩:=cellsS_rd hcells k hk
 have e:l.getD k default=l[k]:=by rw [List.getD_eq_getElem?_getD,List.getElem?_eq_getElem hk]; rfl
 rw [← hb.cell (p:=⟨b,off + k * 2,none⟩) (Nat.lt_of_lt_of_le hbl hB),e] at x0
 rw [← hb.cell (p:=⟨b,off + k * 2 + 1,none⟩) (Nat.lt_of_lt_of_le hbl hB),e] at x1
 exact ⟨b,off,rfl,x0,x1⟩
end Go.Proofs.YtnjedhgcfeoemaaGreatDoor

namespace Go.Proofs.YtnjedhgcfeoemaaGreatDoor
open Go.RowKit
def okE (s:ByteArray):Prop:=s.size≤5∨(31 < s.size∧s.size≤40)
instance (s:ByteArray):Decidable (okE s):=inferInstanceAs (Decidable (_∨_))
def fewE (n:Nat) (l:Pairs):Bool:=(l.all fun x=>decide (okE x.1) && decide (okE x.2)) && (decide (n≤7) && decide (l.length≤5))
theorem fewE_of {n:Nat} {l:Pairs} (h:fewE n l=true):n≤7∧l.length≤5∧∀ x∈l,okE x.1∧okE x.2:=by
 unfold fewE at h
 simp only [Bool.and_eq_true,decide_eq_true_eq,List.all_eq_true] at h
 exact ⟨h.2.1,h.2.2,h.1⟩
theorem few14_any (w:World) (a0 a1:Option Addr) (c0 c1 n:Nat) (l:Pairs) (r1:Rd w a1 (cellsS l)) (hl:l.length≤9223372036854775807) :
  Gives Tryz.prog 21 #[.slice a0 n c0,.slice a1 l.length c1] w (.bool (fewE n l)):=by
 unfold Gives
 have R1:=hd_ r1
 obtain ⟨m,hm⟩:∃ m,l.length=m:=⟨_,rfl⟩
 have Hyes:Hid (∀ k,(∀ i (h:i < l.length),i < k→okE l[i].1∧okE l[i].2)→k=l.length→fewE n l=(decide (n≤7) && decide (m≤5))):=fun k h hk=>by
  unfold fewE
  rw [hm]
  rw [List.all_eq_true.2 (fun x hx=>?_),Bool.true_and]
  obtain ⟨i,hi,rfl⟩:=List.mem_iff_getElem.1 hx
  have:=h i hi (by rw [hk]; exact hi)
  simp only [Bool.and_eq_true,decide_eq_true_eq]
  exact this
 have Hno:Hid (∀ k (h:k < l.length),¬ (okE l[k].1∧okE l[k].2)→fewE n l=false):=fun k h hh=>by
  cases hf:fewE n l
  ·rfl
  ·exact absurd ((fewE_of hf).2.2 _ (List.getElem_mem h)) hh
 rw [hm] at hl ⊢
 have Hm:=hd_ hm
 clear r1 hm
 generalize fewE n l=z at *
 go_enter Tryz.func21,Tryz.ntmps21
 go_wp2_with fail
 go_loopw [5] (fun i wr=>∃ k:Nat,k≤m∧i = .int .i64 k∧Hid (∀ i (h:i < l.length),i < k→okE l[i].1∧okE l[i].2)∧Hid (Below w.heap.size w wr)) (fun i _=>m - (intOf i).toNat)
 case atStart=>exact ⟨0,Nat.zero_le _,rfl,fun j _ hj=>absurd hj (Nat.not_lt_zero _),Below.refl _ _⟩
 case round =>
  obtain ⟨k,hk,rfl,Hp,B⟩:=hrel
  by_cases hlt:k < m
  ·have hlt':(k:Int) < m:=by omega
   have h1:k < l.length:=by rw [Hm.out]; exact hlt
   obtain ⟨b,off,rfl,x0,x1⟩:=rds_at R1.out B.out nr_ k h1
   have Hp':Hid (okE l[k].1∧okE l[k].2→∀ i (h:i < l.length),i < k + 1→okE l[i].1∧okE l[i].2):=fun he j g1 hj=>by
    rcases Nat.lt_or_ge j k with h | h
    ·exact Hp.out j g1 h
    ·have e:j=k:=by omega
     subst e; exact he
   have Hnk:=hd_ (Hno.out k h1)
   clear Hp
   generalize l[k]=p at *
   obtain ⟨s,t⟩:=p
   simp only at x0 x1 Hnk Hp'
   have HK:=hd_ hlt
   have q0:=NW.cell x0
   have q1:=NW.cell x1
   have hnon:Nonempty (NW wr):=⟨⟨wr,Below.refl _ _⟩⟩
   have I:Hid (Below wr.heap.size wr wr.drew):=(Below.refl _ _).drew
   clear x0 x1
   go_wp2_with fail
   refine RP.wp_region_readers 10 [(2,0),(2,1),(2,2),(2,3),(1,4),(2,5),(2,6),(2,7),(2,8),(1,9),(2,12),(0,10),(2,11)] (fun w'=>∃ p:NW wr,w'=p.w) (by kernel_rfl) (by kernel_rfl) ?_ ?_
   ·exact ⟨⟨_,I.out⟩,rfl⟩
   iterate 4 (refine RP.walkR_any ?_; simp only [dsc_,dz_,tsc_,tz_]; go_big_quiet_step (fail); refine wpQuiet_nil ?_)
   iterate 1 (refine RP.walkR_read ?_; simp only [dsc_,dz_,tsc_,tz_]; go_big_quiet_step (fail); refine wpQuiet_nil ?_)
   iterate 4 (refine RP.walkR_any ?_; simp only [dsc_,dz_,tsc_,tz_]; go_big_quiet_step (fail); refine wpQuiet_nil ?_)
   iterate 1 (refine RP.walkR_read ?_; simp only [dsc_,dz_,tsc_,tz_]; go_big_quiet_step (fail); refine wpQuiet_nil ?_)
   iterate 1 (refine RP.walkR_any ?_; simp only [dsc_,dz_,tsc_,tz_]; go_big_quiet_step (fail); refine wpQuiet_nil ?_)
   clear hnon q0 q1
   refine RP.walkR_move ?_
   simp only [dsc_,dz_,tsc_,tz_]
   go_wp2_with fail
   have B2:Hid (Below w.heap.size w (wr.alloc (.cells #[.string s,.string t] 25)).drew):=(B.out.alloc B.out.size _).drew
   have F2:Hid ((wr.alloc (.cells #[.string s,.string t] 25)).drew.heap[wr.heap.size]?=some (.cells #[.string s,.string t] 25 (0,0))):=heap_alloc_new wr _
   clear B I
   generalize (wr.alloc (.cells #[.string s,.string t] 25)).drew=W2 at *
   generalize wr.heap.size=g at *
   iterate 1 (refine RP.walkR_any ?_; simp only [dsc_,dz_,tsc_,tz_]; go_big_quiet_step (fail); refine wpQuiet_nil ?_)
   simp only [RP.walkR]
   obtain ⟨y0,y1,-,-⟩:=two_cells F2.out
   have Y0:=hd_ y0
   have Y1:=hd_ y1
   clear F2 y0 y1
   go_wp2_with fail
   go_loopw [26,7] (fun i x wr'=>∃ j:Nat,j≤2∧i = .int .i64 j∧Hid (0 < j→okE s)∧Hid (1 < j→okE t)∧Hid (wr'=W2)) (fun i _ _=>2 - (intOf i).toNat)
   case atStart=>exact ⟨0,Nat.zero_le _,rfl,fun h=>absurd h (Nat.lt_irrefl _),fun h=>absurd h (Nat.not_lt_zero _),rfl⟩
   case round =>
    obtain ⟨j,hj,rfl,P0,P1,hwr⟩:=hrel
    have hwr':=hwr.out
    subst hwr'
    clear hwr
    obtain rfl | rfl | rfl:j=0∨j=1∨j=2:=by omega
    ·
     have y:=Y0.out
     by_cases g1:(5:Int) < s.size
     ·by_cases g2:(s.size:Int)≤31
      ·have Hz:=hd_ (Hnk.out (by unfold okE; omega))
       clear Hnk Hp' P0 P1
       go_wp2_with fail
       go_ret
       exact ⟨by rw [Hz.out]; rfl,B2.out⟩
      ·by_cases g3:(40:Int) < s.size
       ·have Hz:=hd_ (Hnk.out (by unfold okE; omega))
        clear Hnk Hp' P0 P1
        go_wp2_with fail
        go_ret
        exact ⟨by rw [Hz.out]; rfl,B2.out⟩
       ·have hx:Hid (okE s) := .inr ⟨by omega,by omega⟩
        go_wp2_with fail
        refine ⟨⟨1,by decide,rfl,fun _=>hx.out,fun h=>absurd h (Nat.lt_irrefl _),trivial⟩,by simp [intOf]⟩
     ·have hx:Hid (okE s) := .inl (by omega)
      go_wp2_with fail
      refine ⟨⟨1,by decide,rfl,fun _=>hx.out,fun h=>absurd h (Nat.lt_irrefl _),trivial⟩,by simp [intOf]⟩
    ·
     have y:=Y1.out
     by_cases g1:(5:Int) < t.size
     ·by_cases g2:(t.size:Int)≤31
      ·have Hz:=hd_ (Hnk.out (by unfold okE; omega))
       clear Hnk Hp' P0 P1
       go_wp2_with fail
       go_ret
       exact ⟨by rw [Hz.out]; rfl,B2.out⟩
      ·by_cases g3:(40:Int) < t.size
       ·have Hz:=hd_ (Hnk.out (by unfold okE; omega))
        clear Hnk Hp' P0 P1
        go_wp2_with fail
        go_ret
        exact ⟨by rw [Hz.out]; rfl,B2.out⟩
       ·have hx:Hid (okE t) := .inr ⟨by omega,by omega⟩
        go_wp2_with fail
        refine ⟨⟨2,by decide,rfl,fun _=>P0.out (by decide),fun _=>hx.out,trivial⟩,by simp [intOf]⟩
     ·have hx:Hid (okE t) := .inl (by omega)
      go_wp2_with fail
      refine ⟨⟨2,by decide,rfl,fun _=>P0.out (by decide),fun _=>hx.out,trivial⟩,by simp [intOf]⟩
    ·have Hq:=hd_ (Hp'.out ⟨P0.out (by decide),P1.out (by decide)⟩)
     clear Hnk Hp' P0 P1
     go_wp2_with fail
     refine ⟨⟨k + 1,HK.out,by go_num,Hq,B2⟩,by simp [intOf]; omega⟩
  ·have hlt':¬ (k:Int) < m:=by omega
   have Hz:=hd_ (Hyes.out k Hp.out (by rw [Hm.out]; omega))
   clear Hp
   by_cases h7:(n:Int)≤7
   ·by_cases h5:(m:Int)≤5
    ·go_wp2_with fail
     go_ret
     exact ⟨by rw [Hz.out,decide_eq_true (show n≤7 by omega),decide_eq_true (show m≤5 by omega)]; rfl,B.out⟩
    ·go_wp2_with fail
     go_ret
     exact ⟨by rw [Hz.out,decide_eq_true (show n≤7 by omega),decide_eq_false (show ¬ m≤5 by omega)]; rfl,B.out⟩
   ·go_wp2_with fail
    go_ret
    exact ⟨by rw [Hz.out,decide_eq_false (show ¬ n≤7 by omega)]; rfl,B.out⟩
end Go.Proofs.YtnjedhgcfeoemaaGreatDoor

namespace Go.Proofs.YtnjedhgcfeoemaaGreatDoor
open Go.RowKit
theorem same14_nil (w:World) (x:Nat) :
  Gives Tryz.prog 41 #[cmpV 0 0 none 0 x,cmpV 0 0 none 0 0] w (.bool true):=by
 unfold Gives cmpV
 have Hb:=hd_ (((Below.refl w.heap.size w).alloc nr_ (.cells #[.int .i64 0,.int .i64 0,.slice none 0 x] 51)).alloc (by simp) (.cells #[.int .i64 0,.int .i64 0,.slice none 0 0] 51))
 have hz:(w.alloc (.cells #[.int .i64 0,.int .i64 0,.slice none 0 x] 51)).heap.size=w.heap.size + 1:=by simp
 have F1:((w.alloc (.cells #[.int .i64 0,.int .i64 0,.slice none 0 x] 51)).alloc (.cells #[.int .i64 0,.int .i64 0,.slice none 0 0] 51)).heap[w.heap.size]?=some (.cells #[.int .i64 0,.int .i64 0,.slice none 0 x] 51 (0,0)):=heap_old (heap_alloc_new w _) _
 have F2:((w.alloc (.cells #[.int .i64 0,.int .i64 0,.slice none 0 x] 51)).alloc (.cells #[.int .i64 0,.int .i64 0,.slice none 0 0] 51)).heap[w.heap.size + 1]?=some (.cells #[.int .i64 0,.int .i64 0,.slice none 0 0] 51 (0,0)):=by rw [← hz]; exact heap_alloc_new _ _
 go_enter Tryz.func41,Tryz.ntmps41
 go_wp2_with fail
 clear hz
 generalize (w.alloc (.cells #[.int .i64 0,.int .i64 0,.slice none 0 x] 51)).alloc (.cells #[.int .i64 0,.int .i64 0,.slice none 0 0] 51)=W0 at *
 obtain ⟨x0,x1,x2,-⟩:=three_cells F1
 obtain ⟨y0,y1,y2,-⟩:=three_cells F2
 clear F1 F2
 go_loopw [5] (fun i wr=>i = .int .i64 0∧Hid (wr=W0)) (fun _ _=>0)
 case atStart=>exact ⟨rfl,rfl⟩
 case round =>
  obtain ⟨rfl,hwr⟩:=hrel
  have hwr':=hwr.out
  subst hwr'
  clear hwr
  go_wp2_with fail
  go_ret
  exact ⟨rfl,Hb.out⟩
theorem none14_nil (w:World) (x:Nat) :
  Gives Tryz.prog 28 #[cmpV 0 0 none 0 x] w (.bool true):=by
 have HS:=hd_ (fun W=>same14_nil W x)
 unfold Gives cmpV at *
 have Hb:=hd_ ((Below.refl w.heap.size w).alloc nr_ (.cells #[.int .i64 0,.int .i64 0,.slice none 0 x] 51))
 have F1:(w.alloc (.cells #[.int .i64 0,.int .i64 0,.slice none 0 x] 51)).heap[w.heap.size]?=some (.cells #[.int .i64 0,.int .i64 0,.slice none 0 x] 51 (0,0)):=heap_alloc_new w _
 obtain ⟨x0,x1,x2,-⟩:=three_cells F1
 clear F1
 go_enter Tryz.func28,Tryz.ntmps28
 go_wp2_with fail
 generalize w.alloc (.cells #[.int .i64 0,.int .i64 0,.slice none 0 x] 51)=W0 at *
 refine cm_ (HS.out _) ?_
 rintro e w1 ⟨rfl,hb⟩
 have B1:=hd_ (Hb.out.trans (hb.mono Hb.out.size))
 clear hb HS
 go_wp2_with fail
 go_ret
 exact ⟨rfl,B1.out⟩
end Go.Proofs.YtnjedhgcfeoemaaGreatDoor

namespace Go.Proofs.YtnjedhgcfeoemaaGreatDoor
open Go.RowKit
theorem lcode_same {ps:List Int} {l:Pairs}:lcode ps [l,l]=ccode ps l:=by
 unfold lcode ccode
 by_cases h:pcode ps=0
 ·rw [if_pos h,if_pos h]
  unfold lgo
  by_cases h2:scode ps.length l=0
  ·rw [if_pos h2]
   unfold lgo
   rw [if_pos h2,h2]; rfl
  ·rw [if_neg h2]
 ·rw [if_neg h,if_neg h]
theorem lawErr_not (w:World) (a0 a1:Option Addr) (c0 c1 n:Nat) (l:Pairs) (hr:Rd w a1 (cellsS l)) (hl:l.length≤9223372036854775807) (hf:fewE n l=false) (L:Laid w) :
  Gives Tryz.prog 4 #[.slice a0 n c0,.slice a1 l.length c1] w (.bool true):=by
 unfold Gives
 have HK:=hd_ (fun W (hW:Below w.heap.size w W)=>known14_ok W (L.below hW))
 have HF:=hd_ (fun W (hW:Below w.heap.size w W)=>few14_any W a0 a1 c0 c1 n l (hr.below hW nr_) hl)
 rw [hf] at HF
 have B0:=hd_ (Below.refl w.heap.size w)
 clear L hr hl hf
 generalize l.length=m at *
 go_enter Tryz.func4,Tryz.ntmps4
 go_wp2_with fail
 refine cm_ (HK.out _ B0.out) ?_
 rintro e x1 ⟨rfl,hb⟩
 have B1:=hd_ hb
 clear hb B0
 go_wp2_with fail
 refine cm_ (HF.out _ B1.out) ?_
 rintro e x2 ⟨rfl,hb⟩
 have B2:=hd_ (B1.out.trans (hb.mono B1.out.size))
 clear hb B1 HF
 go_wp2_with fail
 refine cm_ (HK.out _ B2.out) ?_
 rintro e x3 ⟨rfl,hb⟩
 have B3:=hd_ (B2.out.trans (hb.mono B2.out.size))
 clear hb B2 HK
 go_wp2_with fail
 go_ret
 exact ⟨rfl,B3.out⟩
theorem lawErr_zero (w:World) (a0 a1:Option Addr) (c0 c1:Nat) (ps:List Int) (l:Pairs) (hp:Rd w a0 (ints ps)) (hi:I64s ps) (hr:Rd w a1 (cellsS l)) (hf:fewE ps.length l=true) (hc:ccode ps l=0) (L:Laid w) :
  Gives Tryz.prog 4 #[.slice a0 ps.length c0,.slice a1 l.length c1] w (.bool true):=by
 unfold Gives
 obtain ⟨f1,f2,f3⟩:=fewE_of hf
 have hs:Ssz l:=fun x hx=>by
  obtain ⟨h1,h2⟩:=f3 x hx
  unfold okE at h1 h2
  exact ⟨by omega,by omega⟩
 have HK:=hd_ (known14_ok w L)
 have HF:=hd_ (fun W (hW:Below w.heap.size w W)=>few14_any W a0 a1 c0 c1 ps.length l (hr.below hW nr_) (by omega))
 rw [hf] at HF
 have HC:=hd_ (fun W (hW:Below w.heap.size w W)=>sizeCheck_any W a0 a1 c0 c1 ps l (hp.below hW nr_) hi (by omega) (hr.below hW nr_) (by omega) hs (L.below hW))
 rw [hc] at HC
 clear L hp hi hr hf hc f1 f2 f3 hs
 generalize ps.length=n at *
 generalize l.length=m at *
 have HE:=hd_ (fun W (hW:Below w.heap.size w W)=>enclose_neg W a0 a1 c0 c1 n m (-1) (fun W' h=>HC.out W' (hW.trans (h.mono hW.size))) (by decide))
 have HCe:=hd_ (fun W (hW:Below w.heap.size w W)=>cents_fail W a0 a1 c0 c1 n m 3 10 (certain_rng W a0 a1 c0 c1 n m 10 (fun W' h=>HC.out W' (hW.trans (h.mono hW.size))) (.inr (by decide))) (by decide))
 have HN:=hd_ (fun W (hW:Below w.heap.size w W)=>narrow_any W a0 a1 c0 c1 n m 3 (-1) (Q:=fun _ _=>True) ((certain_rng W a0 a1 c0 c1 n m (-1) (fun W' h=>HC.out W' (hW.trans (h.mono hW.size))) (.inl (by decide))).mono fun e w' h=>⟨0,⟨#[]⟩,h.1,trivial,h.2⟩))
 unfold noF at HE
 go_enter Tryz.func4,Tryz.ntmps4
 go_wp2_with fail
 refine cm_ HK.out ?_
 rintro e x1 ⟨rfl,hb⟩
 have B1:=hd_ hb
 clear hb HK
 go_wp2_with fail
 refine cm_ (HF.out _ B1.out) ?_
 rintro e x2 ⟨rfl,hb⟩
 have B2:=hd_ (B1.out.trans (hb.mono B1.out.size))
 clear hb B1 HF
 go_wp2_with fail
 refine cm_ (HC.out _ B2.out) ?_
 rintro e x3 ⟨rfl,hb⟩
 have B3:=hd_ (B2.out.trans (hb.mono B2.out.size))
 clear hb B2 HC
 go_wp2_with fail
 refine cm_ (HE.out _ B3.out) ?_
 rintro e x4 ⟨rfl,hb⟩
 have B4:=hd_ (B3.out.trans (hb.mono B3.out.size))
 have B5:=hd_ ((B4.out.alloc B4.out.size (.cells #[.string ⟨#[]⟩,.string ⟨#[]⟩] 42)).alloc (by have:=B4.out.size; simp; omega) (.cells #[.string ⟨#[]⟩,.string ⟨#[]⟩] 42))
 clear hb B3 HE B4
 go_wp2_with fail
 generalize (x4.alloc (.cells #[.string ⟨#[]⟩,.string ⟨#[]⟩] 42)).alloc (.cells #[.string ⟨#[]⟩,.string ⟨#[]⟩] 42)=x5 at *
 refine cm_ (HCe.out _ B5.out) ?_
 rintro e x6 ⟨rfl,hb⟩
 have B6:=hd_ (B5.out.trans (hb.mono B5.out.size))
 clear hb B5 HCe
 go_wp2_with fail
 refine cm_ (HN.out _ B6.out) ?_
 rintro e x7 ⟨z,s,rfl,-,hb⟩
 have B7:=hd_ (B6.out.trans (hb.mono B6.out.size))
 clear hb B6 HN
 go_wp2_with fail
 go_ret
 exact ⟨rfl,B7.out⟩
theorem lawErr_bad (w:World) (a0 a1:Option Addr) (c0 c1:Nat) (ps:List Int) (l:Pairs) (hp:Rd w a0 (ints ps)) (hi:I64s ps) (hr:Rd w a1 (cellsS l)) (hf:fewE ps.length l=true) (hc:ccode ps l≠0) (L:Laid w) :
  Gives Tryz.prog 4 #[.slice a0 ps.length c0,.slice a1 l.length c1] w (.bool true):=by
 unfold Gives
 obtain ⟨f1,f2,f3⟩:=fewE_of hf
 have hs:Ssz l:=fun x hx=>by
  obtain ⟨h1,h2⟩:=f3 x hx
  unfold okE at h1 h2
  exact ⟨by omega,by omega⟩
 have HK:=hd_ (known14_ok w L)
 have HF:=hd_ (fun W (hW:Below w.heap.size w W)=>few14_any W a0 a1 c0 c1 ps.length l (hr.below hW nr_) (by omega))
 rw [hf] at HF
 have HC:=hd_ (fun W (hW:Below w.heap.size w W)=>sizeCheck_any W a0 a1 c0 c1 ps l (hp.below hW nr_) hi (by omega) (hr.below hW nr_) (by omega) hs (L.below hW))
 have HD:=hd_ (fun W (hW:Below w.heap.size w W)=>decide_err W a0 a1 c0 c1 ps l (hp.below hW nr_) hi (by omega) (hr.below hW nr_) (by omega) hs (L.below hW) hc)
 have hlc:=lcode_same (ps:=ps) (l:=l)
 have HS:=hd_ (fun W (hW:Below w.heap.size w W)=>Sub_err W ps a0 a1 a1 c0 c1 c1 l l ⟨hp.below hW nr_,hi,by omega,hr.below hW nr_,hr.below hW nr_,by omega,by omega,hs,hs,L.below hW⟩ (by rw [hlc]; exact hc))
 rw [hlc] at HS
 clear L hp hi hr hf f1 f2 f3 hs hlc
 generalize ccode ps l=code at *
 generalize ps.length=n at *
 generalize l.length=m at *
 have HE:=hd_ (fun W (hW:Below w.heap.size w W)=>enclose_err W a0 a1 c0 c1 n m code 5 (fun W' h=>HC.out W' (hW.trans (h.mono hW.size))) hc)
 have HO:=hd_ (fun W (hW:Below w.heap.size w W)=>order_err W a0 a1 a1 c0 c1 c1 n m m code (fun W' h=>(HS.out W' (hW.trans (h.mono hW.size))).mono fun e w' h=>⟨⟨0,h.1⟩,h.2⟩) hc)
 have HCe:=hd_ (fun W (hW:Below w.heap.size w W)=>cents_fail W a0 a1 c0 c1 n m code 1 (certain_err W a0 a1 c0 c1 n m code 1 (fun W' h=>HC.out W' (hW.trans (h.mono hW.size))) hc) hc)
 have HN:=hd_ (fun W (hW:Below w.heap.size w W)=>narrow_any W a0 a1 c0 c1 n m code 1 (Q:=fun z _=>z=0) ((certain_err W a0 a1 c0 c1 n m code 1 (fun W' h=>HC.out W' (hW.trans (h.mono hW.size))) hc).mono fun e w' h=>⟨0,⟨#[]⟩,h.1,rfl,h.2⟩))
 have HV:=hd_ (fun W (hW:Below w.heap.size w W)=>verify_err W a0 a1 c0 c1 n m code 0 0 none 0 0 (fun W' h=>HC.out W' (hW.trans (h.mono hW.size))) hc)
 have HNo:=hd_ (fun W=>none14_nil W 0)
 have hnz:(code == 0)=false:=by rw [beq_eq_false_iff_ne]; exact hc
 unfold noF at HE
 unfold cmpV at HD HO HV HNo
 clear hc HS
 go_enter Tryz.func4,Tryz.ntmps4
 go_wp2_with fail
 refine cm_ HK.out ?_
 rintro e x1 ⟨rfl,hb⟩
 have B1:=hd_ hb
 clear hb HK
 go_wp2_with fail
 refine cm_ (HF.out _ B1.out) ?_
 rintro e x2 ⟨rfl,hb⟩
 have B2:=hd_ (B1.out.trans (hb.mono B1.out.size))
 clear hb B1 HF
 go_wp2_with fail
 refine cm_ (HC.out _ B2.out) ?_
 rintro e x3 ⟨rfl,hb⟩
 have B3:=hd_ (B2.out.trans (hb.mono B2.out.size))
 clear hb B2 HC
 go_wp2_with fail
 refine cm_ (HE.out _ B3.out) ?_
 rintro e x4 ⟨rfl,hb⟩
 have B4:=hd_ (B3.out.trans (hb.mono B3.out.size))
 have B5:Hid (Below w.heap.size w ((x4.alloc (.cells #[.string ⟨#[]⟩,.string ⟨#[]⟩] 42)).alloc (.cells #[.string ⟨#[]⟩,.string ⟨#[]⟩] 42))):=(B4.out.alloc B4.out.size (.cells #[.string ⟨#[]⟩,.string ⟨#[]⟩] 42)).alloc (by have:=B4.out.size; simp; omega) (.cells #[.string ⟨#[]⟩,.string ⟨#[]⟩] 42)
 have hz:(x4.alloc (.cells #[.string ⟨#[]⟩,.string ⟨#[]⟩] 42)).heap.size=x4.heap.size + 1:=by simp
 have F1:Hid (((x4.alloc (.cells #[.string ⟨#[]⟩,.string ⟨#[]⟩] 42)).alloc (.cells #[.string ⟨#[]⟩,.string ⟨#[]⟩] 42)).heap[x4.heap.size]?=some (.cells #[.string ⟨#[]⟩,.string ⟨#[]⟩] 42 (0,0))):=heap_old (heap_alloc_new x4 _) _
 have F2:Hid (((x4.alloc (.cells #[.string ⟨#[]⟩,.string ⟨#[]⟩] 42)).alloc (.cells #[.string ⟨#[]⟩,.string ⟨#[]⟩] 42)).heap[x4.heap.size + 1]?=some (.cells #[.string ⟨#[]⟩,.string ⟨#[]⟩] 42 (0,0))):=by
  show _=_
  rw [← hz]; exact heap_alloc_new _ _
 clear hb B3 HE B4 hz
 go_wp2_with fail
 generalize ((x4.alloc (.cells #[.string ⟨#[]⟩,.string ⟨#[]⟩] 42)).alloc (.cells #[.string ⟨#[]⟩,.string ⟨#[]⟩] 42))=x5 at *
 generalize x4.heap.size=g1 at *
 refine cm_ (HD.out _ B5.out) ?_
 rintro e x6 ⟨rfl,hb⟩
 have B6:=hd_ (B5.out.trans (hb.mono B5.out.size))
 replace F1:=hd_ (heap_kept F1.out hb nr_)
 replace F2:=hd_ (heap_kept F2.out hb nr_)
 clear hb B5 HD
 have B7:=hd_ (B6.out.alloc B6.out.size (.cells #[.int .i64 0,.int .i64 0,.slice none 0 0] 51))
 have F3:Hid ((x6.alloc (.cells #[.int .i64 0,.int .i64 0,.slice none 0 0] 51)).heap[x6.heap.size]?=some (.cells #[.int .i64 0,.int .i64 0,.slice none 0 0] 51 (0,0))):=heap_alloc_new x6 _
 replace F1:=hd_ (heap_old F1.out (.cells #[.int .i64 0,.int .i64 0,.slice none 0 0] 51))
 replace F2:=hd_ (heap_old F2.out (.cells #[.int .i64 0,.int .i64 0,.slice none 0 0] 51))
 clear B6
 go_wp2_with fail
 generalize x6.alloc (.cells #[.int .i64 0,.int .i64 0,.slice none 0 0] 51)=x7 at *
 generalize x6.heap.size=g3 at *
 refine cm_ (HO.out _ B7.out) ?_
 rintro e x8 ⟨rfl,hb⟩
 have B8:=hd_ (B7.out.trans (hb.mono B7.out.size))
 replace F1:=hd_ (heap_kept F1.out hb nr_)
 replace F2:=hd_ (heap_kept F2.out hb nr_)
 replace F3:=hd_ (heap_kept F3.out hb nr_)
 clear hb B7 HO
 have B9:=hd_ (B8.out.alloc B8.out.size (.cells #[.int .i64 0,.int .i64 0,.slice none 0 0] 51))
 have F4:Hid ((x8.alloc (.cells #[.int .i64 0,.int .i64 0,.slice none 0 0] 51)).heap[x8.heap.size]?=some (.cells #[.int .i64 0,.int .i64 0,.slice none 0 0] 51 (0,0))):=heap_alloc_new x8 _
 replace F1:=hd_ (heap_old F1.out (.cells #[.int .i64 0,.int .i64 0,.slice none 0 0] 51))
 replace F2:=hd_ (heap_old F2.out (.cells #[.int .i64 0,.int .i64 0,.slice none 0 0] 51))
 replace F3:=hd_ (heap_old F3.out (.cells #[.int .i64 0,.int .i64 0,.slice none 0 0] 51))
 clear B8
 go_wp2_with fail
 generalize x8.alloc (.cells #[.int .i64 0,.int .i64 0,.slice none 0 0] 51)=x9 at *
 generalize x8.heap.size=g4 at *
 refine cm_ (HCe.out _ B9.out) ?_
 rintro e y1 ⟨rfl,hb⟩
 have B10:=hd_ (B9.out.trans (hb.mono B9.out.size))
 replace F1:=hd_ (heap_kept F1.out hb nr_)
 replace F2:=hd_ (heap_kept F2.out hb nr_)
 replace F3:=hd_ (heap_kept F3.out hb nr_)
 replace F4:=hd_ (heap_kept F4.out hb nr_)
 clear hb B9 HCe
 go_wp2_with fail
 refine cm_ (HN.out _ B10.out) ?_
 rintro e y2 ⟨z,s,rfl,rfl,hb⟩
 have B11:=hd_ (B10.out.trans (hb.mono B10.out.size))
 replace F1:=hd_ (heap_kept F1.out hb nr_)
 replace F2:=hd_ (heap_kept F2.out hb nr_)
 replace F3:=hd_ (heap_kept F3.out hb nr_)
 replace F4:=hd_ (heap_kept F4.out hb nr_)
 clear hb B10 HN
 obtain ⟨p0,p1,-,-⟩:=two_cells F1.out
 obtain ⟨q0,q1,-,-⟩:=two_cells F2.out
 obtain ⟨r0,r1,r2,-⟩:=three_cells F3.out
 go_wp2_with fail
 clear p0 p1 q0 q1 r0 r1 r2 F1 F2 F3
 refine cm_ (HNo.out _) ?_
 rintro e y3 ⟨rfl,hb⟩
 obtain ⟨r0,r1,r2,-⟩:=three_cells (heap_kept F4.out hb nr_)
 have B12:=hd_ (B11.out.trans (hb.mono B11.out.size))
 clear hb F4 B11
 go_wp2_with fail
 clear r0 r1 r2
 refine cm_ (HNo.out _) ?_
 rintro e y4 ⟨rfl,hb⟩
 have B13:=hd_ (B12.out.trans (hb.mono B12.out.size))
 clear hb B12 HNo
 go_wp2_with fail
 refine cm_ (HV.out _ B13.out) ?_
 rintro e y5 ⟨rfl,hb⟩
 have B14:=hd_ (B13.out.trans (hb.mono B13.out.size))
 clear hb B13 HV
 go_wp2_with fail
 go_ret
 exact ⟨rfl,B14.out⟩
theorem lawErr (w:World) (a0 a1:Option Addr) (c0 c1:Nat) (ps:List Int) (l:Pairs) (hp:Rd w a0 (ints ps)) (hi:I64s ps) (hr:Rd w a1 (cellsS l)) (hl:l.length≤9223372036854775807) (L:Laid w) :
  Gives Tryz.prog 4 #[.slice a0 ps.length c0,.slice a1 l.length c1] w (.bool true):=by
 cases hf:fewE ps.length l
 ·exact lawErr_not w a0 a1 c0 c1 _ l hr hl hf L
 ·by_cases hc:ccode ps l=0
  ·exact lawErr_zero w a0 a1 c0 c1 ps l hp hi hr hf hc L
  ·exact lawErr_bad w a0 a1 c0 c1 ps l hp hi hr hf hc L
end Go.Proofs.YtnjedhgcfeoemaaGreatDoor

namespace Go.Proofs.YtnjedhgcfeoemaaGreatDoor
open Go.ChangeShapes Go.WideShapes Go.ChangeAt Go.RowKit
theorem enclosureErrors_lifted (os:Os) (started:os.Started) (H:Type) (enc:TypeId×Value→H) :
  ReturnsInHanded {} Tryz.checked os 4 .any (fun w args=>(Rows.enclosureErrorsSpec.pre enc Tryz.prog Tryz.f4 [] false w args∧laidMetH Tryz.prog laidL w)∧sizedMet enc Tryz.prog Tryz.f4 (OpenSpec.ofChange Rows.enclosureErrorsSpec) false w args)
   (Rows.enclosureErrorsSpec.post enc Tryz.prog Tryz.f4 false true false false):=by
 refine returnsInHanded_of_change_and (C:=Tryz.checked) (X:=fun w _=>laidMetH Tryz.prog laidL w) (fun _ _ _ hh h=>h.of_heap hh) own started (by kernel_rfl) Tryz.func4
  (ChangeSpec.witness_shaped (enc:=enc) (C:=Tryz.checked) (os:=os) (X:=fun w _=>laidMetH Tryz.prog laidL w) false (World.doorLaid Tryz.prog 400 os) #[.slice none 0 0,.slice none 0 0] 8 rfl (World.shaped_of_RefB (by kernel_rfl) (by kernel_rfl)) (by kernel_rfl) (by kernel_rfl) (by kernel_rfl) (door_met os _)) ?_
 intro W base args ds gs before hval0 hW _ _ hL _
 have hval:∀ (j:Nat) t v,Tryz.f4.params[j]?=some t→args[j]?=some v→Value.okWide Tryz.prog W .any base t v:=hval0
 have hW':=hW
 obtain ⟨p,q,hA0,hV,rfl,hfz,hnd⟩:=hW
 have hA:DataW.TrodAll enc Tryz.prog W 0 (fun _=>true) true Tryz.f4.params.toList args.toList ds p:=hA0
 rw [Tryz.params4] at hA hval
 obtain ⟨v0,vs0,d0,ds0,p0,q0,hargs,rfl,rfl,h0,r0⟩:=trodAll_cons hA
 obtain ⟨v1,vs1,d1,ds1,p1,q1,rfl,rfl,rfl,h1,r1⟩:=trodAll_cons r0
 obtain ⟨rfl,rfl,rfl⟩:=trodAll_nil r1
 obtain rfl:args = #[v0,v1]:=by cases args; simp_all
 obtain ⟨rfl,rfl⟩:=trodVars_none hV
 have k0:=h0
 have lt0:∀ x∈p0,x.block < W.heap.size:=by obtain ⟨m,hm⟩:=k0; exact DataW.trod_lt m _ _ _ hm
 have k1:=h1
 have lt1:∀ x∈p1,x.block < W.heap.size:=by obtain ⟨m,hm⟩:=k1; exact DataW.trod_lt m _ _ _ hm
 obtain ⟨a0,c0,l0,rfl,hr0,hi0,-⟩:=open_ints_any Tryz.underlying36 h0 (okWide_slice Tryz.underlying36 (hval 0 36 v0 rfl rfl))
 obtain ⟨a1,c1,l1,rfl,hr1,hq1,hln⟩:=open_slice_of Tryz.underlying38 cellsRat (by decide) (Q:=fun cs=>∃ q:ByteArray×ByteArray,cs=[.string q.1,.string q.2]∧True) (fun n cs x h=>by
  obtain ⟨q,e,-,-⟩:=open_rat h
  exact ⟨q,e,trivial⟩) h1 (okWide_slice Tryz.underlying38 (hval 1 38 v1 rfl rfl))
 obtain ⟨f1,rfl,-⟩:=choose_list l1 hq1
 have hln':f1.length≤9223372036854775807:=by
  rw [List.length_map] at hln
  exact Nat.le_trans hln (by decide)
 clear hln hq1
 rw [List.length_map] at *
 clear hA0 hval0
 refine (lawErr W a0 a1 c0 c1 l0 f1 hr0 hi0 (rdk_rd hr1) hln' (laid_of hL)).mono fun e W' ⟨he,bel⟩=>?_
 subst he
 exact ⟨_,rfl,_,_,_,[],_,[],hW',trodAll_mk1 (shut_bool Tryz.underlying4 _),(trodAll_cons_mk (Below.trod laidOut (by kernel_rfl) (of_decide_eq_true (by kernel_rfl)) k0 bel lt0) (trodAll_cons_mk (Below.trod laidOut (by kernel_rfl) (of_decide_eq_true (by kernel_rfl)) k1 bel lt1) trodAll_mk0)),rfl,bel.frame _,fun h=>by cases h⟩
end Go.Proofs.YtnjedhgcfeoemaaGreatDoor

namespace Go.Proofs.YtnjedhgcfeoemaaGreatDoor
open Go.ChangeShapes Go.WideShapes Go.ChangeAt Go.RowKit
theorem enclosureErrors_row:Rows.EnclosureErrorsSaid :=
 OpenClaim.holds_of_wide 4 Tryz.f4 rfl rfl rfl rfl rfl rfl rfl ⟨rfl,rfl,rfl,rfl,rfl⟩ rfl rfl rfl rfl rfl (by as_aux_lemma=>kernel_rfl) Tryz.func4 (by
   unfold joinedFacts
   simp only [Bool.and_eq_true]
   repeat' (refine And.intro ?_ ?_)
   all_goals (as_aux_lemma=>kernel_rfl))
  (by as_aux_lemma=>exact of_decide_eq_true (by kernel_rfl)) (by unfold Func.isWrapper; first | (rw [if_pos (by decide +kernel)]; kernel_rfl) | (rw [if_neg (by decide +kernel)]; exact ⟨rfl,rfl⟩))
  (fun os started H enc _=>enclosureErrors_lifted os started H enc)
end Go.Proofs.YtnjedhgcfeoemaaGreatDoor
