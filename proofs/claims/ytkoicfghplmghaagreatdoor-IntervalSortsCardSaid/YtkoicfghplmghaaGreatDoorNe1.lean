/- Lemmas for the laws of this seat, part 1. -/
import Derived.Great.BuildSlice
import Derived.Deep.CutRange
import Derived.Laws.EntriesVeiled
import Derived.Test.YtkoicfghplmghaaGreatDoorNa4
set_option maxRecDepth 100000
set_option maxHeartbeats 16000000
namespace Go.Proofs.YtkoicfghplmghaaGreatDoor
open Go.RowKit
noncomputable def ccode (ps:List Int) (l:Pairs):Int:=if pcode ps=0 then scode ps.length l else pcode ps
theorem sizeCheck_any (w:World) (a1 a2:Option Addr) (c1 c2:Nat) (ps:List Int) (l:Pairs) (hp:Rd w a1 (ints ps)) (hi:I64s ps) (hl1:ps.length≤1000000)
  (hr:Rd w a2 (cellsS l)) (hl:l.length≤1000000) (hs:Ssz l) (L:Laid w) :
  Gives Tryz.prog 81 #[.slice a1 ps.length c1,.slice a2 l.length c2] w (.int .i64 (ccode ps l)):=by
 unfold Gives
 have H1:=hd_ (primeCheck_any w a1 c1 ps hp hi hl1)
 have H2:Hid (∀ W,Below w.heap.size w W→Gives Tryz.prog 131 #[.slice a1 ps.length c1,.slice a2 l.length c2] W (.int .i64 (scode ps.length l))):=fun W hW =>
  scheck_any W a1 a2 c1 c2 ps.length l (hr.below hW nr_) hl hl1 hs (L.below hW)
 have Hv:Hid (ccode ps l=if pcode ps=0 then scode ps.length l else pcode ps):=rfl
 clear hp hi hl1 hr hl hs L
 generalize ccode ps l=v at *
 generalize pcode ps=p at *
 generalize scode ps.length l=q at *
 generalize ps.length=n at *
 generalize l.length=m at *
 by_cases h0:p=0
 ·subst h0
  have Hvv:Hid (v=q):=by show _=_; rw [Hv.out,if_pos rfl]
  clear Hv
  go_enter Tryz.func81,Tryz.ntmps81
  go_wp2_with fail
  refine cm_ H1.out ?_
  rintro e w1 ⟨rfl,hb1⟩
  have Hb1:=hd_ hb1
  clear hb1 H1
  go_wp2_with fail
  refine cm_ (H2.out w1 Hb1.out) ?_
  rintro e w2 ⟨rfl,hb2⟩
  have Hb2:=hd_ (Hb1.out.trans (hb2.mono Hb1.out.size))
  clear hb2 H2 Hb1
  go_wp2
  go_ret
  exact ⟨by rw [Hvv.out]; rfl,Hb2.out⟩
 ·have Hvv:Hid (v=p):=by show _=_; rw [Hv.out,if_neg h0]
  have hp0:(p == 0)=false:=by rw [beq_eq_false_iff_ne]; exact h0
  clear Hv h0
  go_enter Tryz.func81,Tryz.ntmps81
  go_wp2_with fail
  refine cm_ H1.out ?_
  rintro e w1 ⟨rfl,hb1⟩
  have Hb1:=hd_ hb1
  clear hb1 H1
  go_wp2
  go_ret
  exact ⟨by rw [Hvv.out]; rfl,Hb1.out⟩
end Go.Proofs.YtkoicfghplmghaaGreatDoor

namespace Go.Proofs.YtkoicfghplmghaaGreatDoor
open Go.RowKit
theorem rdl_one {w:World} {g:Nat} {a1:Option Addr} {c1:Nat} {l1:Pairs} {t:TypeId} (h:w.heap[g]?=some (.cells #[.slice a1 l1.length c1] t (0,0))) (h1:Rd w a1 (cellsS l1)):RdL w (some ⟨g,0,none⟩) [l1]:=by
 have k0:w.cell? ⟨g,0,none⟩=some (.slice a1 l1.length c1):=by rw [cell_of_row w g 0 _ t (0,0) h]; rfl
 refine .inr ⟨g,0,rfl,(Array.getElem?_eq_some_iff.1 h).1,fun i hi=>?_⟩
 match i,hi with
 | 0,_=>exact ⟨a1,c1,k0,h1⟩
end Go.Proofs.YtkoicfghplmghaaGreatDoor

namespace Go.Proofs.YtkoicfghplmghaaGreatDoor
open Go.RowKit
theorem sum_one (W:World) (g1 g2:Nat) (a1:Option Addr) (c1 n D:Nat) (la:List Rat) (f1:Rat)
  (h1:W.heap[g1]?=some (.cells #[.slice a1 la.length c1] 47 (0,0)))
  (h2:W.heap[g2]?=some (.cells #[.string (itx f1.num),.string (dec f1.den)] 58 (0,0)))
  (ra:Rd W a1 (cellsQ la)) (la1:la.length=n) (sa:∀ q∈la,Sm D q) (s1:Sm 2 f1) (hn:n≤100) (hD:D≤400) (L:Laid W) :
  GivesQ 78 #[.int .i64 n,.slice (some ⟨g1,0,none⟩) 1 1,.slice (some ⟨g2,0,none⟩) 1 1] W (sumQ n [la] [f1]):=by
 have h1':W.heap[g1]?=some (.cells #[.slice a1 (la.map qs).length c1] 47 (0,0)):=by rw [List.length_map]; exact h1
 exact sum_any W _ _ 1 1 n [la] [f1] D 2 (rdl_one h1' ra) (rd_obj h2) (by intro l hl; simp only [List.mem_cons,List.not_mem_nil,or_false] at hl; subst hl; assumption) rfl
  (by intro l hl; simp only [List.mem_cons,List.not_mem_nil,or_false] at hl; subst hl; assumption)
  (by intro q hq; simp only [List.mem_cons,List.not_mem_nil,or_false] at hq; subst hq; assumption) (by omega) (by simp) (by simp only [List.length_cons,List.length_nil]; omega) L
end Go.Proofs.YtkoicfghplmghaaGreatDoor

namespace Go.Proofs.YtkoicfghplmghaaGreatDoor
open Go.RowKit
theorem sumQ_onek (n:Nat) (la:List Rat) (f:Rat) (h1:la.length=n):sumQ n [la] [f]=combineQ la la f 0:=by
 show addTo (List.replicate n 0) la f=_
 refine List.ext_getElem (by simp [addTo,combineQ,h1]) fun i hi1 hi2=>?_
 simp only [addTo,combineQ,List.getElem_zipWith,List.getElem_replicate,Rat.zero_add,Rat.mul_zero,Rat.add_zero]
end Go.Proofs.YtkoicfghplmghaaGreatDoor

namespace Go.Proofs.YtkoicfghplmghaaGreatDoor
open Go.ChangeShapes Go.WideShapes Go.ChangeAt Go.RowKit Go.Joins
theorem cells_get {w:World} {base n:Nat} {a:Addr} {cs:List Value} (h:w.cells? base a n=some cs):cs.length=n∧∀ i,i < n→w.cell? (a.add i)=cs[i]?:=by
 unfold World.cells? at h
 split at h
 ·have hl:cs.length=n:=by
   have:=Lib.mapM_length h
   simpa using this
  refine ⟨hl,fun i hi=>?_⟩
  obtain ⟨b,hb,he⟩:=Lib.mapM_at h i i (by simp [hi])
  rw [hb,he]
 ·cases h
def RdK (w:World) (k:Nat) (a:Option Addr) (css:List (List Value)):Prop :=
 css=[]∨∃ b off,a=some ⟨b,off,none⟩∧b < w.heap.size∧∀ i (h:i < css.length) j,j < k→w.cell? ⟨b,off + i * k + j,none⟩=css[i][j]?
section
variable {H:Type} {enc:TypeId×Value→H} {W:World}
theorem open_slice_of {t e:TypeId} {k:Nat} (ht:Tryz.prog.underlying t=some (.slice e)) (hk:Tryz.prog.cellsOf e=k) (k0:0 < k) {Q:List Value→Prop}
  (hQ:∀ (n:Nat) (cs:List Value) (x:DataW H×List MemPlace),DataW.trod enc Tryz.prog W 0 (fun _=>true) true n e cs=some x→Q cs)
  {v:Value} {d:DataW H} {p:List MemPlace} (h:DataW.Trod enc Tryz.prog W 0 (fun _=>true) true t v d p) (hv:∃ a len cap,v = .slice a len cap) :
  ∃ (a:Option Addr) (c:Nat) (css:List (List Value)),v = .slice a css.length c∧RdK W k a css∧(∀ cs∈css,Q cs)∧css.length≤maxLen:=by
 obtain ⟨a,len,cap,rfl⟩:=hv
 obtain ⟨fuel,hf⟩:=h
 rcases DataW.trod_slice ht hf with ⟨hcs,_⟩ | ⟨a,len,cap,elems,rest,n,_,hcs,_,hb,hl,hm,hlen,hel,_,_⟩
 ·simp [Value.cells] at hcs
  obtain ⟨rfl,rfl,rfl⟩:=hcs
  exact ⟨none,0,[],rfl,.inl rfl,(fun x hx=>by cases hx),Nat.zero_le _⟩
 ·simp [Value.cells] at hcs
  obtain ⟨rfl,rfl,rfl⟩:=hcs
  rw [hk] at hel
  have each:∀ i,i < len→∃ cs,W.cells? 0 (a.add (i * k)) k=some cs∧Q cs:=fun i hi=>by
   have h1:=hel i hi
   have h2:i < elems.length:=by omega
   rw [List.getElem?_eq_getElem h2,Option.bind_eq_some_iff] at h1
   obtain ⟨cs,hcs,hx⟩:=h1
   exact ⟨cs,hcs,hQ _ _ _ hx⟩
  have hlist:∀ m,m≤len→∃ css:List (List Value),css.length=m∧(∀ cs∈css,Q cs)∧∀ i (h:i < css.length),W.cells? 0 (a.add (i * k)) k=some css[i]:=by
   intro m
   induction m with
   | zero=>intro _; exact ⟨[],rfl,(fun _ h=>by cases h),fun i h=>absurd h (Nat.not_lt_zero _)⟩
   | succ m ih =>
    intro hm'
    obtain ⟨css,h1,h2,h3⟩:=ih (by omega)
    obtain ⟨cs,h4,h5⟩:=each m (by omega)
    refine ⟨css ++ [cs],by simp [h1],?_,?_⟩
    ·intro x hx
     rcases List.mem_append.1 hx with hx | hx
     ·exact h2 x hx
     ·rw [List.mem_singleton.1 hx]; exact h5
    ·intro i hi
     rw [List.length_append,List.length_singleton] at hi
     by_cases him:i < css.length
     ·rw [List.getElem_append_left him]; exact h3 i him
     ·have e:i=m:=by omega
      subst e
      rw [List.getElem_append_right (by omega)]
      simp only [h1,Nat.sub_self,List.getElem_cons_zero]
      exact h4
  obtain ⟨css,h1,h2,h3⟩:=hlist len nr_
  refine ⟨some a,cap,css,by rw [h1],?_,h2,by omega⟩
  by_cases h0:len=0
  ·exact .inl (List.eq_nil_of_length_eq_zero (by omega))
  ·obtain ⟨b,off,spot⟩:=a
   have hc0:=(cells_get (h3 0 (by omega))).2 0 k0
   have hl0:=(cells_get (h3 0 (by omega))).1
   have hspot:spot=none:=by
    rw [List.getElem?_eq_getElem (by omega)] at hc0
    simpa [Addr.add] using World.cell?_spot hc0
   subst hspot
   refine .inr ⟨b,off,rfl,?_,fun i hi j hj=>?_⟩
   ·rw [List.getElem?_eq_getElem (by omega)] at hc0
    have:=block_lt_of_cell hc0
    rw [Go.WideShapes.add_plain,Go.WideShapes.add_plain] at this
    exact this
   ·have:=(cells_get (h3 i hi)).2 j hj
    rw [Go.WideShapes.add_plain,Go.WideShapes.add_plain] at this
    exact this
end
end Go.Proofs.YtkoicfghplmghaaGreatDoor

namespace Go.Proofs.YtkoicfghplmghaaGreatDoor
open Go.RowKit
theorem mcode_two {ps xs ys:List Int} (hp:pcode ps=0) (h1:Xs xs) (h2:Xs ys) (l1:xs.length=ps.length) (l2:ys.length=ps.length):mcode ps [xs,ys]=0:=by
 unfold mcode
 rw [if_pos hp,mgo,if_pos (mrow_ok h1 l1),mgo,if_pos (mrow_ok h2 l2),mgo]
end Go.Proofs.YtkoicfghplmghaaGreatDoor

namespace Go.Proofs.YtkoicfghplmghaaGreatDoor
open Go.RowKit Go.Proofs.YtkoicfghplmghaaGreatDoor.RY
theorem Sign_dec (w:World) (ps:List Int) (a0 a1:Option Addr) (c0 c1:Nat) (la:List Rat) (A:SizeOk w ps a0 a1 la 30) (hp:pcode ps=0) (g:Good ps la) (L:Laid w) :
  Gives Tryz.prog 23 #[.slice a0 ps.length c0,.slice a1 ps.length c1] w (.tuple #[.int .i64 (LN.sz ps la),.int .i64 0]):=by
 unfold Gives
 have hn:=A.n
 have Hc:Hid (Gives Tryz.prog 81 #[.slice a0 ps.length c0,.slice a1 ps.length c1] w (.int .i64 0)):=by
  have:=sizeCheck_any w a0 a1 c0 c1 ps (la.map qs) A.rp A.i64 (by omega) A.rl (by rw [List.length_map,A.len]; omega) (ssz_ok A.sm) L
  rw [List.length_map,A.len] at this
  unfold ccode at this
  rw [if_pos hp,scode_ok A.sm A.len] at this
  exact this
 have Ht:Hid (∀ W,Below w.heap.size w W→Calls Tryz.prog 82 #[.slice a0 ps.length c0,.slice a1 ps.length c1] W fun e w'=>∃ b1 d1 b2 d2,e = .returned (.agg (tcells b1 d1 b2 d2 (tlQ ps la).length (tden la)))∧TermsAt w' (tlQ ps la) b1 b2∧Below W.heap.size W w'):=fun W hW=>by
  have:=terms_ok (c0:=c0) (c:=c1) (A.below hW) (L.below hW)
  rw [A.len] at this
  exact this
 have Hs:Hid (∀ W b1 b2 d1 d2,TermsAt W (tlQ ps la) b1 b2→Below w.heap.size w W→Gives Tryz.prog 83 #[.agg (tcells b1 d1 b2 d2 (tlQ ps la).length (tden la))] W (.int .i64 (LN.sz ps la))):=fun W b1 b2 d1 d2 T hW =>
  sign_dec W b1 b2 d1 d2 _ 101 _ T g.trt (by decide) g.lt (g.dec hn) (L.below hW)
 clear A hp g L hn
 generalize LN.sz ps la=r at *
 generalize ps.length=n at *
 go_enter Tryz.func23,Tryz.ntmps23
 go_wp2_with fail
 refine cm_ Hc.out ?_
 rintro e w1 ⟨rfl,hb⟩
 have B1:=hd_ hb
 clear hb Hc
 go_wp2_with fail
 refine cm_ (Ht.out _ B1.out) ?_
 rintro e w2 ⟨b1,d1,b2,d2,rfl,T,hb⟩
 have B2:=hd_ (B1.out.trans (hb.mono B1.out.size))
 have Hs2:=hd_ (Hs.out w2 b1 b2 d1 d2 T B2.out)
 clear hb Ht T Hs
 go_wp2_with fail
 refine cm_ Hs2.out ?_
 rintro e w3 ⟨rfl,hb⟩
 have B3:=hd_ (B2.out.trans (hb.mono B2.out.size))
 clear hb Hs2
 go_wp2_with fail
 go_ret2
 exact ⟨rfl,B3.out⟩
end Go.Proofs.YtkoicfghplmghaaGreatDoor

namespace Go.Proofs.YtkoicfghplmghaaGreatDoor
open Go.RowKit
theorem iSort_err (w:World) (a0 al:Option Addr) (c0 cl:Nat) (ps:List Int) (l:List (List Int)) (rp:Rd w a0 (ints ps)) (hi:I64s ps) (hl0:ps.length≤1000000) (rl:RdI w al l) (hn:Nil0 al l.length cl) (hl:l.length≤1000) (hl2:∀ x∈l,x.length≤1000000) (hc:ocode ps l []≠0) :
  Gives Tryz.prog 57 #[.slice a0 ps.length c0,.slice al l.length cl] w (.tuple #[.slice none 0 0,.int .i64 (ocode ps l [])]):=by
 unfold Gives
 have HOp:Hid (Gives Tryz.prog 93 #[.slice a0 ps.length c0,.slice al l.length cl,.slice none 0 0] w (.int .i64 (ocode ps l []))) :=
  open_any w a0 al none c0 cl 0 ps l [] rp hi hl0 rl (.inl rfl) hn (fun _=>⟨rfl,rfl⟩) (by omega) (by simp) (fun x hx=>by rw [List.append_nil] at hx; exact hl2 x hx)
 have hp0:(ocode ps l [] == 0)=false:=by rw [beq_eq_false_iff_ne]; exact hc
 clear rp hi rl hn hl2 hc
 generalize ocode ps l []=p at *
 generalize l.length=m at *
 generalize ps.length=n at *
 go_enter Tryz.func57,Tryz.ntmps57
 go_wp2_with fail
 refine cm_ HOp.out ?_
 rintro e_ w1 ⟨rfl,hb_⟩
 have B1:=hd_ hb_
 clear hb_ HOp
 go_wp2_with fail
 go_ret2
 exact ⟨rfl,B1.out⟩
end Go.Proofs.YtkoicfghplmghaaGreatDoor

namespace Go.Proofs.YtkoicfghplmghaaGreatDoor
open Go.RowKit
theorem idxR_any (w:World) (a:Option Addr) (c:Nat) (l:List (List Int)) (hr:RdI w a l) (hl:l.length≤1000000) (f:FuncId) (lb:Array Value) (eg:∀ args w,(callFunc f args).run Tryz.prog w = .ok (.enter f args) w) (pf:List Int→Bool)
  (hcl:∀ W,Below w.heap.size w W→∀ x∈l,∀ a' c',Rd W a' (ints x)→Gives Tryz.prog f (#[.slice a' x.length c'] ++ lb) W (.bool (pf x))) :
  Gives Tryz.prog 96 #[.slice a l.length c,.func (.func f) #[] lb] w (.int .i64 (idxB pf l 0)):=by
 unfold Gives
 have Hr:=hd_ hr
 have Hcl:=hd_ hcl
 clear hr hcl
 generalize hm:l.length=m at *
 have Hm:=hd_ hm
 clear hm
 generalize hv:idxB pf l 0=v at *
 have Hvv:Hid (v=idxB pf l 0):=hv.symm
 clear hv
 go_enter Tryz.func96,Tryz.ntmps96
 go_wp2_with fail
 go_loopw [8] (fun i wr=>∃ k:Nat,k≤m∧i = .int .i64 k∧Hid (v=idxB pf (l.drop k) k)∧Hid (Below w.heap.size w wr)) (fun i _=>m - (intOf i).toNat)
 case atStart=>exact ⟨0,Nat.zero_le _,rfl,Hvv,Below.refl _ _⟩
 case round =>
  clear Hvv
  obtain ⟨k,hk,rfl,Hx,B⟩:=hrel
  by_cases hlt:k < m
  ·have hlt':(k:Int) < m:=by omega
   have hkb:k < l.length:=by rw [Hm.out]; exact hlt
   obtain ⟨b,off,rfl,hb,hcells⟩:=rdi_cells Hr.out (by omega)
   obtain ⟨ax,cx,cy,rx⟩:=hcells k hkb
   rw [← B.out.cell (p:=⟨b,off + k,none⟩) hb] at cy
   have Hd:Hid (l.drop k=l[k] :: l.drop (k + 1)):=List.drop_eq_getElem_cons hkb
   have Hc:=hd_ (Hcl.out wr B.out l[k] (List.getElem_mem hkb) ax cx (rx.below B.out nr_))
   clear hcells rx
   generalize l[k]=x at *
   cases hf:pf x with
   | false =>
    have Hn:Hid (v=idxB pf (l.drop (k + 1)) (k + 1)):=by show _=_; rw [Hx.out,Hd.out,idxB,if_neg (by rw [hf]; decide)]
    rw [hf] at Hc
    go_wp2_with fail
    refine cm_ Hc.out ?_
    rintro e w1 ⟨rfl,hb1⟩
    have B1:=hd_ (B.out.trans (hb1.mono B.out.size))
    clear hb1 Hc B cy
    go_wp2_with fail
    go_roundw
    case rel=>exact ⟨k + 1,by omega,by go_num,Hn,B1⟩
    case measure=>simp [intOf]; omega
   | true =>
    have Hn:Hid (v=k):=by show _=_; rw [Hx.out,Hd.out,idxB,if_pos hf]
    rw [hf] at Hc
    go_wp2_with fail
    refine cm_ Hc.out ?_
    rintro e w1 ⟨rfl,hb1⟩
    have B1:=hd_ (B.out.trans (hb1.mono B.out.size))
    clear hb1 Hc B cy
    go_wp2_with fail
    go_ret
    exact ⟨by rw [Hn.out]; rfl,B1.out⟩
  ·have hlt':¬ (k:Int) < m:=by omega
   have Hn:Hid (v = -1):=by show _=_; rw [Hx.out,List.drop_of_length_le (by rw [Hm.out]; omega)]; rfl
   go_wp2_with fail
   go_ret
   exact ⟨by rw [Hn.out]; rfl,B.out⟩
theorem conR_any (w:World) (a:Option Addr) (c:Nat) (l:List (List Int)) (hr:RdI w a l) (hl:l.length≤1000000) (f:FuncId) (lb:Array Value) (eg:∀ args w,(callFunc f args).run Tryz.prog w = .ok (.enter f args) w) (pf:List Int→Bool)
  (hcl:∀ W,Below w.heap.size w W→∀ x∈l,∀ a' c',Rd W a' (ints x)→Gives Tryz.prog f (#[.slice a' x.length c'] ++ lb) W (.bool (pf x))) :
  Gives Tryz.prog 36 #[.slice a l.length c,.func (.func f) #[] lb] w (.bool (l.any pf)):=by
 unfold Gives
 have Hc:=hd_ (idxR_any w a c l hr hl f lb eg pf hcl)
 have Hv:=hd_ (idxB_any pf l 0)
 unfold Gives at Hc
 clear hr hcl
 generalize l.length=m at *
 generalize idxB pf l 0=v at *
 generalize l.any pf=z at *
 go_enter Tryz.func36,Tryz.ntmps36
 go_wp2_with fail
 refine cm_ Hc.out ?_
 rintro e w1 ⟨rfl,hb1⟩
 have B1:=hd_ hb1
 clear hb1 Hc
 go_wp2_with fail
 go_ret
 exact ⟨by rw [← Hv.out]; rfl,B1.out⟩
def farX (x:Int):Bool:=decide (1000 < x) || decide (x < -1000)
theorem farX_iff (l:List Int):l.any farX=false↔Xs l:=by
 induction l with
 | nil=>exact ⟨fun _ x hx=>(by cases hx),fun _=>rfl⟩
 | cons x l ih =>
  have e:Xs (x :: l)↔(-1000≤x∧x≤1000)∧Xs l:=by simp [Xs]
  rw [List.any_cons,Bool.or_eq_false_iff,e,ih]
  unfold farX
  rw [Bool.or_eq_false_iff,decide_eq_false_iff_not,decide_eq_false_iff_not]
  refine and_congr_left fun _=>?_
  omega
theorem farX_ok (w:World) (x:Int):Gives Tryz.prog 102 #[.int .i64 x] w (.bool (farX x)):=by
 unfold Gives
 by_cases h1:1000 < x
 ·rw [show farX x=true by unfold farX; rw [decide_eq_true h1]; rfl]
  go_enter Tryz.func102,Tryz.ntmps102
  go_wp2_with fail
  go_ret
  exact ⟨rfl,Below.refl _ _⟩
 ·by_cases h2:x < -1000
  ·rw [show farX x=true by unfold farX; rw [decide_eq_true h2]; simp]
   go_enter Tryz.func102,Tryz.ntmps102
   go_wp2_with fail
   go_ret
   exact ⟨rfl,Below.refl _ _⟩
  ·rw [show farX x=false by unfold farX; rw [decide_eq_false h1,decide_eq_false h2]; rfl]
   go_enter Tryz.func102,Tryz.ntmps102
   go_wp2_with fail
   go_ret
   exact ⟨rfl,Below.refl _ _⟩
theorem llong_ok (w:World) (a:Option Addr) (c:Nat) (l:List Int) (hr:Rd w a (ints l)) (hl:l.length≤1000000) :
  Gives Tryz.prog 44 #[.slice a l.length c] w (.bool (l.any farX)):=by
 unfold Gives
 have Hc:Hid (Gives Tryz.prog 68 #[.slice a l.length c,.func (.func 102) #[] #[]] w (.bool (l.any farX))):=by
  exact conI_any w a c l hr hl _ _ (enter_of Tryz.func102 (by kernel_rfl) rfl) farX fun W _ x _=>farX_ok W x
 clear hr
 generalize l.length=m at *
 generalize (l.any farX)=z at *
 go_enter Tryz.func44,Tryz.ntmps44
 go_wp2_with fail
 refine cm_ Hc.out ?_
 rintro e w1 ⟨rfl,hb1⟩
 have B1:=hd_ hb1
 clear hb1 Hc
 go_wp2_with fail
 go_ret
 exact ⟨rfl,B1.out⟩
def wideX (x:List Int):Bool:=decide (8 < x.length)
theorem wideX_ok (w:World) (a:Option Addr) (c:Nat) (x:List Int):Gives Tryz.prog 92 #[.slice a x.length c] w (.bool (wideX x)):=by
 unfold Gives wideX
 generalize x.length=m
 have e:decide (8 < m)=decide ((8:Int) < m):=by
  by_cases h:8 < m
  ·rw [decide_eq_true h,decide_eq_true (by omega)]
  ·rw [decide_eq_false h,decide_eq_false (by omega)]
 rw [e]
 go_enter Tryz.func92,Tryz.ntmps92
 go_wp2_with fail
 go_ret
 exact ⟨rfl,Below.refl _ _⟩
theorem lfew_ok (w:World) (a:Option Addr) (c:Nat) (l:List (List Int)) (hr:RdI w a l) :
  Gives Tryz.prog 33 #[.slice a l.length c] w (.bool (decide (l.length≤6) && !l.any wideX)):=by
 unfold Gives
 by_cases h6:l.length≤6
 ·have Hc:Hid (Gives Tryz.prog 36 #[.slice a l.length c,.func (.func 92) #[] #[]] w (.bool (l.any wideX))) :=
   conR_any w a c l hr (by omega) _ _ (enter_of Tryz.func92 (by kernel_rfl) rfl) wideX fun W _ x _ a' c' _=>wideX_ok W a' c' x
  rw [decide_eq_true h6,Bool.true_and]
  clear hr
  generalize l.length=m at *
  generalize l.any wideX=z at *
  have h6':(m:Int)≤6:=by omega
  go_enter Tryz.func33,Tryz.ntmps33
  go_wp2_with fail
  refine cm_ Hc.out ?_
  rintro e w1 ⟨rfl,hb1⟩
  have B1:=hd_ hb1
  clear hb1 Hc
  go_wp2_with fail
  go_ret
  exact ⟨rfl,B1.out⟩
 ·rw [decide_eq_false h6,Bool.false_and]
  clear hr
  generalize l.length=m at *
  have h6':¬ (m:Int)≤6:=by omega
  go_enter Tryz.func33,Tryz.ntmps33
  go_wp2_with fail
  go_ret
  exact ⟨rfl,Below.refl _ _⟩
end Go.Proofs.YtkoicfghplmghaaGreatDoor

namespace Go.Proofs.YtkoicfghplmghaaGreatDoor
open Go.RowKit
theorem lfirst_any (w:World) (a0 a1:Option Addr) (c0 c1:Nat) (ps:List Int) (l:List (List Int)) (hp:Rd w a0 (ints ps)) (hi:I64s ps) (hl0:ps.length≤1000000) (r1:RdI w a1 l) (hl2:∀ x∈l,x.length≤1000000) :
  Gives Tryz.prog 35 #[.slice a0 ps.length c0,.slice a1 l.length c1] w (.int .i64 (ocode ps l [])):=by
 unfold Gives
 have H1:=hd_ (primeCheck_any w a0 c0 ps hp hi hl0)
 have Hv:Hid (ocode ps l []=if pcode ps=0 then (if 600 < l.length then 4 else mgo ps.length l) else pcode ps):=by show _=_; unfold ocode; rw [List.append_nil]
 have HC:Hid (pcode ps=0→∀ W a c x,Below w.heap.size w W→x∈l→Rd W a (ints x)→Gives Tryz.prog 17 #[.slice a0 ps.length c0,.slice a x.length c] W (.int .i64 (mrow ps.length x))):=fun h0 W a c x hW hx hr=>by
  have:=monCheck_any W a0 a c0 c ps x (hp.below hW nr_) hi hl0 hr (hl2 x hx)
  have e:mcode1 ps x=mrow ps.length x:=by
   unfold mcode1 mcode
   rw [if_pos h0,mgo,mgo]
   split
   ·rename_i h; exact h.symm
   ·rfl
  rw [e] at this
  exact this
 have Hr1:=hd_ r1
 clear hp hi r1 hl2
 generalize ocode ps l []=v at *
 generalize pcode ps=p at *
 generalize ps.length=n at *
 generalize hlm:l.length=m at *
 have Hm:=hd_ hlm
 clear hlm
 by_cases h0:p=0
 ·subst h0
  rw [if_pos rfl] at Hv
  replace HC:=hd_ (HC.out rfl)
  by_cases h6:600 < m
  ·have h6':(600:Int) < m:=by omega
   rw [if_pos h6] at Hv
   clear HC
   go_enter Tryz.func35,Tryz.ntmps35
   go_wp2_with fail
   refine cm_ H1.out ?_
   rintro e w1 ⟨rfl,hb⟩
   have B:=hd_ hb
   clear hb H1
   go_wp2
   go_ret
   exact ⟨by rw [Hv.out]; rfl,B.out⟩
  ·have h6':¬ (600:Int) < m:=by omega
   rw [if_neg h6] at Hv
   go_enter Tryz.func35,Tryz.ntmps35
   go_wp2_with fail
   refine cm_ H1.out ?_
   rintro e w1 ⟨rfl,hb⟩
   have B1:=hd_ hb
   clear hb H1
   go_wp2_with fail
   go_loopw [19] (fun i wr=>∃ k:Nat,k≤m∧i = .int .i64 k∧Hid (v=mgo n (l.drop k))∧Hid (Below w.heap.size w wr)) (fun i _=>m - (intOf i).toNat)
   case atStart=>exact ⟨0,Nat.zero_le _,rfl,Hv,B1⟩
   case round =>
    clear B1 Hv
    obtain ⟨k,hk,rfl,Hx,B⟩:=hrel
    by_cases hlt:k < m
    ·have hlt':(k:Int) < m:=by omega
     have hkl:k < l.length:=by rw [Hm.out]; exact hlt
     obtain ⟨gb,off,rfl,hgb,hcs⟩:=rdi_cells Hr1.out (by omega)
     obtain ⟨ax,cx,kx,rx⟩:=hcs k hkl
     have k1:=(B.out.cell (p:=⟨gb,off + k,none⟩) hgb).trans kx
     have R1:=hd_ (rx.below B.out nr_)
     have Hd:Hid (l.drop k=l[k] :: l.drop (k + 1)):=List.drop_eq_getElem_cons hkl
     have HCk:=hd_ (fun W a c hW=>HC.out W a c (l[k]'hkl) hW (List.getElem_mem hkl))
     clear hcs kx rx
     generalize l[k]=x at *
     generalize hmr:mrow n x=r at *
     have Hmr:=hd_ hmr
     clear hmr
     generalize x.length=q at *
     go_wp2_with fail
     refine cm_ (HCk.out _ _ _ B.out R1.out) ?_
     rintro e_ w2 ⟨rfl,hb_⟩
     have B2:=hd_ (B.out.trans (hb_.mono B.out.size))
     clear hb_ HCk R1 k1 B
     by_cases hr0:r=0
     ·have Hn:Hid (v=mgo n (l.drop (k + 1))):=by show _=_; rw [Hx.out,Hd.out,mgo,if_pos (Hmr.out.trans hr0)]
      subst hr0
      go_wp2_with fail
      go_roundw
      case rel=>exact ⟨k + 1,by omega,by go_num,Hn,B2⟩
      case measure=>simp [intOf]; omega
     ·have Hn:Hid (v=r):=by show _=_; rw [Hx.out,Hd.out,mgo,if_neg (fun h=>hr0 (Hmr.out.symm.trans h)),Hmr.out]
      have hr0':(r == 0)=false:=by rw [beq_eq_false_iff_ne]; exact hr0
      clear hr0
      go_wp2_with fail
      go_ret
      exact ⟨by rw [Hn.out]; rfl,B2.out⟩
    ·have hlt':¬ (k:Int) < m:=by omega
     have Hn:Hid (v=0):=by show _=_; rw [Hx.out,List.drop_of_length_le (by rw [Hm.out]; omega)]; rfl
     go_wp2_with fail
     go_ret
     exact ⟨by rw [Hn.out]; rfl,B.out⟩
 ·have hp0:(p == 0)=false:=by rw [beq_eq_false_iff_ne]; exact h0
  rw [if_neg h0] at Hv
  clear HC h0
  go_enter Tryz.func35,Tryz.ntmps35
  go_wp2_with fail
  refine cm_ H1.out ?_
  rintro e w1 ⟨rfl,hb⟩
  have B:=hd_ hb
  clear hb H1
  go_wp2
  go_ret
  exact ⟨by rw [Hv.out]; rfl,B.out⟩
end Go.Proofs.YtkoicfghplmghaaGreatDoor

namespace Go.Proofs.YtkoicfghplmghaaGreatDoor
open Go.RowKit
theorem rotate_gen (w:World) (B g n cap a m b:Nat) (v:Value) (hB:B≤g) (hn:n≤1000) (ham:a < m) (hmb:m < b) (hbn:b≤n) (F:Nat→Nat) (hrow:RowF w g n F) (hw:B≤w.heap.size) :
  Calls Tryz.prog 218 #[.slice (some ⟨g,0,none⟩) n cap,.int .i64 a,.int .i64 m,.int .i64 b,v] w fun e w'=>e = .returned (.tuple #[])∧RowF w' g n (rotF F a (m - a) (b - m))∧Below B w w':=by
 have Hrow:=hd_ hrow
 have HS:Hid (∀ (W:World) (x y k:Nat) (F:Nat→Nat),Below B w W→x + k≤y→y + k≤n→RowF W g n F→Calls Tryz.prog 237 #[.slice (some ⟨g,0,none⟩) n cap,.int .i64 x,.int .i64 y,.int .i64 k,v] W fun e w'=>e = .returned (.tuple #[])∧RowF w' g n (swR F x y k)∧Below B W w'):=fun W x y k F hW h1 h2 hr=>swapRange_gen W B g n cap x y k v hB hn h1 h2 F hr (Nat.le_trans hw hW.size)
 clear hrow
 have e1:IntKind.i64.wrap ((m:Int) - a)=((m - a:Nat):Int):=by rw [show (m:Int) - a=((m - a:Nat):Int) by omega]; exact iw_ _ (by omega)
 have e2:IntKind.i64.wrap ((b:Int) - m)=((b - m:Nat):Int):=by rw [show (b:Int) - m=((b - m:Nat):Int) by omega]; exact iw_ _ (by omega)
 go_enter Tryz.func218,Tryz.ntmps218
 go_wp2_with fail
 go_loopw [10,11] (fun z y wr=>∃ (i j:Nat) (G:Nat→Nat),0 < i∧0 < j∧i + a≤m∧m + j≤b∧z = .int .i64 i∧y = .int .i64 j∧Hid (rotF G (m - i) i j=rotF F a (m - a) (b - m))∧Hid (RowF wr g n G)∧Hid (Below B w wr)) (fun z y _=>(intOf z).toNat + (intOf y).toNat)
 case atStart=>exact ⟨m - a,b - m,F,by omega,by omega,by omega,by omega,rfl,rfl,by show _=_; rw [show m - (m - a)=a by omega],Hrow.out,Below.refl _ _⟩
 case round =>
  clear Hrow
  obtain ⟨i,j,G,hi,hj,him,hjb,rfl,rfl,HE,HR,HB⟩:=hrel
  have w1:IntKind.i64.wrap ((m:Int) - i)=((m - i:Nat):Int):=by rw [show (m:Int) - i=((m - i:Nat):Int) by omega]; exact iw_ _ (by omega)
  rcases Nat.lt_trichotomy i j with h | h | h
  ·have hne:((i:Int) == j)=false:=by rw [beq_eq_false_iff_ne]; omega
   have hle:¬ (j:Int) < i:=by omega
   have w4:IntKind.i64.wrap ((j:Int) - i)=((j - i:Nat):Int):=by rw [show (j:Int) - i=((j - i:Nat):Int) by omega]; exact iw_ _ (by omega)
   have Hs:=HS.out wr (m - i) (m + j - i) i G HB.out (by omega) (by omega) HR.out
   rw [show ((m + j - i:Nat):Int)=(m:Int) + j - i by omega] at Hs
   have Hs:=hd_ Hs
   have HE2:Hid (rotF (swR G (m - i) (m + j - i) i) (m - i) i (j - i)=rotF F a (m - a) (b - m)):=by
    show _=_
    rw [← HE.out,← rot_lt (lo:=m - i) h hi,show m - i + j=m + j - i by omega]
   go_wp2_with fail
   refine cm_ Hs.out ?_
   rintro e_ w2 ⟨rfl,hr_,hb_⟩
   have HR2:=hd_ hr_
   have HB2:=hd_ (HB.out.trans hb_)
   clear hr_ hb_ Hs HR HB HE
   go_wp2_with fail
   go_roundw
   case rel=>exact ⟨i,j - i,_,hi,by omega,him,by omega,rfl,by first | rfl | (rw [w4]),HE2,HR2,HB2⟩
   case measure=>simp [intOf]; omega
  ·subst h
   have Hs:=hd_ (HS.out wr (m - i) m i G HB.out (by omega) (by omega) HR.out)
   have HE2:Hid (swR G (m - i) m i=rotF F a (m - a) (b - m)):=by
    show _=_
    rw [← HE.out,← rot_eq]
    congr 1
    omega
   go_wp2_with fail
   refine cm_ Hs.out ?_
   rintro e_ w2 ⟨rfl,hr_,hb_⟩
   rw [HE2.out] at hr_
   have HR2:=hd_ hr_
   have HB2:=hd_ (HB.out.trans hb_)
   clear hr_ hb_ Hs HR HB HE
   go_wp2_with fail
   go_end0
   exact ⟨rfl,HR2.out,HB2.out⟩
  ·have hne:((i:Int) == j)=false:=by rw [beq_eq_false_iff_ne]; omega
   have hle:(j:Int) < i:=by omega
   have w4:IntKind.i64.wrap ((i:Int) - j)=((i - j:Nat):Int):=by rw [show (i:Int) - j=((i - j:Nat):Int) by omega]; exact iw_ _ (by omega)
   have Hs:=hd_ (HS.out wr (m - i) m j G HB.out (by omega) (by omega) HR.out)
   have HE2:Hid (rotF (swR G (m - i) m j) (m - (i - j)) (i - j) j=rotF F a (m - a) (b - m)):=by
    show _=_
    rw [← HE.out,← rot_gt (lo:=m - i) h hj,show m - i + i=m by omega,show m - i + j=m - (i - j) by omega]
   go_wp2_with fail
   refine cm_ Hs.out ?_
   rintro e_ w2 ⟨rfl,hr_,hb_⟩
   have HR2:=hd_ hr_
   have HB2:=hd_ (HB.out.trans hb_)
   clear hr_ hb_ Hs HR HB HE
   go_wp2_with fail
   go_roundw
   case rel=>exact ⟨i - j,j,_,by omega,hj,by omega,hjb,by first | rfl | (rw [w4]),rfl,HE2,HR2,HB2⟩
   case measure=>simp [intOf]; omega
end Go.Proofs.YtkoicfghplmghaaGreatDoor

namespace Go.Proofs.YtkoicfghplmghaaGreatDoor
open Go.RowKit
structure MrgB (r F:Nat→Nat) (n a m b:Nat):Prop where
 am:a < m
 mb:m < b
 s1:SoB (fun k=>r (F k)) a m
 s2:SoB (fun k=>r (F k)) m b
 lt:∀ i j,a≤i→i < m→m≤j→j < b→F i < F j
 bd:∀ k,a≤k→k < b→F k < n
structure MrgD (w w':World) (B g n a b:Nat) (r F:Nat→Nat):Prop where
 ex:∃ F',SoB (fun k=>r (F' k)) a b∧PmB F F' a b∧RowF w' g n F'
 bel:Below B w w'
theorem CmpR.yes {c:Nat→Nat→Int} {r:Nat→Nat} {n:Nat} (h:CmpR c r n) {x y:Nat} (hx:x < n) (hy:y < n) (hxy:x < y) (hc:c y x < 0):r y < r x:=(h.iff x y hx hy hxy).1 hc
theorem sob_le {G:Nat→Nat} {a b i j:Nat} (h:SoB G a b) (h1:a≤i) (h2:i≤j) (h3:j < b):G i≤G j:=by
 rcases Nat.lt_or_ge i j with h4 | h4
 ·exact Nat.le_of_lt (h i j h1 h4 h3)
 ·rw [show i=j by omega]; exact Nat.le_refl _
theorem sob_leF {r F:Nat→Nat} {a b i j:Nat} (h:SoB (fun k=>r (F k)) a b) (h1:a≤i) (h2:i≤j) (h3:j < b):r (F i)≤r (F j):=sob_le (G:=fun k=>r (F k)) h h1 h2 h3
theorem half_lt {i j:Nat} (h:i < j):i≤(i + j) / 2∧(i + j) / 2 < j:=by omega
theorem rot_sob {r F:Nat→Nat} {l i j a b:Nat} (h:SoB (rotF (fun k=>r (F k)) l i j) a b):SoB (fun k=>r (rotF F l i j k)) a b:=by
 rw [show (fun k=>r (rotF F l i j k))=rotF (fun k=>r (F k)) l i j from funext fun k=>rotF_comp r F l i j k]
 exact h
theorem swap_up {F:Nat→Nat} {a u:Nat} (h:a≤u):sw2 (rotF F a 1 (u - a)) u (u + 1)=rotF F a 1 (u + 1 - a):=by
 have:=rotF_up F a (u - a)
 rw [show a + (u - a)=u by omega,show u - a + 1=u + 1 - a by omega] at this
 exact this
theorem swap_dn {F:Nat→Nat} {p m:Nat} (h:p + 1≤m):sw2 (rotF F (p + 1) (m - (p + 1)) 1) (p + 1) p=rotF F p (m - p) 1:=by
 have:=rotF_dn F p (m - (p + 1))
 rw [show m - (p + 1) + 1=m - p by omega] at this
 exact this
theorem symL_gen (w:World) (B g n cap a m b:Nat) (f:FuncId) (lb:Array Value) (eg:∀ args w,(callFunc f args).run Tryz.prog w = .ok (.enter f args) w) (c:Nat→Nat→Int) (r:Nat→Nat) (hc:CmpR c r n) (hB:B≤g) (hn:n≤1000) (hbn:b≤n) (F:Nat→Nat) (hM:MrgB r F n a m b) (hma:Hid (m=a + 1)) (hrow:RowF w g n F)
  (hcmp:∀ W,Below B w W→∀ i j:Nat,i < n→j < n→Gives Tryz.prog f (#[.int .i64 i,.int .i64 j] ++ lb) W (.int .i64 (c i j))) :
  Calls Tryz.prog 183 #[.slice (some ⟨g,0,none⟩) n cap,.int .i64 a,.int .i64 m,.int .i64 b,.func (.func f) #[] lb] w fun e w'=>e = .returned (.tuple #[])∧MrgD w w' B g n a b r F:=by
 have Hc:=hd_ hc
 have Hcmp:=hd_ hcmp
 have Hrow:=hd_ hrow
 have HM:=hd_ hM
 have ham:=hM.am
 have hmb:=hM.mb
 have hm1:m≤a + 1:=by have:=hma.out; omega
 have e1:((m:Int) - a == 1)=true:=by rw [beq_iff_eq]; have:=hma.out; omega
 have HS1:Hid (SoB (fun k=>r (F k)) (a + 1) b):=by have:=hM.s2; rw [hma.out] at this; exact this
 clear hc hcmp hrow hM hma
 go_enter Tryz.func183,Tryz.ntmps183
 go_wp2_with fail
 go_loopw [10,11] (fun y z wr=>∃ i j:Nat,a + 1≤i∧i≤j∧j≤b∧y = .int .i64 i∧z = .int .i64 j∧Hid (∀ k,a + 1≤k→k < i→r (F k) < r (F a))∧Hid (∀ k,j≤k→k < b→r (F a) < r (F k))∧Hid (RowF wr g n F)∧Hid (Below B w wr)) (fun y z _=>(intOf z).toNat - (intOf y).toNat)
 case atStart=>exact ⟨m,b,by omega,by omega,Nat.le_refl _,rfl,rfl,fun k h1 h2=>by omega,fun k h1 h2=>by omega,Hrow.out,Below.refl _ _⟩
 case round =>
  clear Hrow
  obtain ⟨i,j,hi,hij,hj,rfl,rfl,HL,HG,HR,HB⟩:=hrel
  by_cases hlt:i < j
  ·have hlt':(i:Int) < j:=by omega
   obtain ⟨h1,h2⟩:=half_lt hlt
   have hh':((i:Int) + j) / 2=((i + j) / 2:Nat):=by omega
   generalize (i + j) / 2=h at *
   have Fa:=HM.out.bd a (by omega) (by omega)
   have Fh:=HM.out.bd h (by omega) (by omega)
   have Flt:=HM.out.lt a h (by omega) (by omega) (by omega) (by omega)
   have k1:=HR.out.cell (h) (by omega)
   have k0:=HR.out.cell (a) (by omega)
   have Hcall:=hd_ fun W hW=>Hcmp.out W hW (F (h)) (F (a)) (Fh) (Fa)
   have hcb:=Hc.out.bd (F (h)) (F (a))
   have q1:=BW.cell k1
   have q0:=BW.cell k0
   have hnon:Nonempty (BW wr):=⟨⟨wr,Below.refl _ _⟩⟩
   have I:Hid (Below wr.heap.size wr wr.drew):=(Below.refl _ _).drew
   have hBs:B≤wr.heap.size:=Nat.le_trans hB (Nat.le_of_lt HR.out.lt)
   go_wp2_with fail
   clear k0 k1
   refine RY.wp_region_readers 9 [(1,0),(1,1),(1,2),(1,3),(1,4),(1,5),(1,6),(1,7),(1,8),(0,9),(2,10)] (fun w'=>∃ p:BW wr,w'=p.w) (by kernel_rfl) (by kernel_rfl) ?_ ?_
   ·exact ⟨⟨_,I.out⟩,rfl⟩
   iterate 9 (refine RY.walkR_read ?_; simp only [dsc_,dz_,tsc_,tz_]; go_big_quiet_step (fail); refine wpQuiet_nil ?_)
   clear hnon q0 q1
   refine RY.walkR_move ?_
   simp only [dsc_,dz_,tsc_,tz_]
   go_wp2_with fail
   refine cm_ (Hcall.out _ (HB.out.trans (I.out.mono hBs))) ?_
   rintro e_ w2 ⟨rfl,hb_⟩
   have D:Hid (Below wr.heap.size wr w2):=I.out.trans (hb_.mono I.out.size)
   have HR2:=hd_ (HR.out.below D.out nr_)
   have HB2:=hd_ (HB.out.trans (D.out.mono hBs))
   clear hb_ I D Hcall HR HB
   by_cases hneg:c (F h) (F a) < 0
   ·have HL2:Hid (∀ k,a + 1≤k→k < h + 1→r (F k) < r (F a)):=fun k d1 d2=>Nat.lt_of_le_of_lt (sob_leF HS1.out d1 (Nat.lt_succ_iff.1 d2) (by omega)) (Hc.out.yes Fa Fh Flt hneg)
    clear HL Fa Fh Flt
    generalize F (h)=x at hneg hcb ⊢
    generalize F (a)=y at hneg hcb ⊢
    generalize c x y=z at hneg hcb ⊢
    go_wp2_with fail
    refine RY.walkR_any ?_
    simp only [dsc_,dz_,tsc_,tz_]
    go_big_quiet_step (fail)
    refine wpQuiet_nil ?_
    simp only [RY.walkR]
    go_wp2
    go_roundw
    case rel=>exact ⟨h + 1,j,by omega,by omega,hj,by go_num,rfl,HL2.out,HG.out,HR2.out,HB2.out⟩
    case measure=>simp [intOf]; omega
   ·have HG2:Hid (∀ k,h≤k→k < b→r (F a) < r (F k)):=fun k d1 d2=>Nat.lt_of_lt_of_le (Hc.out.no Fa Fh Flt hneg) (sob_leF HS1.out (by omega) d1 d2)
    clear HG Fa Fh Flt
    generalize F (h)=x at hneg hcb ⊢
    generalize F (a)=y at hneg hcb ⊢
    generalize c x y=z at hneg hcb ⊢
    go_wp2_with fail
    refine RY.walkR_any ?_
    simp only [dsc_,dz_,tsc_,tz_]
    go_big_quiet_step (fail)
    refine wpQuiet_nil ?_
    simp only [RY.walkR]
    go_wp2
    go_roundw
    case rel=>exact ⟨i,h,hi,h1,by omega,rfl,rfl,HL.out,HG2.out,HR2.out,HB2.out⟩
    case measure=>simp [intOf]; omega
  ·have hlt':¬ (i:Int) < j:=by omega
   obtain rfl:i=j:=by omega
   have HS:=hd_ (rot_sob (ins_up HS1.out hi hj HL.out HG.out))
   have HP:=hd_ (rotF_pm F (l:=a) (i:=1) (j:=i - 1 - a) (a:=a) (b:=b) nr_ (by omega))
   clear HL HG
   go_wp2_with fail
   go_loopw [13] (fun z wr=>∃ u:Nat,a≤u∧u + 1≤i∧z = .int .i64 u∧Hid (RowF wr g n (rotF F a 1 (u - a)))∧Hid (Below B w wr)) (fun z _=>i - (intOf z).toNat)
   case atStart=>exact ⟨a,Nat.le_refl _,hi,rfl,by rw [Nat.sub_self,rotF_z1]; exact HR.out,HB.out⟩
   case round =>
    clear HR HB
    obtain ⟨u,hu1,hu2,rfl,HR,HB⟩:=hrel
    by_cases hlt2:u + 1 < i
    ·have hlt2':(u:Int) < i - 1:=by omega
     have hrot:=swap_up (F:=F) hu1
     generalize rotF F a 1 (u - a)=G at *
     generalize hG2:rotF F a 1 (u + 1 - a)=G2 at *
     have HG2:Hid (rotF F a 1 (u + 1 - a)=G2):=hG2
     clear hG2
     have k1:=HR.out.cell (u) (by omega)
     have k0:=HR.out.cell (u + 1) (by omega)
     have f1:=HR.out.fr (u)
     have f0:=HR.out.fr (u + 1)
     have HR3:=hd_ (HR.out.sw2 (u) (u + 1) (by omega) (by omega) (by omega))
     rw [hrot] at HR3
     have HB3:=hd_ ((HB.out.setCell (p:=⟨g,u,none⟩) hB (.int .i64 (G (u + 1):Nat))).setCell (p:=⟨g,u + 1,none⟩) hB (.int .i64 (G (u):Nat)))
     have K1:=hd_ k1
     have K2:Hid ((wr.setCell ⟨g,u,none⟩ (.int .i64 (G (u + 1):Nat))).cell? ⟨g,u + 1,none⟩=some (.int .i64 (G (u + 1):Nat))):=by
      show _=_
      rw [World.cell?_setCell_other _ _ _ _ (fun e=>absurd (congrArg Addr.off e) (by show ¬ u=u + 1; omega))]
      exact k0
     clear hrot
     generalize G (u)=x at *
     generalize G (u + 1)=y at *
     have q1:=BW.cell k1
     have q0:=BW.cell k0
     have hnon:Nonempty (BW wr):=⟨⟨wr,Below.refl _ _⟩⟩
     have I:Hid (Below wr.heap.size wr wr.drew):=(Below.refl _ _).drew
     go_wp2_with fail
     clear k0 k1
     refine RY.wp_region_readers 15 [(2,0),(2,1),(2,2),(2,3),(2,4),(2,5),(2,6),(2,7),(2,8),(1,9),(2,10),(2,11),(2,12),(1,13),(2,14),(0,15),(2,16),(0,17)] (fun w'=>∃ p:BW wr,w'=p.w) (by kernel_rfl) (by kernel_rfl) ?_ ?_
     ·exact ⟨⟨_,I.out⟩,rfl⟩
     iterate 15 ((first | refine RY.walkR_any ?_ | refine RY.walkR_read ?_); simp only [dsc_,dz_,tsc_,tz_]; go_big_quiet_step (fail); refine wpQuiet_nil ?_)
     clear hnon q0 q1
     have k1:=K1.out
     have k2:=K2.out
     refine RY.walkR_move ?_
     simp only [dsc_,dz_,tsc_,tz_]
     go_wp2_with fail
     refine RY.walkR_any ?_
     simp only [dsc_,dz_,tsc_,tz_]
     go_big_quiet_step (fail)
     refine wpQuiet_nil ?_
     refine RY.walkR_move ?_
     simp only [dsc_,dz_,tsc_,tz_]
     go_wp2_with fail
     simp only [RY.walkR]
     go_wp2
     go_roundw
     case rel=>exact ⟨u + 1,by omega,by omega,by go_num,by rw [HG2.out]; exact HR3.out.below (Below.refl _ _).drew nr_,HB3.out.drew⟩
     case measure=>simp [intOf]; omega
    ·have hlt2':¬ (u:Int) < i - 1:=by omega
     have hu:u=i - 1:=by omega
     have HR4:Hid (RowF wr g n (rotF F a 1 (i - 1 - a))):=by rw [← hu]; exact HR.out
     clear hu
     go_wp2
     refine bodyPost_ret (results_none rfl _ _ _) rfl ?_
     exact ⟨rfl,⟨_,HS.out,HP.out,HR4.out⟩,HB.out⟩
theorem symR_gen (w:World) (B g n cap a m b:Nat) (f:FuncId) (lb:Array Value) (eg:∀ args w,(callFunc f args).run Tryz.prog w = .ok (.enter f args) w) (c:Nat→Nat→Int) (r:Nat→Nat) (hc:CmpR c r n) (hB:B≤g) (hn:n≤1000) (hbn:b≤n) (F:Nat→Nat) (hM:MrgB r F n a m b) (hne1:m≠a + 1) (hbm:Hid (b=m + 1)) (hrow:RowF w g n F)
  (hcmp:∀ W,Below B w W→∀ i j:Nat,i < n→j < n→Gives Tryz.prog f (#[.int .i64 i,.int .i64 j] ++ lb) W (.int .i64 (c i j))) :
  Calls Tryz.prog 183 #[.slice (some ⟨g,0,none⟩) n cap,.int .i64 a,.int .i64 m,.int .i64 b,.func (.func f) #[] lb] w fun e w'=>e = .returned (.tuple #[])∧MrgD w w' B g n a b r F:=by
 have Hc:=hd_ hc
 have Hcmp:=hd_ hcmp
 have Hrow:=hd_ hrow
 have HM:=hd_ hM
 have ham:=hM.am
 have hmb:=hM.mb
 have e1:((m:Int) - a == 1)=false:=by rw [beq_eq_false_iff_ne]; omega
 have hb1:b≤m + 1:=by have:=hbm.out; omega
 have e2:((b:Int) - m == 1)=true:=by rw [beq_iff_eq]; have:=hbm.out; omega
 clear hc hcmp hrow hM
 go_enter Tryz.func183,Tryz.ntmps183
 go_wp2_with fail
 go_loopw [14,15] (fun y z wr=>∃ i j:Nat,a≤i∧i≤j∧j≤m∧y = .int .i64 i∧z = .int .i64 j∧Hid (∀ k,a≤k→k < i→r (F k) < r (F m))∧Hid (∀ k,j≤k→k < m→r (F m) < r (F k))∧Hid (RowF wr g n F)∧Hid (Below B w wr)) (fun y z _=>(intOf z).toNat - (intOf y).toNat)
 case atStart=>exact ⟨a,m,Nat.le_refl _,by omega,Nat.le_refl _,rfl,rfl,fun k h1 h2=>by omega,fun k h1 h2=>by omega,Hrow.out,Below.refl _ _⟩
 case round =>
  clear Hrow
  obtain ⟨i,j,hi,hij,hj,rfl,rfl,HL,HG,HR,HB⟩:=hrel
  by_cases hlt:i < j
  ·have hlt':(i:Int) < j:=by omega
   obtain ⟨h1,h2⟩:=half_lt hlt
   have hh':((i:Int) + j) / 2=((i + j) / 2:Nat):=by omega
   generalize (i + j) / 2=h at *
   have Fm:=HM.out.bd m (by omega) (by omega)
   have Fh:=HM.out.bd h (by omega) (by omega)
   have Flt:=HM.out.lt h m (by omega) (by omega) (by omega) (by omega)
   have k1:=HR.out.cell (m) (by omega)
   have k0:=HR.out.cell (h) (by omega)
   have Hcall:=hd_ fun W hW=>Hcmp.out W hW (F (m)) (F (h)) (Fm) (Fh)
   have hcb:=Hc.out.bd (F (m)) (F (h))
   have q1:=BW.cell k1
   have q0:=BW.cell k0
   have hnon:Nonempty (BW wr):=⟨⟨wr,Below.refl _ _⟩⟩
   have I:Hid (Below wr.heap.size wr wr.drew):=(Below.refl _ _).drew
   have hBs:B≤wr.heap.size:=Nat.le_trans hB (Nat.le_of_lt HR.out.lt)
   go_wp2_with fail
   clear k0 k1
   refine RY.wp_region_readers 9 [(1,0),(1,1),(1,2),(1,3),(1,4),(1,5),(1,6),(1,7),(1,8),(0,9),(2,10),(0,11)] (fun w'=>∃ p:BW wr,w'=p.w) (by kernel_rfl) (by kernel_rfl) ?_ ?_
   ·exact ⟨⟨_,I.out⟩,rfl⟩
   iterate 9 (refine RY.walkR_read ?_; simp only [dsc_,dz_,tsc_,tz_]; go_big_quiet_step (fail); refine wpQuiet_nil ?_)
   clear hnon q0 q1
   refine RY.walkR_move ?_
   simp only [dsc_,dz_,tsc_,tz_]
   go_wp2_with fail
   refine cm_ (Hcall.out _ (HB.out.trans (I.out.mono hBs))) ?_
   rintro e_ w2 ⟨rfl,hb_⟩
   have D:Hid (Below wr.heap.size wr w2):=I.out.trans (hb_.mono I.out.size)
   have HR2:=hd_ (HR.out.below D.out nr_)
   have HB2:=hd_ (HB.out.trans (D.out.mono hBs))
   clear hb_ I D Hcall HR HB
   by_cases hneg:c (F m) (F h) < 0
   ·have HG2:Hid (∀ k,h≤k→k < m→r (F m) < r (F k)):=fun k d1 d2=>Nat.lt_of_lt_of_le (Hc.out.yes Fh Fm Flt hneg) (sob_leF HM.out.s1 (by omega) d1 d2)
    clear HG Fm Fh Flt
    generalize F (m)=x at hneg hcb ⊢
    generalize F (h)=y at hneg hcb ⊢
    generalize c x y=z at hneg hcb ⊢
    go_wp2_with fail
    refine RY.walkR_any ?_
    simp only [dsc_,dz_,tsc_,tz_]
    go_big_quiet_step (fail)
    refine wpQuiet_nil ?_
    refine RY.walkR_move ?_
    simp only [dsc_,dz_,tsc_,tz_]
    go_wp2_with fail
    simp only [RY.walkR]
    go_wp2
    go_roundw
    case rel=>exact ⟨i,h,hi,h1,by omega,rfl,rfl,HL.out,HG2.out,HR2.out,HB2.out⟩
    case measure=>simp [intOf]; omega
   ·have HL2:Hid (∀ k,a≤k→k < h + 1→r (F k) < r (F m)):=fun k d1 d2=>Nat.lt_of_le_of_lt (sob_leF HM.out.s1 d1 (Nat.lt_succ_iff.1 d2) (by omega)) (Hc.out.no Fh Fm Flt hneg)
    clear HL Fm Fh Flt
    generalize F (m)=x at hneg hcb ⊢
    generalize F (h)=y at hneg hcb ⊢
    generalize c x y=z at hneg hcb ⊢
    go_wp2_with fail
    refine RY.walkR_any ?_
    simp only [dsc_,dz_,tsc_,tz_]
    go_big_quiet_step (fail)
    refine wpQuiet_nil ?_
    refine RY.walkR_move ?_
    simp only [dsc_,dz_,tsc_,tz_]
    go_wp2_with fail
    simp only [RY.walkR]
    go_wp2
    any_goals (exfalso; rename_i hh; rw [decide_eq_false (show ¬ z < 0 by omega)] at hh; cases hh; done)
    go_roundw
    case rel=>exact ⟨h + 1,j,by omega,by omega,hj,by go_num,rfl,HL2.out,HG.out,HR2.out,HB2.out⟩
    case measure=>simp [intOf]; omega
  ·have hlt':¬ (i:Int) < j:=by omega
   obtain rfl:i=j:=by omega
   have HS:Hid (SoB (fun k=>r (rotF F i (m - i) 1 k)) a b):=by have:=rot_sob (ins_dn HM.out.s1 hi hj HL.out HG.out); rw [hbm.out]; exact this
   have HP:=hd_ (rotF_pm F (l:=i) (i:=m - i) (j:=1) (a:=a) (b:=b) hi (by omega))
   clear HL HG
   go_wp2_with fail
   go_loopw [17] (fun z wr=>∃ u:Nat,i≤u∧u≤m∧z = .int .i64 u∧Hid (RowF wr g n (rotF F u (m - u) 1))∧Hid (Below B w wr)) (fun z _=>(intOf z).toNat)
   case atStart=>exact ⟨m,hj,Nat.le_refl _,rfl,by rw [Nat.sub_self,rotF_z2]; exact HR.out,HB.out⟩
   case round =>
    clear HR HB
    obtain ⟨u,hu1,hu2,rfl,HR,HB⟩:=hrel
    by_cases hlt2:i < u
    ·obtain ⟨p,rfl⟩:∃ p,u=p + 1:=⟨u - 1,by omega⟩
     have hlt2':(i:Int) < ((p + 1:Nat):Int):=by omega
     have hlt2'':(i:Int) < (p:Int) + 1:=by omega
     have hrot:=swap_dn (F:=F) hu2
     generalize rotF F (p + 1) (m - (p + 1)) 1=G at *
     generalize hG2:rotF F p (m - p) 1=G2 at *
     have HG2:Hid (rotF F p (m - p) 1=G2):=hG2
     clear hG2
     have k1:=HR.out.cell (p + 1) (by omega)
     have k0:=HR.out.cell (p) (by omega)
     have f1:=HR.out.fr (p + 1)
     have f0:=HR.out.fr (p)
     have HR3:=hd_ (HR.out.sw2 (p + 1) (p) (by omega) (by omega) (by omega))
     rw [hrot] at HR3
     have HB3:=hd_ ((HB.out.setCell (p:=⟨g,p + 1,none⟩) hB (.int .i64 (G (p):Nat))).setCell (p:=⟨g,p,none⟩) hB (.int .i64 (G (p + 1):Nat)))
     have K1:=hd_ k1
     have K2:Hid ((wr.setCell ⟨g,p + 1,none⟩ (.int .i64 (G (p):Nat))).cell? ⟨g,p,none⟩=some (.int .i64 (G (p):Nat))):=by
      show _=_
      rw [World.cell?_setCell_other _ _ _ _ (fun e=>absurd (congrArg Addr.off e) (by show ¬ p + 1=p; omega))]
      exact k0
     clear hrot
     generalize G (p + 1)=x at *
     generalize G (p)=y at *
     have q1:=BW.cell k1
     have q0:=BW.cell k0
     have hnon:Nonempty (BW wr):=⟨⟨wr,Below.refl _ _⟩⟩
     have I:Hid (Below wr.heap.size wr wr.drew):=(Below.refl _ _).drew
     go_wp2_with fail
     clear k0 k1
     refine RY.wp_region_readers 15 [(2,0),(2,1),(2,2),(2,3),(2,4),(2,5),(2,6),(2,7),(2,8),(1,9),(2,10),(2,11),(2,12),(1,13),(2,14),(0,15),(2,16),(0,17)] (fun w'=>∃ p:BW wr,w'=p.w) (by kernel_rfl) (by kernel_rfl) ?_ ?_
     ·exact ⟨⟨_,I.out⟩,rfl⟩
     iterate 15 ((first | refine RY.walkR_any ?_ | refine RY.walkR_read ?_); simp only [dsc_,dz_,tsc_,tz_]; go_big_quiet_step (fail); refine wpQuiet_nil ?_)
     clear hnon q0 q1
     have k1:=K1.out
     have k2:=K2.out
     refine RY.walkR_move ?_
     simp only [dsc_,dz_,tsc_,tz_]
     go_wp2_with fail
     refine RY.walkR_any ?_
     simp only [dsc_,dz_,tsc_,tz_]
     go_big_quiet_step (fail)
     refine wpQuiet_nil ?_
     refine RY.walkR_move ?_
     simp only [dsc_,dz_,tsc_,tz_]
     go_wp2_with fail
     simp only [RY.walkR]
     go_wp2
     go_roundw
     case rel=>exact ⟨p,by omega,by omega,by go_num,by rw [HG2.out]; exact HR3.out.below (Below.refl _ _).drew nr_,HB3.out.drew⟩
     case measure=>simp [intOf]
    ·have hlt2':¬ (i:Int) < u:=by omega
     obtain rfl:u=i:=by omega
     go_wp2
     refine bodyPost_ret (results_none rfl _ _ _) rfl ?_
     exact ⟨rfl,⟨_,HS.out,HP.out,HR.out⟩,HB.out⟩
end Go.Proofs.YtkoicfghplmghaaGreatDoor

namespace Go.Proofs.YtkoicfghplmghaaGreatDoor
open Go.RowKit
structure RotD (r F F2:Nat→Nat) (n a m b s e mid:Nat):Prop where
 s1:SoB (fun k=>r (F2 k)) a s
 s2:SoB (fun k=>r (F2 k)) s mid
 s3:SoB (fun k=>r (F2 k)) mid e
 s4:SoB (fun k=>r (F2 k)) e b
 x:∀ i j,a≤i→i < mid→mid≤j→j < b→r (F2 i) < r (F2 j)
 l1:∀ i j,a≤i→i < s→s≤j→j < mid→F2 i < F2 j
 l2:∀ i j,mid≤i→i < e→e≤j→j < b→F2 i < F2 j
 pm:PmB F F2 a b
 bd:∀ k,a≤k→k < b→F2 k < n
 q1:a≤s
 q2:s≤mid
 q3:mid≤e
 q4:e≤b
theorem PmB.bd {F F':Nat→Nat} {a b n:Nat} (p:PmB F F' a b) (h:∀ k,a≤k→k < b→F k < n):∀ k,a≤k→k < b→F' k < n:=fun k h1 h2=>by
 obtain ⟨m,m1,m2,e⟩:=p.src k h1 h2
 rw [e]; exact h m m1 m2
theorem RotD.of {r F:Nat→Nat} {n a m b s e mid:Nat} (M:MrgB r F n a m b) (q1:a≤s) (q2:s≤m) (q3:m≤e) (q4:e≤b) (hmid:mid + m=s + e)
  (x1:∀ i j,a≤i→i < s→e≤j→j < b→r (F i) < r (F j)) (x2:∀ i j,m≤i→i < e→s≤j→j < m→r (F i) < r (F j)):RotD r F (rotF F s (m - s) (e - m)) n a m b s e mid:=by
 obtain ⟨p1,p2,p3,p4,p5⟩:=rot_parts (G:=fun k=>r (F k)) M.s1 M.s2 q1 q2 q3 q4 hmid x1 x2
 have v1:∀ z,z < s→rotF F s (m - s) (e - m) z=F z:=fun z hz=>by unfold rotF; rw [if_pos hz]
 have v2:∀ z,s≤z→z < mid→rotF F s (m - s) (e - m) z=F (z + (m - s)):=fun z hz hz2=>by unfold rotF; rw [if_neg (by omega),if_pos (by omega)]
 have v3:∀ z,mid≤z→z < e→rotF F s (m - s) (e - m) z=F (z - (e - m)):=fun z hz hz2=>by unfold rotF; rw [if_neg (by omega),if_neg (by omega),if_pos (by omega)]
 have v4:∀ z,e≤z→rotF F s (m - s) (e - m) z=F z:=fun z hz=>by unfold rotF; rw [if_neg (by omega),if_neg (by omega),if_neg (by omega)]
 have pm:PmB F (rotF F s (m - s) (e - m)) a b:=rotF_pm F q1 (by omega)
 refine ⟨rot_sob p1,rot_sob p2,rot_sob p3,rot_sob p4,fun i j c1 c2 c3 c4=>?_,fun i j c1 c2 c3 c4=>?_,fun i j c1 c2 c3 c4=>?_,pm,pm.bd M.bd,q1,by omega,by omega,q4⟩
 ·rw [rotF_comp r,rotF_comp r]; exact p5 i j c1 c2 c3 c4
 ·rw [v1 i c2,v2 j c3 c4]; exact M.lt _ _ (by omega) (by omega) (by omega) (by omega)
 ·rw [v3 i c1 c2,v4 j c3]; exact M.lt _ _ (by omega) (by omega) (by omega) (by omega)
theorem RotD.sub1 {r F F2:Nat→Nat} {n a m b s e mid:Nat} (D:RotD r F F2 n a m b s e mid) (h1:a < s) (h2:s < mid):MrgB r F2 n a s mid :=
 ⟨h1,h2,D.s1,D.s2,D.l1,fun k k1 k2=>D.bd k k1 (by have:=D.q3; have:=D.q4; omega)⟩
theorem RotD.sub2 {r F F2 F3:Nat→Nat} {n a m b s e mid:Nat} (D:RotD r F F2 n a m b s e mid) (p:PmB F2 F3 a mid) (h1:mid < e) (h2:e < b):MrgB r F3 n mid e b:=by
 have o:∀ k,mid≤k→F3 k=F2 k:=fun k hk=>p.out k (.inr hk)
 refine ⟨h1,h2,fun i j c1 c2 c3=>?_,fun i j c1 c2 c3=>?_,fun i j c1 c2 c3 c4=>?_,fun k k1 k2=>?_⟩
 ·show r (F3 i) < r (F3 j)
  rw [o i c1,o j (by omega)]; exact D.s3 i j c1 c2 c3
 ·show r (F3 i) < r (F3 j)
  rw [o i (by omega),o j (by omega)]; exact D.s4 i j c1 c2 c3
 ·rw [o i c1,o j (by omega)]; exact D.l2 i j c1 c2 c3 c4
 ·rw [o k k1]; exact D.bd k (by have:=D.q1; have:=D.q2; omega) k2
theorem RotD.none1 {r F F2:Nat→Nat} {n a m b s e mid:Nat} (D:RotD r F F2 n a m b s e mid) (h:¬ (a < s∧s < mid)):SoB (fun k=>r (F2 k)) a mid:=by
 have h1:=D.q1
 have h2:=D.q2
 by_cases hs:a=s
 ·rw [hs]; exact D.s2
 ·have e:s=mid:=by omega
  rw [← e]; exact D.s1
theorem RotD.none2 {r F F2 F3:Nat→Nat} {n a m b s e mid:Nat} (D:RotD r F F2 n a m b s e mid) (p:PmB F2 F3 a mid) (h:¬ (mid < e∧e < b)):SoB (fun k=>r (F3 k)) mid b:=by
 have h1:=D.q3
 have h2:=D.q4
 have o:∀ k,mid≤k→F3 k=F2 k:=fun k hk=>p.out k (.inr hk)
 have h3:SoB (fun k=>r (F2 k)) mid b:=by
  by_cases hs:mid=e
  ·rw [hs]; exact D.s4
  ·have e':e=b:=by omega
   rw [← e']; exact D.s3
 intro i j c1 c2 c3
 show r (F3 i) < r (F3 j)
 rw [o i c1,o j (by omega)]; exact h3 i j c1 c2 c3
theorem RotD.fin {r F F2 F3 F4:Nat→Nat} {n a m b s e mid:Nat} (D:RotD r F F2 n a m b s e mid) (p3:PmB F2 F3 a mid) (s3:SoB (fun k=>r (F3 k)) a mid) (p4:PmB F3 F4 mid b) (s4:SoB (fun k=>r (F4 k)) mid b) :
  SoB (fun k=>r (F4 k)) a b∧PmB F F4 a b:=by
 have h1:=D.q1
 have h2:=D.q2
 have h3:=D.q3
 have h4:=D.q4
 refine ⟨SoB.join (G:=fun k=>r (F4 k)) (SoB.out s3 p4 (.inl nr_)) s4 (join_parts2 (join_parts D.x p3) p4),(D.pm.trans (p3.wide nr_ (by omega))).trans (p4.wide (by omega) nr_)⟩
def gB (x y z:Nat):Bool:=decide (x < y) && decide (y < z)
theorem gB_yes {x y z:Nat} (h:gB x y z=true):x < y∧y < z:=by
 unfold gB at h
 simpa using h
theorem gB_no {x y z:Nat} (h:gB x y z=false):¬ (x < y∧y < z):=by
 unfold gB at h
 simpa using h
theorem gB_1 {x y z:Nat} (h:¬ x < y):gB x y z=false:=by unfold gB; rw [decide_eq_false h,Bool.false_and]
theorem gB_2 {x y z:Nat} (h1:x < y) (h2:¬ y < z):gB x y z=false:=by unfold gB; rw [decide_eq_true h1,decide_eq_false h2]; rfl
theorem gB_3 {x y z:Nat} (h1:x < y) (h2:y < z):gB x y z=true:=by unfold gB; rw [decide_eq_true h1,decide_eq_true h2]; rfl
def loM (a m b mid:Nat):Nat:=if mid < m then mid + m - b else a
def hiM (m mid:Nat):Nat:=if mid < m then mid else m
theorem symM_gen (w:World) (B g n cap a m b:Nat) (f:FuncId) (lb:Array Value) (eg:∀ args w,(callFunc f args).run Tryz.prog w = .ok (.enter f args) w) (c:Nat→Nat→Int) (r:Nat→Nat) (hc:CmpR c r n) (hB:B≤g) (hn:n≤1000) (hbn:b≤n) (F:Nat→Nat) (hM:MrgB r F n a m b) (hne1:m≠a + 1) (hne2:b≠m + 1)
  (ih:∀ (W:World) (a1 m1 b1:Nat) (F1:Nat→Nat),a≤a1→b1≤b→b1 - a1 < b - a→MrgB r F1 n a1 m1 b1→RowF W g n F1→Below B w W→Calls Tryz.prog 183 #[.slice (some ⟨g,0,none⟩) n cap,.int .i64 a1,.int .i64 m1,.int .i64 b1,.func (.func f) #[] lb] W fun e w'=>e = .returned (.tuple #[])∧MrgD W w' B g n a1 b1 r F1) (hrow:RowF w g n F)
  (hcmp:∀ W,Below B w W→∀ i j:Nat,i < n→j < n→Gives Tryz.prog f (#[.int .i64 i,.int .i64 j] ++ lb) W (.int .i64 (c i j))) :
  Calls Tryz.prog 183 #[.slice (some ⟨g,0,none⟩) n cap,.int .i64 a,.int .i64 m,.int .i64 b,.func (.func f) #[] lb] w fun e w'=>e = .returned (.tuple #[])∧MrgD w w' B g n a b r F:=by
 have Hc:=hd_ hc
 have Hcmp:=hd_ hcmp
 have Hrow:=hd_ hrow
 have HM:=hd_ hM
 have ham:=hM.am
 have hmb:=hM.mb
 have e1:((m:Int) - a == 1)=false:=by rw [beq_eq_false_iff_ne]; omega
 have e2:((b:Int) - m == 1)=false:=by rw [beq_eq_false_iff_ne]; omega
 have HI:=hd_ ih
 have hs0:B≤w.heap.size:=Nat.le_trans hB (Nat.le_of_lt hrow.lt)
 have HS0:=hd_ hs0
 clear hc hcmp hrow hM ih hs0
 have hmid:((a:Int) + b) / 2=((a + b) / 2:Nat):=by omega
 have hm2:2 * ((a + b) / 2)≤a + b∧a + b≤2 * ((a + b) / 2) + 1:=by omega
 generalize (a + b) / 2=mid at *
 obtain ⟨n2,hn2⟩:∃ n2,mid + m=n2:=⟨_,rfl⟩
 obtain ⟨p,hp⟩:∃ p,mid + m - 1=p:=⟨_,rfl⟩
 have hn2':(mid:Int) + m=(n2:Int):=by omega
 have hp2:(n2:Int) - 1=(p:Int):=by omega
 have hcut1:loM a m b mid≤hiM m mid∧hiM m mid≤m∧a≤loM a m b mid∧hiM m mid≤mid∧mid + m≤loM a m b mid + b:=by unfold loM hiM; split <;> omega
 have hlo2:mid < m→(((n2:Int) - b=(loM a m b mid:Nat))∧hiM m mid=mid):=fun h=>by unfold loM hiM; rw [if_pos h,if_pos h]; omega
 have hlo3:¬ mid < m→loM a m b mid=a∧hiM m mid=m:=fun h=>by unfold loM hiM; rw [if_neg h,if_neg h]; exact ⟨rfl,rfl⟩
 have Hlo:Hid (loM a m b mid=if mid < m then mid + m - b else a):=rfl
 have Hhi:Hid (hiM m mid=if mid < m then mid else m):=rfl
 generalize loM a m b mid=lo at *
 generalize hiM m mid=hi at *
 have Hp3:Hid (∀ x,x < hi→lo≤x→∃ X:Nat,m≤X∧X < b∧(p:Int) - x=X∧mid + m - 1 - x=X):=fun x h1 h2=>⟨mid + m - 1 - x,by omega,by omega,by omega,rfl⟩
 have Hcr:Hid (∀ s,CutAt (fun k=>r (F k)) lo hi (mid + m - 1) s→∃ e:Nat,(n2:Int) - s=e∧e≤2000∧RotD r F (rotF F s (m - s) (e - m)) n a m b s e mid∧s≤m∧m≤e):=fun s C=>by
  obtain ⟨q1,q2,q3,q4,q5,x1,x2⟩:=CutAt.cross HM.out.s1 HM.out.s2 hm2 Hlo.out Hhi.out C
  exact ⟨mid + m - s,by omega,by omega,RotD.of HM.out q1 q2 q3 q4 (by omega) x1 x2,q2,q3⟩
 have Hup:Hid (∀ c,lo≤c→c < hi→r (F c) < r (F (mid + m - 1 - c))→∀ d,lo≤d→d < c + 1→r (F d) < r (F (mid + m - 1 - d))):=fun c h1 h2 h3=>cut_up (G:=fun k=>r (F k)) HM.out.s1 HM.out.s2 ham hmb hm2 Hlo.out Hhi.out c h1 h2 h3
 have Hdn:Hid (∀ c,lo≤c→c < hi→r (F (mid + m - 1 - c)) < r (F c)→∀ d,c≤d→d < hi→r (F (mid + m - 1 - d)) < r (F d)):=fun c h1 h2 h3=>cut_dn (G:=fun k=>r (F k)) HM.out.s1 HM.out.s2 ham hmb hm2 Hlo.out Hhi.out c h1 h2 h3
 have Hlo2:=hd_ hlo2
 have Hlo3:=hd_ hlo3
 have hpq:p≤2000:=by omega
 have hnq:n2≤2001:=by omega
 have hmq:mid≤1000:=by omega
 have hp0:1≤n2:=by omega
 clear hlo2 hlo3 hm2 Hlo Hhi hn2 hp
 go_enter Tryz.func183,Tryz.ntmps183
 go_upto_if 140 with fail
 go_cut [20,21] from 138 (fun y z wx=>y = .int .i64 lo∧z = .int .i64 hi∧w=wx)
 case first =>
  by_cases hc:mid < m
  ·obtain ⟨k1,k2⟩:=Hlo2.out hc
   have K2:=hd_ k2
   clear k2
   have hc':(mid:Int) < m:=by omega
   go_wp2_with fail
   go_meet
   exact ⟨rfl,by rw [K2.out],rfl⟩
  ·obtain ⟨k1,k2⟩:=Hlo3.out hc
   have K1:=hd_ k1
   have K2:=hd_ k2
   clear k1 k2
   have hc':¬ (mid:Int) < m:=by omega
   go_wp2_with fail
   go_meet
   exact ⟨by rw [K1.out],by rw [K2.out],rfl⟩
 case rest =>
  obtain ⟨rfl,rfl,rfl⟩:=hcut
  go_wp2_with fail
  go_loopw [20,21] (fun y z wr=>∃ i j:Nat,lo≤i∧i≤j∧j≤hi∧y = .int .i64 i∧z = .int .i64 j∧Hid (∀ d,lo≤d→d < i→r (F d) < r (F (mid + m - 1 - d)))∧Hid (∀ d,j≤d→d < hi→r (F (mid + m - 1 - d)) < r (F d))∧Hid (RowF wr g n F)∧Hid (Below B w wr)) (fun y z _=>(intOf z).toNat - (intOf y).toNat)
  case atStart=>exact ⟨lo,hi,Nat.le_refl _,hcut1.1,Nat.le_refl _,rfl,rfl,fun k h1 h2=>by omega,fun k h1 h2=>by omega,Hrow.out,Below.refl _ _⟩
  case round =>
   clear Hrow
   obtain ⟨i,j,hi1,hij,hj,rfl,rfl,HL,HG,HR,HB⟩:=hrel
   by_cases hlt:i < j
   ·have hlt':(i:Int) < j:=by omega
    obtain ⟨h1,h2⟩:=half_lt hlt
    have hh':((i:Int) + j) / 2=((i + j) / 2:Nat):=by omega
    generalize (i + j) / 2=h at *
    obtain ⟨X,x1,x2,hX,hXe⟩:=Hp3.out h (by omega) (by omega)
    have hu_:=Hup.out h (by omega) (by omega)
    have hdx_:=Hdn.out h (by omega) (by omega)
    rw [hXe] at hu_ hdx_
    have Hu:=hd_ hu_
    have Hd:=hd_ hdx_
    clear hu_ hdx_ hXe
    have Fh:=HM.out.bd h (by omega) (by omega)
    have Fx:=HM.out.bd X (by omega) (by omega)
    have Flt:=HM.out.lt h X (by omega) (by omega) (by omega) (by omega)
    have k1:=HR.out.cell (X) (by omega)
    have k0:=HR.out.cell (h) (by omega)
    have Hcall:=hd_ fun W hW=>Hcmp.out W hW (F (X)) (F (h)) (Fx) (Fh)
    have hcb:=Hc.out.bd (F (X)) (F (h))
    have q1:=BW.cell k1
    have q0:=BW.cell k0
    have hnon:Nonempty (BW wr):=⟨⟨wr,Below.refl _ _⟩⟩
    have I:Hid (Below wr.heap.size wr wr.drew):=(Below.refl _ _).drew
    have hBs:B≤wr.heap.size:=Nat.le_trans hB (Nat.le_of_lt HR.out.lt)
    go_wp2_with fail
    clear k0 k1
    refine RY.wp_region_readers 11 [(1,0),(1,1),(1,2),(1,3),(1,4),(1,5),(1,6),(1,7),(1,8),(1,9),(1,10),(0,11),(2,12),(0,13)] (fun w'=>∃ p:BW wr,w'=p.w) (by kernel_rfl) (by kernel_rfl) ?_ ?_
    ·exact ⟨⟨_,I.out⟩,rfl⟩
    iterate 11 (refine RY.walkR_read ?_; simp only [dsc_,dz_,tsc_,tz_]; go_big_quiet_step (fail); refine wpQuiet_nil ?_)
    clear hnon q0 q1
    refine RY.walkR_move ?_
    simp only [dsc_,dz_,tsc_,tz_]
    go_wp2_with fail
    refine cm_ (Hcall.out _ (HB.out.trans (I.out.mono hBs))) ?_
    rintro e_ w2 ⟨rfl,hb_⟩
    have D:Hid (Below wr.heap.size wr w2):=I.out.trans (hb_.mono I.out.size)
    have HR2:=hd_ (HR.out.below D.out nr_)
    have HB2:=hd_ (HB.out.trans (D.out.mono hBs))
    clear hb_ I D Hcall HR HB
    by_cases hneg:c (F X) (F h) < 0
    ·have HG2:=hd_ (Hd.out (Hc.out.yes Fh Fx Flt hneg))
     clear HG Fx Fh Flt Hu Hd
     generalize F (X)=x at hneg hcb ⊢
     generalize F (h)=y at hneg hcb ⊢
     generalize c x y=z at hneg hcb ⊢
     go_wp2_with fail
     refine RY.walkR_any ?_
     simp only [dsc_,dz_,tsc_,tz_]
     go_big_quiet_step (fail)
     refine wpQuiet_nil ?_
     refine RY.walkR_move ?_
     simp only [dsc_,dz_,tsc_,tz_]
     go_wp2_with fail
     simp only [RY.walkR]
     go_wp2
     go_roundw
     case rel=>exact ⟨i,h,hi1,h1,by omega,rfl,rfl,HL.out,HG2.out,HR2.out,HB2.out⟩
     case measure=>simp [intOf]; omega
    ·have HL2:=hd_ (Hu.out (Hc.out.no Fh Fx Flt hneg))
     clear HL Fx Fh Flt Hu Hd
     generalize F (X)=x at hneg hcb ⊢
     generalize F (h)=y at hneg hcb ⊢
     generalize c x y=z at hneg hcb ⊢
     go_wp2_with fail
     refine RY.walkR_any ?_
     simp only [dsc_,dz_,tsc_,tz_]
     go_big_quiet_step (fail)
     refine wpQuiet_nil ?_
     refine RY.walkR_move ?_
     simp only [dsc_,dz_,tsc_,tz_]
     go_wp2_with fail
     simp only [RY.walkR]
     go_wp2
     any_goals (exfalso; rename_i hh; rw [decide_eq_false (show ¬ z < 0 by omega)] at hh; cases hh; done)
     go_roundw
     case rel=>exact ⟨h + 1,j,by omega,by omega,hj,by go_num,rfl,HL2.out,HG.out,HR2.out,HB2.out⟩
     case measure=>simp [intOf]; omega
   ·have hlt':¬ (i:Int) < j:=by omega
    obtain rfl:i=j:=by omega
    obtain ⟨e,hE,hse,dd,hsm,hme⟩:=Hcr.out i ⟨hi1,hj,HL.out,HG.out⟩
    have D:=hd_ dd
    clear HL HG dd Hup Hdn Hcr Hp3
    go_upto_region 39 with fail
    go_cut [185] from 178 (fun y wx=>y = .bool (gB i m e)∧wr=wx)
    case first =>
     by_cases y1:i < m
     ·have y1':(i:Int) < m:=by omega
      by_cases y2:m < e
      ·have y2':(m:Int) < e:=by omega
       have G:=hd_ (gB_3 y1 y2)
       go_wp2_with fail
       go_meet
       exact ⟨by rw [G.out],rfl⟩
      ·have y2':decide ((m:Int) < e)=false:=decide_eq_false (by omega)
       have G:=hd_ (gB_2 y1 y2)
       go_wp2_with fail
       go_meet
       exact ⟨by rw [G.out],rfl⟩
     ·have y1':decide ((i:Int) < m)=false:=decide_eq_false (by omega)
      have G:=hd_ (gB_1 (z:=e) y1)
      go_wp2_with fail
      go_meet
      exact ⟨by rw [G.out],rfl⟩
    case rest =>
     obtain ⟨rfl,rfl⟩:=hcut
     have hen:=D.out.q4
     have hB1:B≤wr.heap.size:=Nat.le_trans hB (Nat.le_of_lt HR.out.lt)
     go_upto_if 185 with fail
     go_cut [24] from 178 (fun y wx=>y = .int .i64 e∧Hid (RowF wx g n (rotF F i (m - i) (e - m)))∧Hid (Below B w wx))
     case first =>
      cases hg:gB i m e
      ·have hno:=gB_no hg
       have HF:Hid (rotF F i (m - i) (e - m)=F):=by
        show _=_
        by_cases h1:i=m
        ·rw [h1,Nat.sub_self]; exact rotF_z2 F m (e - m)
        ·rw [show e=m by omega,Nat.sub_self]; exact rotF_z1 F i (m - i)
       clear hg hno
       go_wp2_with fail
       go_meet
       exact ⟨rfl,by rw [HF.out]; exact HR.out,HB.out⟩
      ·obtain ⟨y1,y2⟩:=gB_yes hg
       have Hrot:=hd_ (rotate_gen wr B g n cap i m e (.func (.func f) #[] lb) hB hn y1 y2 (by omega) F HR.out hB1)
       clear hg y1 y2
       go_wp2_with fail
       refine cm_ Hrot.out ?_
       rintro e_ w2 ⟨rfl,hr_,hb_⟩
       have HR2:=hd_ hr_
       have HB2:=hd_ (HB.out.trans hb_)
       clear hr_ hb_ Hrot HR HB
       go_wp2_with fail
       go_meet
       exact ⟨rfl,HR2.out,HB2.out⟩
     case rest =>
      obtain ⟨rfl,HR2,HB2⟩:=hcut
      clear HR HB
      generalize rotF F i (m - i) (e - m)=F2 at *
      go_upto_region 41 with fail
      go_cut [199] from 192 (fun y wx=>y = .bool (gB a i mid)∧wc=wx)
      case first =>
       by_cases y1:a < i
       ·have y1':(a:Int) < i:=by omega
        by_cases y2:i < mid
        ·have y2':(i:Int) < mid:=by omega
         have G:=hd_ (gB_3 y1 y2)
         go_wp2_with fail
         go_meet
         exact ⟨by rw [G.out],rfl⟩
        ·have y2':decide ((i:Int) < mid)=false:=decide_eq_false (by omega)
         have G:=hd_ (gB_2 y1 y2)
         go_wp2_with fail
         go_meet
         exact ⟨by rw [G.out],rfl⟩
       ·have y1':decide ((a:Int) < i)=false:=decide_eq_false (by omega)
        have G:=hd_ (gB_1 (z:=mid) y1)
        go_wp2_with fail
        go_meet
        exact ⟨by rw [G.out],rfl⟩
      case rest =>
       obtain ⟨rfl,rfl⟩:=hcut
       go_upto_if 199 with fail
       go_cut [24] from 192 (fun y wx=>y = .int .i64 e∧Hid (∃ F3,PmB F2 F3 a mid∧SoB (fun k=>r (F3 k)) a mid∧RowF wx g n F3)∧Hid (Below B w wx))
       case first =>
        cases hg:gB a i mid
        ·have HF:=hd_ (D.out.none1 (gB_no hg))
         clear hg
         go_wp2_with fail
         go_meet
         exact ⟨rfl,⟨F2,PmB.refl _ _ _,HF.out,HR2.out⟩,HB2.out⟩
        ·obtain ⟨y1,y2⟩:=gB_yes hg
         have Hih:=hd_ (HI.out wc a i mid F2 nr_ (by omega) (by omega) (D.out.sub1 y1 y2) HR2.out HB2.out)
         clear hg y1 y2
         go_wp2_with fail
         refine cm_ Hih.out ?_
         rintro e_ w2 ⟨rfl,dd⟩
         obtain ⟨F3,z1,z2,z3⟩:=dd.ex
         have HX:Hid (∃ F3,PmB F2 F3 a mid∧SoB (fun k=>r (F3 k)) a mid∧RowF w2 g n F3):=⟨F3,z2,z1,z3⟩
         have HB3:=hd_ (HB2.out.trans dd.bel)
         clear dd z1 z2 z3 F3 Hih HR2 HB2
         go_wp2_with fail
         go_meet
         exact ⟨rfl,HX,HB3.out⟩
       case rest =>
        obtain ⟨rfl,HX,HB3⟩:=hcut
        obtain ⟨F3,z1,z2,z3⟩:=HX.out
        have P3:=hd_ z1
        have S3:=hd_ z2
        have HR3:=hd_ z3
        clear HX z1 z2 z3 HR2 HB2
        go_upto_region 43 with fail
        go_cut [213] from 206 (fun y wx=>y = .bool (gB mid e b)∧wc=wx)
        case first =>
         by_cases y1:mid < e
         ·have y1':(mid:Int) < e:=by omega
          by_cases y2:e < b
          ·have y2':(e:Int) < b:=by omega
           have G:=hd_ (gB_3 y1 y2)
           go_wp2_with fail
           go_meet
           exact ⟨by rw [G.out],rfl⟩
          ·have y2':decide ((e:Int) < b)=false:=decide_eq_false (by omega)
           have G:=hd_ (gB_2 y1 y2)
           go_wp2_with fail
           go_meet
           exact ⟨by rw [G.out],rfl⟩
         ·have y1':decide ((mid:Int) < e)=false:=decide_eq_false (by omega)
          have G:=hd_ (gB_1 (z:=b) y1)
          go_wp2_with fail
          go_meet
          exact ⟨by rw [G.out],rfl⟩
        case rest =>
         obtain ⟨rfl,rfl⟩:=hcut
         cases hg:gB mid e b
         ·have HF:=hd_ (D.out.fin P3.out S3.out (PmB.refl _ _ _) (D.out.none2 P3.out (gB_no hg)))
          clear hg
          go_wp2
          go_end0
          exact ⟨rfl,⟨F3,HF.out.1,HF.out.2,HR3.out⟩,HB3.out⟩
         ·obtain ⟨y1,y2⟩:=gB_yes hg
          have Hih:=hd_ (HI.out wc mid e b F3 (by omega) nr_ (by omega) (D.out.sub2 P3.out y1 y2) HR3.out HB3.out)
          clear hg y1 y2
          go_wp2_with fail
          refine cm_ Hih.out ?_
          rintro e_ w2 ⟨rfl,dd⟩
          obtain ⟨F4,z1,z2,z3⟩:=dd.ex
          have HF:=hd_ (D.out.fin P3.out S3.out z2 z1)
          have HR4:=hd_ z3
          have HB4:=hd_ (HB3.out.trans dd.bel)
          clear dd z1 z2 z3 Hih HR3 HB3
          go_wp2
          go_end0
          exact ⟨rfl,⟨F4,HF.out.1,HF.out.2,HR4.out⟩,HB4.out⟩
end Go.Proofs.YtkoicfghplmghaaGreatDoor

namespace Go.Proofs.YtkoicfghplmghaaGreatDoor
open Go.RowKit
theorem symMerge_gen (w:World) (B g n cap:Nat) (f:FuncId) (lb:Array Value) (eg:∀ args w,(callFunc f args).run Tryz.prog w = .ok (.enter f args) w) (c:Nat→Nat→Int) (r:Nat→Nat) (hc:CmpR c r n) (hB:B≤g) (hn:n≤1000)
  (hcmp:∀ W,Below B w W→∀ i j:Nat,i < n→j < n→Gives Tryz.prog f (#[.int .i64 i,.int .i64 j] ++ lb) W (.int .i64 (c i j))) :
  ∀ (N:Nat) (W:World) (a m b:Nat) (F:Nat→Nat),b - a≤N→b≤n→MrgB r F n a m b→RowF W g n F→Below B w W →
  Calls Tryz.prog 183 #[.slice (some ⟨g,0,none⟩) n cap,.int .i64 a,.int .i64 m,.int .i64 b,.func (.func f) #[] lb] W fun e w'=>e = .returned (.tuple #[])∧MrgD W w' B g n a b r F:=by
 intro N
 induction N with
 | zero =>
  intro W a m b F h1 h2 M
  have:=M.am
  have:=M.mb
  omega
 | succ N ih =>
  intro W a m b F h1 h2 M hr hW
  have hcm:∀ W',Below B W W'→∀ i j:Nat,i < n→j < n→Gives Tryz.prog f (#[.int .i64 i,.int .i64 j] ++ lb) W' (.int .i64 (c i j)):=fun W' hW'=>hcmp W' (hW.trans hW')
  by_cases e1:m=a + 1
  ·exact symL_gen W B g n cap a m b f lb eg c r hc hB hn h2 F M e1 hr hcm
  ·by_cases e2:b=m + 1
   ·exact symR_gen W B g n cap a m b f lb eg c r hc hB hn h2 F M e1 e2 hr hcm
   ·refine symM_gen W B g n cap a m b f lb eg c r hc hB hn h2 F M e1 e2 ?_ hr hcm
    intro W' a1 m1 b1 F1 k1 k2 k3 M1 hr1 hW1
    exact ih W' a1 m1 b1 F1 (by omega) (by omega) M1 hr1 (hW.trans hW1)
structure BkP (r F:Nat→Nat) (n z a:Nat):Prop where
 out:∀ k,n≤k→F k=k
 bd:∀ k,k < n→F k < n
 q1:∀ k,k < n→a≤k→F k / z=k / z
 s1:∀ i j,a≤i→i < j→j < n→i / z=j / z→r (F i) < r (F j)
 q2:∀ k,k < n→k < a→F k / (2 * z)=k / (2 * z)
 s2:∀ i j,i < j→j < a→j < n→i / (2 * z)=j / (2 * z)→r (F i) < r (F j)
theorem div_two (k z:Nat):k / (2 * z)=k / z / 2:=by rw [Nat.div_div_eq_div_mul,Nat.mul_comm]
theorem div_in {z t k:Nat} (h1:z * t≤k) (h2:k < z * t + z):k / z=t:=by
 have hz:0 < z:=by omega
 have e1:t≤k / z:=by rw [Nat.le_div_iff_mul_le hz,Nat.mul_comm]; exact h1
 have e2:k / z < t + 1:=by rw [Nat.div_lt_iff_lt_mul hz,Nat.add_mul,Nat.one_mul,Nat.mul_comm]; exact h2
 omega
theorem in_div {z t k:Nat} (hz:0 < z) (h:k / z=t):z * t≤k∧k < z * t + z:=by
 have h1:=Nat.div_mul_le_self k z
 have h2:=Nat.lt_div_mul_add (a:=k) hz
 rw [h,Nat.mul_comm] at h1 h2
 exact ⟨h1,h2⟩
theorem BkP.step {r F F':Nat→Nat} {n z t b:Nat} (hz:0 < z) (h:BkP r F n z (2 * z * t)) (hb:b≤n) (hb2:b=2 * z * t + 2 * z∨(b=n∧n≤2 * z * t + 2 * z)) (p:PmB F F' (2 * z * t) b) (s:SoB (fun k=>r (F' k)) (2 * z * t) b):BkP r F' n z (2 * z * (t + 1)):=by
 have e:2 * z * (t + 1)=2 * z * t + 2 * z:=by rw [Nat.mul_add,Nat.mul_one]
 rw [e]
 generalize hA:2 * z * t=A at *
 have k2:∀ k,A≤k→k < A + 2 * z→k / (2 * z)=t:=fun k x1 x2=>div_in (by rw [hA]; exact x1) (by rw [hA]; exact x2)
 have hout:∀ k,k < A∨b≤k→F' k=F k:=p.out
 refine ⟨fun k hk=>?_,fun k hk=>?_,fun k hk hk2=>?_,fun i j x1 x2 x3 x4=>?_,fun k hk hk2=>?_,fun i j x1 x2 x3 x4=>?_⟩
 ·rw [hout k (by omega)]; exact h.out k hk
 ·by_cases hx:A≤k∧k < b
  ·obtain ⟨m,m1,m2,e'⟩:=p.src k hx.1 hx.2
   rw [e']; exact h.bd m (by omega)
  ·rw [hout k (by omega)]; exact h.bd k hk
 ·rw [hout k (by omega)]; exact h.q1 k hk (by omega)
 ·rw [hout i (by omega),hout j (by omega)]; exact h.s1 i j (by omega) x2 x3 x4
 ·by_cases hx:A≤k
  ·obtain ⟨m,m1,m2,e'⟩:=p.src k hx (by omega)
   rw [e',div_two,h.q1 m (by omega) m1,← div_two,k2 m m1 (by omega),k2 k hx hk2]
  ·rw [hout k (by omega)]; exact h.q2 k hk (by omega)
 ·by_cases hx:A≤i
  ·exact s i j hx x1 (by omega)
  ·have hj:j < A:=by
    rcases Nat.lt_or_ge j A with hj | hj
    ·exact hj
    ·exfalso
     rw [k2 j hj x2] at x4
     have:=(in_div (z:=2 * z) (by omega) x4).1
     omega
   rw [hout i (by omega),hout j (by omega)]; exact h.s2 i j x1 hj x3 x4
theorem BkP.next {r F:Nat→Nat} {n z a:Nat} (h:BkP r F n z a) (ha:n≤a):BkP r F n (2 * z) 0 :=
 ⟨h.out,h.bd,fun k hk _=>h.q2 k hk (by omega),fun i j _ x2 x3 x4=>h.s2 i j x2 (by omega) x3 x4,fun _ _ hk2=>absurd hk2 (Nat.not_lt_zero _),fun _ _ _ x2=>absurd x2 (Nat.not_lt_zero _)⟩
theorem BkP.mrg {r F:Nat→Nat} {n z t b:Nat} (hz:0 < z) (h:BkP r F n z (2 * z * t)) (hb:b≤n) (h1:2 * z * t + z < b) (h2:b≤2 * z * t + 2 * z):MrgB r F n (2 * z * t) (2 * z * t + z) b:=by
 have e1:2 * z * t=z * (2 * t):=by rw [← Nat.mul_assoc,Nat.mul_comm z 2]
 have e2:z * (2 * t + 1)=z * (2 * t) + z:=by rw [Nat.mul_add,Nat.mul_one]
 have hq:=h.q1
 have hs:=h.s1
 have hbd:=h.bd
 have d1:∀ k,z * (2 * t)≤k→k < z * (2 * t) + z→k / z=2 * t:=fun k x1 x2=>div_in x1 x2
 have d2:∀ k,z * (2 * t) + z≤k→k < z * (2 * t) + 2 * z→k / z=2 * t + 1:=fun k x1 x2=>div_in (by rw [e2]; exact x1) (by rw [e2]; omega)
 have l1:∀ k,k / z=2 * t→k < z * (2 * t) + z:=fun k hk=>(in_div hz hk).2
 have l2:∀ k,k / z=2 * t + 1→z * (2 * t) + z≤k:=fun k hk=>by have:=(in_div hz hk).1; rw [e2] at this; exact this
 rw [← e1] at d1 d2 l1 l2
 clear e1 e2 h
 generalize 2 * z * t=A at *
 refine ⟨by omega,h1,fun i j x1 x2 x3=>?_,fun i j x1 x2 x3=>?_,fun i j x1 x2 x3 x4=>?_,fun k _ x2=>hbd k (by omega)⟩
 ·exact hs i j x1 x2 (by omega) (by rw [d1 i x1 (by omega),d1 j (by omega) x3])
 ·exact hs i j (by omega) x2 (by omega) (by rw [d2 i x1 (by omega),d2 j (by omega) (by omega)])
 ·have a1:=hq i (by omega) x1
  have a2:=hq j (by omega) (by omega)
  rw [d1 i x1 x2] at a1
  rw [d2 j x3 (by omega)] at a2
  have b1:=l1 _ a1
  have b2:=l2 _ a2
  omega
theorem BkP.lone {r F:Nat→Nat} {n z t:Nat} (h:BkP r F n z (2 * z * t)) (hn:n≤2 * z * t + z):SoB (fun k=>r (F k)) (2 * z * t) n:=by
 have e1:2 * z * t=z * (2 * t):=by rw [← Nat.mul_assoc,Nat.mul_comm z 2]
 have hs:=h.s1
 have d1:∀ k,z * (2 * t)≤k→k < z * (2 * t) + z→k / z=2 * t:=fun k x1 x2=>div_in x1 x2
 rw [← e1] at d1
 intro i j x1 x2 x3
 exact hs i j x1 x2 x3 (by rw [d1 i x1 (by omega),d1 j (by omega) (by omega)])
structure BkI (r F:Nat→Nat) (n a:Nat):Prop where
 id:∀ k,a≤k→F k=k
 bd:∀ k,k < n→F k < n
 q:∀ k,k < n→F k / 20=k / 20
 s:∀ i j,i < j→j < a→i / 20=j / 20→r (F i) < r (F j)
theorem BkI.start (r:Nat→Nat) (n:Nat):BkI r (fun k=>k) n 0:=⟨fun _ _=>rfl,fun _ h=>h,fun _ _=>rfl,fun _ _ _ h=>absurd h (Nat.not_lt_zero _)⟩
theorem BkI.step {r F F':Nat→Nat} {n t b:Nat} (h:BkI r F n (20 * t)) (_h0:20 * t≤n) (hb:b≤n) (hb2:b≤20 * t + 20) (hb3:20 * t≤b) (p:PmB F F' (20 * t) b) (s:SoB (fun k=>r (F' k)) (20 * t) b):BkI r F' n b:=by
 refine ⟨fun k hk=>?_,fun k hk=>?_,fun k hk=>?_,fun i j x1 x2 x3=>?_⟩
 ·rw [p.out k (by omega)]; exact h.id k (by omega)
 ·by_cases hx:20 * t≤k∧k < b
  ·obtain ⟨m,m1,m2,e'⟩:=p.src k hx.1 hx.2
   rw [e']; exact h.bd m (by omega)
  ·rw [p.out k (by omega)]; exact h.bd k hk
 ·by_cases hx:20 * t≤k∧k < b
  ·obtain ⟨m,m1,m2,e'⟩:=p.src k hx.1 hx.2
   rw [e',h.q m (by omega)]; omega
  ·rw [p.out k (by omega)]; exact h.q k hk
 ·by_cases hx:20 * t≤i
  ·exact s i j hx x1 x2
  ·rw [p.out i (by omega),p.out j (by omega)]; exact h.s i j x1 (by omega) x3
theorem BkI.all {r F:Nat→Nat} {n:Nat} (h:BkI r F n n):BkP r F n 20 0 :=
 ⟨h.id,h.bd,fun k hk _=>h.q k hk,fun i j _ x2 x3 x4=>h.s i j x2 x3 x4,fun _ _ hk2=>absurd hk2 (Nat.not_lt_zero _),fun _ _ _ x2=>absurd x2 (Nat.not_lt_zero _)⟩
theorem BkP.done {r F:Nat→Nat} {n z:Nat} (h:BkP r F n z 0) (hz:n≤z):SoB (fun k=>r (F k)) 0 n∧PmB (fun k=>k) F 0 n:=by
 refine ⟨fun i j _ x2 x3=>h.s1 i j (Nat.zero_le _) x2 x3 ?_,fun k hk=>h.out k (by omega),fun k _ hk=>⟨F k,Nat.zero_le _,h.bd k hk,rfl⟩⟩
 rw [Nat.div_eq_of_lt (by omega),Nat.div_eq_of_lt (by omega)]
theorem stableC_gen (w:World) (B g n cap:Nat) (f:FuncId) (lb:Array Value) (eg:∀ args w,(callFunc f args).run Tryz.prog w = .ok (.enter f args) w) (c:Nat→Nat→Int) (r:Nat→Nat) (hc:CmpR c r n) (hB:B≤g) (hn:n≤1000) (hrow:RowF w g n fun k=>k)
  (hcmp:∀ W,Below B w W→∀ i j:Nat,i < n→j < n→Gives Tryz.prog f (#[.int .i64 i,.int .i64 j] ++ lb) W (.int .i64 (c i j))) :
  Calls Tryz.prog 146 #[.slice (some ⟨g,0,none⟩) n cap,.int .i64 n,.func (.func f) #[] lb] w fun e w'=>e = .returned (.tuple #[])∧∃ F,SoB (fun k=>r (F k)) 0 n∧PmB (fun k=>k) F 0 n∧RowF w' g n F∧Below B w w':=by
 have Hrow:=hd_ hrow
 have HI:Hid (∀ W (a b:Nat) (F:Nat→Nat),a≤b→b≤n→(∀ k,a≤k→k < b→F k=k)→RowF W g n F→Below B w W→Calls Tryz.prog 182 #[.slice (some ⟨g,0,none⟩) n cap,.int .i64 a,.int .i64 b,.func (.func f) #[] lb] W fun e w'=>e = .returned (.tuple #[])∧∃ F',SoB (fun k=>r (F' k)) a b∧PmB F F' a b∧RowF w' g n F'∧Below B W w') :=
  fun W a b F h1 h2 h3 hr hW=>insertion_gen W B g n cap a b f lb eg c r hc hB hn h1 h2 F h3 hr fun W' hW'=>hcmp W' (hW.trans hW')
 have HM:Hid (∀ W (a m b:Nat) (F:Nat→Nat),b≤n→MrgB r F n a m b→RowF W g n F→Below B w W→Calls Tryz.prog 183 #[.slice (some ⟨g,0,none⟩) n cap,.int .i64 a,.int .i64 m,.int .i64 b,.func (.func f) #[] lb] W fun e w'=>e = .returned (.tuple #[])∧MrgD W w' B g n a b r F) :=
  fun W a m b F h2 M hr hW=>symMerge_gen w B g n cap f lb eg c r hc hB hn hcmp (b - a) W a m b F nr_ h2 M hr hW
 clear hc hcmp hrow eg
 go_enter Tryz.func146,Tryz.ntmps146
 go_wp2_with fail
 go_loopw [7,8] (fun y z wr=>∃ (a b t:Nat) (F:Nat→Nat),a≤n∧b≤a + 20∧a + 20≤b∧y = .int .i64 a∧z = .int .i64 b∧Hid (a=20 * t)∧Hid (BkI r F n a)∧Hid (RowF wr g n F)∧Hid (Below B w wr)) (fun _ z _=>n + 1 - (intOf z).toNat)
 case atStart=>exact ⟨0,20,0,fun k=>k,Nat.zero_le _,by omega,by omega,rfl,rfl,rfl,BkI.start r n,Hrow.out,Below.refl _ _⟩
 case round =>
  clear Hrow
  obtain ⟨a,b,t,F,ha,hb1,hb2,rfl,rfl,HT,HK,HR,HB⟩:=hrel
  by_cases hlt:b≤n
  ·have hlt':(b:Int)≤n:=by omega
   have Hc:=hd_ (HI.out wr a b F (by omega) hlt (fun k h1 _=>HK.out.id k h1) HR.out HB.out)
   go_wp2_with fail
   refine cm_ Hc.out ?_
   rintro e_ w2 ⟨rfl,F',z1,z2,z3,z4⟩
   have HK2:Hid (BkI r F' n b):=by
    have:=HK.out
    rw [HT.out] at this z1 z2
    exact BkI.step this (by rw [← HT.out]; exact ha) hlt (by rw [← HT.out]; exact hb1) (by rw [← HT.out]; omega) z2 z1
   have HR2:=hd_ z3
   have HB2:=hd_ (HB.out.trans z4)
   have HT2:Hid (b=20 * (t + 1)):=by show _=_; have:=HT.out; omega
   clear z1 z2 z3 z4 Hc HK HR HB HT
   go_wp2
   go_roundw
   case rel=>exact ⟨b,b + 20,t + 1,F',hlt,by omega,by omega,rfl,by go_num,HT2,HK2,HR2,HB2⟩
   case measure=>simp [intOf]; omega
  ·have hlt':¬ (b:Int)≤n:=by omega
   have Hc:=hd_ (HI.out wr a n F ha nr_ (fun k h1 _=>HK.out.id k h1) HR.out HB.out)
   go_wp2_with fail
   refine cm_ Hc.out ?_
   rintro e_ w2 ⟨rfl,F',z1,z2,z3,z4⟩
   have HK2:Hid (BkP r F' n 20 0):=by
    have:=HK.out
    rw [HT.out] at this z1 z2
    exact (BkI.step this (by rw [← HT.out]; exact ha) nr_ (by rw [← HT.out]; omega) (by rw [← HT.out]; omega) z2 z1).all
   have HR2:=hd_ z3
   have HB2:=hd_ (HB.out.trans z4)
   clear z1 z2 z3 z4 Hc HK HR HB HT
   go_wp2_with fail
   go_loopw [6] (fun y wr=>∃ (z:Nat) (F:Nat→Nat),0 < z∧z≤2000∧y = .int .i64 z∧Hid (BkP r F n z 0)∧Hid (RowF wr g n F)∧Hid (Below B w wr)) (fun y _=>n - (intOf y).toNat)
   case atStart=>exact ⟨20,F',by decide,by decide,rfl,HK2,HR2,HB2⟩
   case round =>
    clear HK2 HR2 HB2
    obtain ⟨z,F,hz0,hz1,rfl,HK,HR,HB⟩:=hrel
    by_cases hzn:z < n
    ·have hzn':(z:Int) < n:=by omega
     go_wp2_with fail
     have hz2:2 * z≤2000:=by omega
     go_loopw [7,8] (fun y y2 wr=>∃ (a b t:Nat) (F:Nat→Nat),a≤n∧b≤a + 2 * z∧a + 2 * z≤b∧y = .int .i64 a∧y2 = .int .i64 b∧Hid (a=2 * z * t)∧Hid (BkP r F n z a)∧Hid (RowF wr g n F)∧Hid (Below B w wr)) (fun _ y2 _=>n + 1 - (intOf y2).toNat)
     case atStart=>exact ⟨0,2 * z,0,F,Nat.zero_le _,by omega,by omega,rfl,by go_num,rfl,HK.out,HR.out,HB.out⟩
     case round =>
      clear HK HR HB
      obtain ⟨a,b,t,F,ha,hb1,hb2,rfl,rfl,HT,HK,HR,HB⟩:=hrel
      have hE1:2 * z * (t + 1)=2 * z * t + 2 * z:=by rw [Nat.mul_add,Nat.mul_one]
      have HE1:=hd_ hE1
      clear hE1
      by_cases hlt:b≤n
      ·have hlt':(b:Int)≤n:=by omega
       have hM:MrgB r F n a (a + z) b:=by
        have:=BkP.mrg (t:=t) (b:=b) hz0 (by rw [← HT.out]; exact HK.out) hlt (by rw [← HT.out]; omega) (by rw [← HT.out]; omega)
        rw [← HT.out] at this
        exact this
       have hc_:=HM.out wr a (a + z) b F hlt hM HR.out HB.out
       rw [show ((a + z:Nat):Int)=(a:Int) + z by omega] at hc_
       have Hc:=hd_ hc_
       clear hM hc_
       go_wp2_with fail
       refine cm_ Hc.out ?_
       rintro e_ w2 ⟨rfl,dd⟩
       obtain ⟨F',z1,z2,z3⟩:=dd.ex
       have HK2:Hid (BkP r F' n z b):=by
        have h:=HK.out
        rw [HT.out] at h z1 z2
        have:=BkP.step hz0 h hlt (.inl (by have:=HT.out; omega)) z2 z1
        rw [HE1.out,← HT.out] at this
        rw [show b=a + 2 * z by omega]
        exact this
       have HR2:=hd_ z3
       have HB2:=hd_ (HB.out.trans dd.bel)
       have HT2:Hid (b=2 * z * (t + 1)):=by show _=_; rw [HE1.out,← HT.out]; omega
       clear dd z1 z2 z3 Hc HK HR HB HT
       go_wp2
       go_roundw
       case rel=>exact ⟨b,b + 2 * z,t + 1,F',hlt,by omega,by omega,rfl,by go_num,HT2,HK2,HR2,HB2⟩
       case measure=>simp [intOf]; omega
      ·have hlt':¬ (b:Int)≤n:=by omega
       by_cases hm:a + z < n
       ·have hm':(a:Int) + z < n:=by omega
        have hM:MrgB r F n a (a + z) n:=by
         have:=BkP.mrg (t:=t) (b:=n) hz0 (by rw [← HT.out]; exact HK.out) nr_ (by rw [← HT.out]; omega) (by rw [← HT.out]; omega)
         rw [← HT.out] at this
         exact this
        have hc_:=HM.out wr a (a + z) n F nr_ hM HR.out HB.out
        rw [show ((a + z:Nat):Int)=(a:Int) + z by omega] at hc_
        have Hc:=hd_ hc_
        clear hM hc_
        go_wp2_with fail
        refine cm_ Hc.out ?_
        rintro e_ w2 ⟨rfl,dd⟩
        obtain ⟨F',z1,z2,z3⟩:=dd.ex
        have HK2:Hid (BkP r F' n (2 * z) 0):=by
         have h:=HK.out
         rw [HT.out] at h z1 z2
         have:=BkP.step hz0 h nr_ (.inr ⟨rfl,by have:=HT.out; omega⟩) z2 z1
         exact this.next (by rw [HE1.out,← HT.out]; omega)
        have HR2:=hd_ z3
        have HB2:=hd_ (HB.out.trans dd.bel)
        clear dd z1 z2 z3 Hc HK HR HB HT HE1
        go_wp2
        go_roundw
        case rel=>exact ⟨2 * z,F',by omega,by omega,congrArg (Value.int .i64) (by omega),HK2,HR2,HB2⟩
        case measure=>simp [intOf]; omega
       ·have hm':¬ (a:Int) + z < n:=by omega
        have HK2:Hid (BkP r F n (2 * z) 0):=by
         have h:=HK.out
         rw [HT.out] at h
         have h2:=h.lone (by rw [← HT.out]; omega)
         have:=BkP.step hz0 h nr_ (.inr ⟨rfl,by have:=HT.out; omega⟩) (PmB.refl _ _ _) h2
         exact this.next (by rw [HE1.out,← HT.out]; omega)
        clear HK HT HE1
        go_wp2
        go_roundw
        case rel=>exact ⟨2 * z,F,by omega,by omega,congrArg (Value.int .i64) (by omega),HK2,HR.out,HB.out⟩
        case measure=>simp [intOf]; omega
    ·have hzn':¬ (z:Int) < n:=by omega
     have HF:=hd_ (HK.out.done (by omega))
     go_wp2
     go_end0
     exact ⟨rfl,F,HF.out.1,HF.out.2,HR.out,HB.out⟩
theorem stableG_any (w:World) (B g n cap:Nat) (f:FuncId) (lb:Array Value) (eg:∀ args w,(callFunc f args).run Tryz.prog w = .ok (.enter f args) w) (c:Nat→Nat→Int) (pc:Pre c n) (hbd:∀ u v,-1≤c u v∧c u v≤1) (hB:B≤g) (hn:n≤1000) (hrow:RowF w g n fun k=>k)
  (hcmp:∀ W,Below B w W→∀ i j:Nat,i < n→j < n→Gives Tryz.prog f (#[.int .i64 i,.int .i64 j] ++ lb) W (.int .i64 (c i j))) :
  Calls Tryz.prog 90 #[.slice (some ⟨g,0,none⟩) n cap,.func (.func f) #[] lb] w fun e w'=>e = .returned (.tuple #[])∧∃ F,Fin' c n F∧RowF w' g n F∧Below B w w':=by
 have H:=hd_ (stableC_gen w B g n cap f lb eg c (rkB c n) (CmpR.of pc hbd) hB hn hrow hcmp)
 have HF:Hid (∀ F,SoB (fun k=>rkB c n (F k)) 0 n→PmB (fun k=>k) F 0 n→Fin' c n F):=fun F h1 h2=>Fin'.of_rank pc h1 h2
 clear pc hbd hrow hcmp eg
 generalize rkB c n=r at *
 go_enter Tryz.func90,Tryz.ntmps90
 go_wp2_with fail
 refine cm_ H.out ?_
 rintro e_ w2 ⟨rfl,F,z1,z2,z3,z4⟩
 have HF2:=hd_ (HF.out F z1 z2)
 have HR:=hd_ z3
 have HB:=hd_ z4
 clear z1 z2 z3 z4 H HF
 go_wp2_with fail
 go_end0
 exact ⟨rfl,F,HF2.out,HR.out,HB.out⟩
end Go.Proofs.YtkoicfghplmghaaGreatDoor

namespace Go.Proofs.YtkoicfghplmghaaGreatDoor
open Go.RowKit
theorem cS_pre {ps:List Int} {LL:List (List Rat)} (O:SortOk ps LL):Pre (cS ps LL) LL.length:=by
 refine ⟨cS_neg O,fun u v w hu hv hw h1 h2=>?_⟩
 unfold cS at h1 h2 ⊢
 rw [if_pos ⟨hu,hv⟩] at h1
 rw [if_pos ⟨hv,hw⟩] at h2
 rw [if_pos ⟨hu,hw⟩]
 exact sz_trans_le O.pos ((O.len _ (getD_memL hu)).trans (O.len _ (getD_memL hv)).symm) ((O.len _ (getD_memL hv)).trans (O.len _ (getD_memL hw)).symm) h1 h2
theorem SortG_ok (w:World) (ps:List Int) (a0 al:Option Addr) (c0 cl:Nat) (LL:List (List Rat)) (rp:Rd w a0 (ints ps)) (rl:RdL w al (LL.map (List.map qs))) (O:SortOk ps LL) (hm:LL.length≤1000) (L:Laid w) :
  Calls Tryz.prog 66 #[.slice a0 ps.length c0,.slice al LL.length cl] w fun e w'=>∃ a c F,e = .returned (.tuple #[.slice a LL.length c,.int .i64 0])∧Fin' (cS ps LL) LL.length F∧Rd w' a (ints ((List.range LL.length).map fun (k:Nat)=>((F k:Nat):Int)))∧Below w.heap.size w w':=by
 have hn:=O.n
 have hi:I64s ps:=fun x hx=>by have:=O.pr x hx; omega
 have Hc:Hid (∀ W,Below w.heap.size w W→Gives Tryz.prog 108 #[.slice a0 ps.length c0,.slice al LL.length cl] W (.int .i64 0)):=fun W hW=>by
  have h:=checkAll_any W a0 al c0 cl ps (LL.map (List.map qs)) (rp.below hW nr_) hi (by omega) (rl.below hW nr_) (by rw [List.length_map]; omega) (fun l hl=>by
   obtain ⟨x,hx,rfl⟩:=List.mem_map.1 hl
   exact ⟨by rw [List.length_map,O.len x hx]; omega,ssz_ok (O.sm x hx)⟩) (L.below hW)
  rw [lcode_ok O.p0 fun l hl=>⟨O.len l hl,O.sm l hl⟩,List.length_map] at h
  exact h
 have HL:=hd_ L
 have HO:=hd_ O
 have Hrp:=hd_ rp
 have Hrl:=hd_ rl
 clear L O rp rl hi
 have B0:=hd_ ((((Below.refl w.heap.size w).alloc nr_ (.cells #[.slice a0 ps.length c0] 24)).alloc (by simp) (.cells #[.slice al LL.length cl] 53)))
 have K2:=hd_ (heap_old (heap_at w #[.slice a0 ps.length c0] 24 _ rfl) (.cells #[.slice al LL.length cl] 53))
 have K3:=hd_ (heap_at (w.alloc (.cells #[.slice a0 ps.length c0] 24)) #[.slice al LL.length cl] 53 (w.heap.size + 1) (by simp))
 have S0:Hid (SortAt ((w.alloc (.cells #[.slice a0 ps.length c0] 24)).alloc (.cells #[.slice al LL.length cl] 53)) ps w.heap.size (w.heap.size + 1) a0 al c0 cl LL) :=
  ⟨K2.out,K3.out,Hrp.out.below B0.out nr_,Hrl.out.below B0.out nr_⟩
 clear K2 K3 Hrp Hrl
 have m2:=(one_cell S0.out.h2).1
 have m3:=(one_cell S0.out.h3).1
 obtain ⟨m,hmm⟩:∃ m,LL.length=m:=⟨_,rfl⟩
 obtain ⟨n,hnn⟩:∃ n,ps.length=n:=⟨_,rfl⟩
 rw [hmm] at hm
 simp only [hmm,hnn] at Hc B0 S0 m2 m3 ⊢
 have Hm:=hd_ hmm
 clear hmm hnn hn
 go_enter Tryz.func66,Tryz.ntmps66
 go_wp2_with fail
 generalize (w.alloc (.cells #[.slice a0 n c0] 24)).alloc (.cells #[.slice al m cl] 53)=w0 at *
 clear m2 m3
 refine cm_ (Hc.out _ B0.out) ?_
 rintro e w2 ⟨rfl,hb⟩
 have B2:=hd_ (B0.out.trans (hb.mono B0.out.size))
 have S2:=hd_ (S0.out.below hb nr_)
 clear hb B0 S0 Hc
 have m3:=(one_cell S2.out.h3).1
 rw [Hm.out] at m3
 go_wp2_with fail
 clear m3
 go_loopw [7,17] (fun o z wr=>∃ (j:Nat) (a:Option Addr) (c:Nat),j≤m∧z = .int .i64 j∧o = .slice a j c∧Hid (j=0→a=none∧c=0)∧Hid (wr.ownsRow w2.heap.size 3 1 (.slice a j c) j (ints (idL j)))∧Hid (Below w2.heap.size w2 wr)) (fun _ z _=>m - (intOf z).toNat)
 case atStart=>exact ⟨0,none,0,Nat.zero_le _,rfl,rfl,fun _=>⟨rfl,rfl⟩,World.ownsRow_nil ..,Below.refl _ _⟩
 case round =>
  obtain ⟨j,a,c,hj,rfl,rfl,HN,HR,HB⟩:=hrel
  by_cases hlt:j < m
  ·have hlt':(j:Int) < m:=by omega
   go_wp2_with (at_builtin; refine wpList_append_new rfl (.tmp 20) (.tmp 22) 23 rfl elIntS _ 1 [.int .i64 j] rfl rfl HR.out HB.out.size rfl ?c1 (by omega) (by omega) ?_)
   case c1=>first | rfl | (intro u hu; obtain rfl:=List.mem_singleton.1 hu; rfl)
   intro v' w3 hown3 hg3 _
   obtain ⟨a3,c3,rfl⟩:=own_form hown3
   have HB3:Hid (Below w2.heap.size w2 w3):=(HB.out.alloc HB.out.size _).grown hg3 (by have:=HB.out.size; simp; omega) (fun k hk=>(HR.out.lt k hk).1)
   have HR3:Hid (w3.ownsRow w2.heap.size 3 1 (.slice a3 (j + 1) c3) (j + 1) (ints (idL (j + 1)))):=by
    rw [idL_succ,ints_append]
    exact hown3
   clear hown3 hg3 HB HR HN
   go_wp2
   go_roundw
   case rel=>exact ⟨j + 1,a3,c3,by omega,by go_num,rfl,fun h=>by omega,HR3,HB3⟩
   case measure=>simp [intOf]; omega
  ·have hlt':¬ (j:Int) < m:=by omega
   obtain rfl:j=m:=by omega
   have SR:=hd_ (S2.out.below HB.out nr_)
   rcases Nat.eq_zero_or_pos j with h0 | h0
   ·subst h0
    obtain ⟨rfl,rfl⟩:=HN.out rfl
    have Hs:=hd_ (stable_nil wr (.pointer (some ⟨w.heap.size,0,none⟩)) (.pointer (some ⟨w.heap.size + 1,0,none⟩)))
    clear HN HR
    go_wp2_with fail
    refine cm_ Hs.out ?_
    rintro e w4 ⟨rfl,rfl⟩
    clear Hs
    go_wp2_with fail
    go_ret2
    exact ⟨none,0,fun k=>k,rfl,⟨fun k hk=>absurd hk (Nat.not_lt_zero _),fun k _ hk=>absurd hk (Nat.not_lt_zero _),fun k hk=>absurd hk (Nat.not_lt_zero _)⟩,.inl rfl,B2.out.trans (HB.out.mono B2.out.size)⟩
   ·obtain ⟨g,cap,hv,hg1,hg2,hg3,hg4,hg5⟩:=own_open HR.out h0
    obtain ⟨rfl,rfl⟩:a=some ⟨g,0,none⟩∧c=cap:=by
     simp only [Value.slice.injEq] at hv
     exact ⟨hv.1,hv.2.2⟩
    have hrow:RowF wr g j fun k=>k:=⟨hg2,fun k hk=>by
     rw [hg4 k (by omega),ints_get _ k (by rw [idL_length]; exact hk)]
     simp [idL],hg5⟩
    have Hs:=hd_ (stableG_any wr w2.heap.size g j c 118 #[.pointer (some ⟨w.heap.size,0,none⟩),.pointer (some ⟨w.heap.size + 1,0,none⟩)] (enters_of Tryz.func118 (by kernel_rfl) rfl) (cS ps LL) (by have:=cS_pre HO.out; rw [Hm.out] at this; exact this) (cS_le HO.out) hg1 hm hrow fun W hW i k hi hk =>
     srt1_any W ps _ _ a0 al c0 cl LL (S2.out.below (HB.out.trans hW) nr_) HO.out i k (by rw [Hm.out]; exact hi) (by rw [Hm.out]; exact hk) (HL.out.below ((B2.out.trans (HB.out.mono B2.out.size)).trans (hW.mono B2.out.size))))
    clear HN HR hv hg1 hg2 hg3 hg4 hg5 hrow
    go_wp2_with fail
    refine cm_ Hs.out ?_
    rintro e w4 ⟨rfl,F,hF,hR,hb⟩
    have HF:=hd_ hF
    have HR:=hd_ hR
    have HB4:=hd_ (HB.out.trans hb)
    clear Hs hF hR hb
    go_wp2_with fail
    go_ret2
    exact ⟨some ⟨g,0,none⟩,c,F,rfl,HF.out,HR.out.rd,B2.out.trans (HB4.out.mono B2.out.size)⟩
end Go.Proofs.YtkoicfghplmghaaGreatDoor

namespace Go.Proofs.YtkoicfghplmghaaGreatDoor
def cL (cc:List Int→List Int→Int) (l:List (List Int)) (u v:Nat):Int:=if u < l.length∧v < l.length then cc (l.getD u []) (l.getD v []) else 0
theorem getD_memI {l:List (List Int)} {u:Nat} (h:u < l.length):l.getD u []∈l:=by
 rw [List.getD_eq_getElem?_getD,List.getElem?_eq_getElem h]; exact List.getElem_mem h
def sortL (l:List (List Int)) (F:Nat→Nat):List (List Int):=(List.range l.length).map fun k=>l.getD (F k) []
theorem sortL_length (l:List (List Int)) (F:Nat→Nat):(sortL l F).length=l.length:=by simp [sortL]
def rowsL:Nat→Nat→List (List Int)
 | 0,_=>[[]]
 | n + 1,m=>(rowsL n m).flatMap fun x=>(List.range (2 * m + 1)).map fun (k:Nat)=>x ++ [-(m:Int) + (k:Int)]
def insK (pf:List Int→Bool) (n m k:Nat):List (List Int):=((List.range k).map (seqB n m)).filter pf
theorem insK_yes {pf:List Int→Bool} {n m k:Nat} (h:pf (seqB n m k)=true):insK pf n m (k + 1)=insK pf n m k ++ [seqB n m k]:=by
 unfold insK
 rw [List.range_succ,List.map_append,List.filter_append,List.map_singleton,List.filter_cons_of_pos h]; rfl
theorem insK_no {pf:List Int→Bool} {n m k:Nat} (h:pf (seqB n m k)=false):insK pf n m (k + 1)=insK pf n m k:=by
 unfold insK
 rw [List.range_succ,List.map_append,List.filter_append,List.map_singleton,List.filter_cons_of_neg (by rw [h]; decide),List.filter_nil,List.append_nil]
theorem insK_le {pf:List Int→Bool} {n m j k:Nat} (h:j≤k):(insK pf n m j).length≤(insK pf n m k).length:=by
 obtain ⟨d,rfl⟩:=Nat.exists_eq_add_of_le h
 induction d with
 | zero=>exact Nat.le_refl _
 | succ d ih =>
  refine Nat.le_trans (ih (by omega)) ?_
  rw [← Nat.add_assoc]
  cases hp:pf (seqB n m (j + d)) with
  | true=>rw [insK_yes hp,List.length_append]; omega
  | false=>rw [insK_no hp]; exact Nat.le_refl _
theorem insK_each {pf:List Int→Bool} {n m k:Nat}:∀ x∈insK pf n m k,x.length=n∧InBox m x∧pf x=true:=fun x hx=>by
 obtain ⟨h1,h2⟩:=List.mem_filter.1 hx
 obtain ⟨j,_,rfl⟩:=List.mem_map.1 h1
 exact ⟨seqB_length n m j,seqB_box (by omega) n j,h2⟩
end Go.Proofs.YtkoicfghplmghaaGreatDoor

namespace Go.Proofs.YtkoicfghplmghaaGreatDoor
open Go.RowKit Go.Shelf
attribute [local go_sem] Oper.semAt_some
theorem OwnW.rdi {w:World} {B d n:Nat} {b:Option Addr} {L:List (Nat×Nat)} {ls:Nat→List Int} (h:OwnW w B b d n L ls) {l:List (List Int)} (hl:l.length=L.length) (he:∀ i,i < l.length→l.getD i []=ls i):RdI w b l:=by
 rcases Nat.eq_zero_or_pos L.length with h0 | h0
 ·exact .inl (List.eq_nil_of_length_eq_zero (by omega))
 ·obtain ⟨g,cap,hv,-,h2,-,h4,-⟩:=own_open h.row h0
  simp only [Value.slice.injEq] at hv
  obtain ⟨rfl,-,-⟩:=hv
  refine .inr ⟨g,0,rfl,h2,fun i hi=>?_⟩
  have hi':i < L.length:=by omega
  refine ⟨some ⟨L[i].1,0,none⟩,L[i].2,?_,?_⟩
  ·rw [Nat.zero_add,h4 i (by omega),List.getElem?_map,List.getElem?_eq_getElem hi',he i hi,h.lens i]
   rfl
  ·rw [he i hi]
   exact (h.each i hi').rd
def vF (LL:List (Nat×Nat)) (n:Nat) (F:Nat→Nat) (k:Nat):List Value:=(List.range k).map fun j=>Value.slice (some ⟨(LL.getD (F j) (0,0)).1,0,none⟩) n (LL.getD (F j) (0,0)).2
theorem vF_length (LL:List (Nat×Nat)) (n:Nat) (F:Nat→Nat) (k:Nat):(vF LL n F k).length=k:=by simp [vF]
theorem vF_succ (LL:List (Nat×Nat)) (n:Nat) (F:Nat→Nat) (k:Nat):vF LL n F (k + 1)=vF LL n F k ++ [Value.slice (some ⟨(LL.getD (F k) (0,0)).1,0,none⟩) n (LL.getD (F k) (0,0)).2]:=by
 unfold vF
 rw [List.range_succ,List.map_append]; rfl
theorem OwnW.cellAt {w:World} {B d n:Nat} {b:Option Addr} {L:List (Nat×Nat)} {ls:Nat→List Int} (h:OwnW w B b d n L ls) {i:Nat} (hi:i < L.length) :
  ∃ g,b=some ⟨g,0,none⟩∧w.cell? ⟨g,i,none⟩=some (.slice (some ⟨(L.getD i (0,0)).1,0,none⟩) n (L.getD i (0,0)).2):=by
 obtain ⟨g,cap,hv,-,h2,-,h4,-⟩:=own_open h.row (by omega)
 simp only [Value.slice.injEq] at hv
 obtain ⟨rfl,-,-⟩:=hv
 refine ⟨g,rfl,?_⟩
 rw [h4 i (by omega),List.getElem?_map,List.getElem?_eq_getElem hi,List.getD_eq_getElem?_getD,List.getElem?_eq_getElem hi]
 rfl
theorem OwnW.sorted {w:World} {B d n:Nat} {b:Option Addr} {L:List (Nat×Nat)} {ls:Nat→List Int} (h:OwnW w B b d n L ls) {l:List (List Int)} {F:Nat→Nat} (hl:L.length=l.length) (he:∀ i,i < l.length→l.getD i []=ls i) (hF:∀ k,k < l.length→F k < l.length) {a:Option Addr} (hr:Rd w a (vF L n F l.length)):RdI w a (sortL l F):=by
 rcases hr with h0 | ⟨g,o,rfl,hg,hc⟩
 ·have:=congrArg List.length h0
  rw [vF_length] at this
  exact .inl (List.eq_nil_of_length_eq_zero (by rw [sortL_length]; exact this))
 ·refine .inr ⟨g,o,rfl,hg,fun i hi=>?_⟩
  rw [sortL_length] at hi
  have e:(sortL l F).getD i []=ls (F i):=by
   unfold sortL
   rw [List.getD_eq_getElem?_getD,List.getElem?_map,List.getElem?_range hi]
   exact he _ (hF i hi)
  have hFi:F i < L.length:=by rw [hl]; exact hF i hi
  refine ⟨some ⟨L[F i].1,0,none⟩,L[F i].2,?_,?_⟩
  ·rw [e,h.lens]
   refine hc i _ ?_
   unfold vF
   rw [List.getElem?_map,List.getElem?_range hi]
   simp only [Option.map_some]
   rw [List.getD_eq_getElem?_getD,List.getElem?_eq_getElem hFi]; rfl
  ·rw [e]
   exact (h.each (F i) hFi).rd
structure LisI (wi:World) (D n:Nat) (ls:Nat→List Int) (cnt:Nat) (X:World) (b:Option Addr) (d:Nat) (LL:List (Nat×Nat)):Prop where
 len:LL.length=cnt
 c6:X.heap[wi.heap.size]?=some (.cells #[.slice b cnt d] 26 (0,0))
 own:OwnW X (D + 3) b d n LL ls
 bel:Below wi.heap.size wi X
theorem LisI.kept {wi:World} {D n cnt:Nat} {ls:Nat→List Int} {X Y:World} {b:Option Addr} {d:Nat} {LL:List (Nat×Nat)} {r:Nat} (h:LisI wi D n ls cnt X b d LL) (hg:X.grownBy Y (some r)) (hr:D≤r∧r≤D + 2) (h0:wi.heap.size < D):LisI wi D n ls cnt Y b d LL:=by
 refine ⟨h.len,(hg.block _ (Array.getElem?_eq_some_iff.1 h.c6).1 (fun e=>by have:=Option.some.inj e; omega)).trans h.c6,h.own.kept hg (by omega),h.bel.trans ⟨hg.os,hg.tape,hg.output,hg.size,fun i hi=>hg.block i ?_ (fun e=>by have:=Option.some.inj e; omega)⟩⟩
 have:=h.bel.size
 omega
def inL (ps low high:List Int) (m:Nat):List (List Int):=insK (insB ps low high) ps.length m (numB ps.length m)
theorem insK_pre {pf:List Int→Bool} {n m:Nat}:∀ {j k:Nat},j≤k→∃ t,insK pf n m k=insK pf n m j ++ t
 | j,0,h=>⟨[],by rw [Nat.le_zero.1 h,List.append_nil]⟩
 | j,k + 1,h=>by
  rcases Nat.lt_or_ge k j with h1 | h1
  ·exact ⟨[],by rw [show j=k + 1 by omega,List.append_nil]⟩
  ·obtain ⟨t,e⟩:=insK_pre (pf:=pf) (n:=n) (m:=m) h1
   cases hp:pf (seqB n m k) with
   | true=>exact ⟨t ++ [seqB n m k],by rw [insK_yes hp,e,List.append_assoc]⟩
   | false=>exact ⟨t,by rw [insK_no hp,e]⟩
theorem insK_at {pf:List Int→Bool} {n m k N:Nat} (h:pf (seqB n m k)=true) (hk:k < N) (d:List Int):(insK pf n m N).getD (insK pf n m k).length d=seqB n m k:=by
 obtain ⟨t,e⟩:=insK_pre (pf:=pf) (n:=n) (m:=m) (j:=k + 1) (k:=N) hk
 rw [e,insK_yes h,List.getD_eq_getElem?_getD,List.getElem?_append_left (by simp),List.getElem?_append_right nr_,Nat.sub_self]
 rfl
def lsB (l:List (List Int)) (n m:Nat) (i:Nat):List Int:=l.getD i (startB n m)
theorem lsB_len {l:List (List Int)} {n m:Nat} (h:∀ x∈l,x.length=n) (i:Nat):(lsB l n m i).length=n:=by
 unfold lsB
 rw [List.getD_eq_getElem?_getD]
 cases he:l[i]? with
 | none=>simp [startB]
 | some x=>exact h x (List.mem_of_getElem? he)
theorem inBox_xs {m:Nat} (hm:m≤6) {x:List Int} (h:InBox m x):Xs x:=fun a ha=>by have:=h a ha; omega
def lisAct (bx:Value) (s b5 b6:Nat) (fv rf:Value) (n c d:Nat):Act :=
 { tmps := #[bx,.pointer (some ⟨s,0,none⟩),.pointer (some ⟨s + 1,0,none⟩),.pointer (some ⟨s + 1 + 1,0,none⟩),.int .i64 0,.pointer (some ⟨b5,0,none⟩),.pointer (some ⟨b6,0,none⟩),.slice (some ⟨c,0,none⟩) n d,undef,undef,undef,undef,undef,bx,.int .i64 0,.int .i64 0,.bool false,undef,bx,fv,bx,rf,.slice (some ⟨c,0,none⟩) n d,undef,undef,undef,undef,undef,undef,undef,undef,undef,undef,undef,undef,undef,undef,undef,undef,undef,undef,undef,undef,undef,undef,undef,undef,undef,undef,undef,undef,undef,undef,undef,undef,undef,undef,undef,undef,undef,undef,undef],defers:=[] }
theorem lis_boxes (w:World) (bx:Array Value) (y z:Value) (t u v:TypeId) (w0:World) (h:((w.alloc (.cells bx t)).alloc (.cells #[y] u)).alloc (.cells #[z] v)=w0) :
  w0.heap[w.heap.size]?=some (.cells bx t (0,0))∧w0.heap[w.heap.size + 1]?=some (.cells #[y] u (0,0))∧w0.heap[w.heap.size + 1 + 1]?=some (.cells #[z] v (0,0))∧Below w.heap.size w w0∧w0.heap.size=w.heap.size + 3:=by
 subst h
 refine ⟨heap_old (heap_old (heap_at w _ _ _ rfl) _) _,heap_old (heap_at _ _ _ _ (by simp)) _,heap_at _ _ _ _ (by simp),(((Below.refl _ w).alloc nr_ _).alloc (by simp) _).alloc (by simp; omega) _,by simp⟩
theorem lis_ret {X:World} {n₀ s1 s2:Nat} {x6 x7:Value} {t6 t7:TypeId} (v6 v7:Value) (c6:X.heap[s1]?=some (.cells #[x6] t6 (0,0))) (c7:X.heap[s2]?=some (.cells #[x7] t7 (0,0))) (hne:s1≠s2) (h1:n₀≤s1) (h2:n₀≤s2) :
  ((X.setCell ⟨s1,0,none⟩ v6).setCell ⟨s2,0,none⟩ v7).heap[s1]?=some (.cells #[v6] t6 (0,0))∧((X.setCell ⟨s1,0,none⟩ v6).setCell ⟨s2,0,none⟩ v7).heap[s2]?=some (.cells #[v7] t7 (0,0)) ∧
   (∀ i,i≠s1→i≠s2→((X.setCell ⟨s1,0,none⟩ v6).setCell ⟨s2,0,none⟩ v7).heap[i]?=X.heap[i]?)∧Below n₀ X ((X.setCell ⟨s1,0,none⟩ v6).setCell ⟨s2,0,none⟩ v7):=by
 have b6:Boxed X s1 t6 x6:=c6
 have b7:Boxed X s2 t7 x7:=c7
 refine ⟨(b6.set v6).kept (grownBy_setCell' _ _ _) (fun e=>hne (Option.some.inj e)),(b7.kept (grownBy_setCell' _ _ _) (fun e=>hne (Option.some.inj e).symm)).set v7,fun i h3 h4=>?_,((Below.refl _ X).setCell (p:=⟨s1,0,none⟩) h1 v6).setCell (p:=⟨s2,0,none⟩) h2 v7⟩
 rw [Below.heap_setCell _ _ _ i h4,Below.heap_setCell _ _ _ i h3]
def ListP (ps:List Int) (ll:List (List Int)) (w':World) (e:Ending):Prop :=
 (ll.length≤600∧∃ a c F,e = .returned (.tuple #[.slice a ll.length c,.int .i64 0])∧Fin' (cS ps (ll.map rq)) ll.length F∧RdI w' a (sortL ll F))∨(600 < ll.length∧e = .returned (.tuple #[.slice none 0 0,.int .i64 4]))
theorem ListP.ok {ps:List Int} {ll:List (List Int)} {w':World} {a:Option Addr} {c:Nat} {F:Nat→Nat} (h:ll.length≤600) (hF:Fin' (cS ps (ll.map rq)) ll.length F) (hr:RdI w' a (sortL ll F)):ListP ps ll w' (.returned (.tuple #[.slice a ll.length c,.int .i64 0])) := .inl ⟨h,a,c,F,rfl,hF,hr⟩
theorem ListP.big {ps:List Int} {ll:List (List Int)} {w':World} (h:600 < ll.length):ListP ps ll w' (.returned (.tuple #[.slice none 0 0,.int .i64 4])) := .inr ⟨h,rfl⟩
theorem list_any (w:World) (ps:List Int) (P:PrOk ps) (a0 a1 a2:Option Addr) (c0 c1 c2:Nat) (low high:List Int) (m:Nat) (hm:m≤6) (rp:Rd w a0 (ints ps)) (r1:Rd w a1 (ints low)) (r2:Rd w a2 (ints high)) (l1:low.length=ps.length) (l2:high.length=ps.length) (s1:Xs low) (s2:Xs high) (L:Laid w) :
  Calls Tryz.prog 13 #[.agg (boxV a0 ps.length c0 (m:Int) a1 ps.length c1 a2 ps.length c2)] w fun e w'=>Below w.heap.size w w'∧ListP ps (inL ps low high m) w' e:=by
 have hiv:Iv ps.length [low,high]:=fun z hz=>by
  simp only [List.mem_cons,List.not_mem_nil,or_false] at hz
  rcases hz with rfl | rfl
  ·exact ⟨l1,s1⟩
  ·exact ⟨l2,s2⟩
 have HC:Hid (∀ W,Below w.heap.size w W→Gives Tryz.prog 63 #[.agg (boxV a0 ps.length c0 (m:Int) a1 ps.length c1 a2 ps.length c2)] W (.int .i64 0)):=fun W hW=>by
  have:=icheck_any W a0 a1 a2 c0 c1 c2 ps low high m (rp.below hW nr_) P.i64 (by have:=P.n6; omega) (r1.below hW nr_) (r2.below hW nr_) (by have:=P.n6; omega) (by have:=P.n6; omega)
  unfold bcode at this
  rw [if_pos P.p0,if_neg (by omega),mgo_iv.2 hiv,l1,l2] at this
  exact this
 have HN:Hid (∀ W,Below w.heap.size w W→Calls Tryz.prog 64 #[.agg (boxV a0 ps.length c0 (m:Int) a1 ps.length c1 a2 ps.length c2)] W fun e w'=>∃ g1 g2,e = .returned (.func (.func 116) #[] #[.pointer (some ⟨g1,0,none⟩),.pointer (some ⟨g2,0,none⟩)])∧InsAt w' ps low high a0 c0 g1 g2∧Below W.heap.size W w'):=fun W hW =>
  inside_any W ps P a0 a1 a2 c0 c1 c2 low high m (rp.below hW nr_) (r1.below hW nr_) (r2.below hW nr_) l1 l2 s1 s2 (L.below hW)
 unfold boxV at *
 refine (callsIn_wide (n:=3)).1 ?_
 refine callsIn_of_wp_marks Tryz.func13 rfl trivial ?_ rfl
 simp only [Tryz.ntmps13,List.size_toArray,List.length_cons,List.length_nil,Nat.reduceAdd,Nat.reduceSub,Array.replicate_succ,Array.replicate_zero,List.push_toArray,List.append_toArray,List.nil_append,List.cons_append]
 gi_wp2_with fail
 obtain ⟨w0,hw0⟩:∃ w0,((w.alloc (.cells #[.slice a0 ps.length c0,.int .i64 (m:Int),.slice a1 ps.length c1,.slice a2 ps.length c2] 32)).alloc (.cells #[.slice none 0 0] 26)).alloc (.cells #[.int .i64 0] 27)=w0:=⟨_,rfl⟩
 obtain ⟨P1,P2,P3,B0,hs⟩:=lis_boxes w _ _ _ _ _ _ w0 hw0
 rw [hw0]
 clear hw0
 refine ⟨trivial,?_⟩
 refine (callsIn_wide.2 (HC.out _ B0)).mono ?_
 rintro e w1 ⟨rfl,hb⟩
 have B1:=hd_ (B0.trans (hb.mono B0.size))
 have hs1:Hid (w.heap.size + 3≤w1.heap.size):=by show _≤_; have:=hb.size; omega
 have P1:=hd_ (heap_kept P1 hb nr_)
 have P2:=hd_ (heap_kept P2 hb nr_)
 have P3:=hd_ (heap_kept P3 hb nr_)
 obtain ⟨k0,k1,k2,k3⟩:=four_cells P1.out
 clear hb B0 HC hs
 gi_wp2_with fail
 refine ⟨trivial,?_⟩
 refine (callsIn_wide.2 (HN.out _ B1.out)).mono ?_
 rintro e w2 ⟨g1,g2,rfl,hI,hb⟩
 clear k0 k1 k2 k3
 have B2:=hd_ (B1.out.trans (hb.mono B1.out.size))
 have hs2:Hid (w.heap.size + 3≤w2.heap.size):=by show _≤_; have:=hb.size; have:=hs1.out; omega
 have P1:=hd_ (heap_kept P1.out hb nr_)
 have P2:=hd_ (heap_kept P2.out hb nr_)
 have P3:=hd_ (heap_kept P3.out hb nr_)
 have I2:=hd_ hI
 obtain ⟨wi,hwi⟩:∃ wi,w2.alloc (.cells #[.func (.func 116) #[] #[.pointer (some ⟨g1,0,none⟩),.pointer (some ⟨g2,0,none⟩)]] 78)=wi:=⟨_,rfl⟩
 have P1i:=heap_old (heap_old P1.out (.cells #[.func (.func 116) #[] #[.pointer (some ⟨g1,0,none⟩),.pointer (some ⟨g2,0,none⟩)]] 78)) (.cells #[.slice none 0 0] 26)
 rw [hwi] at P1i
 obtain ⟨k0,k1,k2,k3⟩:=four_cells P1i
 clear hb hI HN hs1 B1
 gi_wp2_with fail
 have H1:Hid (∀ X (c d k:Nat),Below wi.heap.size wi X→Rd X (some ⟨c,0,none⟩) (ints (seqB ps.length m k))→Gives Tryz.prog 116 #[.slice (some ⟨c,0,none⟩) ps.length d,.pointer (some ⟨g1,0,none⟩),.pointer (some ⟨g2,0,none⟩)] X (.bool (insB ps low high (seqB ps.length m k)))):=fun X c d k hX hr=>by
  have hbi:Below w2.heap.size w2 wi:=by rw [← hwi]; exact (Below.refl _ _).alloc nr_ _
  exact inside1_any X ps P a0 _ c0 d g1 g2 low high _ ((I2.out.below hbi).below hX) hr (seqB_length _ _ _) l1 l2 (inBox_xs hm (seqB_box (Int.natCast_nonneg m) _ _)) s1 s2 (L.below ((B2.out.trans (hbi.mono B2.out.size)).trans (hX.mono (by have:=B2.out.size; have:=hbi.size; omega))))
 have hsi:wi.heap.size=w2.heap.size + 1:=by rw [← hwi]; exact World.size_alloc _ _
 have hsa:wi.heap.size≤w2.heap.size + 1:=Nat.le_of_eq hsi
 have hsb:w2.heap.size + 1≤wi.heap.size:=Nat.le_of_eq hsi.symm
 clear hsi
 have hbi:Below w2.heap.size w2 wi:=by rw [← hwi]; exact (Below.refl _ _).alloc nr_ _
 have Bi:=hd_ (B2.out.trans (hbi.mono B2.out.size))
 have P5i:wi.heap[w2.heap.size]?=some (.cells #[.func (.func 116) #[] #[.pointer (some ⟨g1,0,none⟩),.pointer (some ⟨g2,0,none⟩)]] 78 (0,0)):=by rw [← hwi]; exact heap_at w2 _ _ _ rfl
 have P1w:=heap_kept P1.out hbi nr_
 have P2w:=heap_kept P2.out hbi nr_
 have P3w:=heap_kept P3.out hbi nr_
 have hs2':=hs2.out
 have Hwi:=hd_ hwi
 clear hwi k0 k1 k2 k3 P1i P1 P2 P3 hs2
 refine ⟨trivial,?_⟩
 refine (callsIn_wide.2 (rowsF_any _ a0 c0 ps.length m a1 a2 ps.length c1 ps.length c2)).mono ?_
 rintro e ws ⟨rfl,hws⟩
 simp only [World.size_alloc] at hws ⊢
 gi_wp2_with fail
 obtain ⟨D,hD⟩:∃ D,ws.heap.size=D:=⟨_,rfl⟩
 have hDs:D=wi.heap.size + 2:=by rw [← hD,hws]; simp
 have P6:ws.heap[wi.heap.size]?=some (.cells #[.slice none 0 0] 26 (0,0)):=by rw [hws]; exact heap_old (heap_at wi _ _ _ rfl) _
 have hbp:ws.heap[wi.heap.size + 1]?=some (.cells (boxV a0 ps.length c0 (m:Int) a1 ps.length c1 a2 ps.length c2) 32 (0,0)):=by rw [hws]; exact heap_at _ _ _ _ (by simp)
 have G:Below wi.heap.size wi ws:=by rw [hws]; exact ((Below.refl _ wi).alloc nr_ _).alloc (by simp) _
 have Bs:Below w.heap.size w ws:=Bi.out.trans (G.mono Bi.out.size)
 have hn6:=P.n6
 have hn0:=P.n0
 have hl:∀ x∈inL ps low high m,x.length=ps.length:=fun x hx=>(insK_each x hx).1
 have H0:LisI wi D ps.length (lsB (inL ps low high m) ps.length m) 0 ws none 0 []:=⟨rfl,P6,OwnW.nil _ _ _ _ (lsB_len hl),G⟩
 refine range_rows (n:=3) (by decide) ps.length m a0 c0 (by omega) hn0 hm a1 a2 ps.length c1 ps.length c2 w ws Bs (wi.heap.size + 1) hbp rfl
  (fun k X=>(insK (insB ps low high) ps.length m k).length≤600∧∃ b d LL,LisI wi D ps.length (lsB (inL ps low high m) ps.length m) (insK (insB ps low high) ps.length m k).length X b d LL)
  (fun c X=>c = .ret∧600 < (inL ps low high m).length∧X.heap[w.heap.size + 1]?=some (.cells #[.slice none 0 0] 26 (0,0))∧X.heap[w.heap.size + 1 + 1]?=some (.cells #[.int .i64 4] 27 (0,0))∧Below w.heap.size w X)
  ?hI ?hIx ⟨Nat.zero_le _,none,0,[],H0⟩ (lisAct (.agg #[.slice a0 ps.length c0,.int .i64 (m:Int),.slice a1 ps.length c1,.slice a2 ps.length c2]) w.heap.size w2.heap.size wi.heap.size (.func (.func 116) #[] #[.pointer (some ⟨g1,0,none⟩),.pointer (some ⟨g2,0,none⟩)]) (.func (.func 117) #[] #[.pointer (some ⟨wi.heap.size + 1,0,none⟩)]) ps.length) ?assign ?body ?stop ?done
 case hI =>
  rintro k A B r ⟨hk,b,d,LL,H⟩ hg hr
  rw [hD] at hr
  exact ⟨hk,b,d,LL,H.kept hg hr (by omega)⟩
 case hIx =>
  rintro c A B r ⟨hc,hh,g6,g7,gb⟩ hg hr
  rw [hD] at hr
  refine ⟨hc,hh,(hg.block _ (Array.getElem?_eq_some_iff.1 g6).1 (fun e=>by have:=Option.some.inj e; omega)).trans g6,(hg.block _ (Array.getElem?_eq_some_iff.1 g7).1 (fun e=>by have:=Option.some.inj e; omega)).trans g7,gb.trans ⟨hg.os,hg.tape,hg.output,hg.size,fun i hi=>hg.block i ?_ (fun e=>by have:=Option.some.inj e; omega)⟩⟩
  have:=gb.size
  omega
 case assign =>
  intro c d W K hK
  unfold lisAct at hK
  gi_wp2
  exact hK
 case body =>
  rintro k X c d hkN ⟨hk600,b,e,LL,H⟩ hbX hsX hO
  rw [hD] at hsX hO ⊢
  have hDs':=Nat.le_of_eq hDs.symm
  have hwl:=Nat.lt_of_lt_of_le (show wi.heap.size < D by omega) (Nat.le_of_lt (Nat.lt_trans (Nat.lt_add_of_pos_right (by decide:0 < 2)) hsX))
  obtain ⟨k5,f5⟩:=one_cell (heap_kept P5i H.bel nr_)
  obtain ⟨k6,f6⟩:=one_cell H.c6
  have X2:=hd_ (heap_kept P2w H.bel nr_)
  have X3:=hd_ (heap_kept P3w H.bel nr_)
  obtain ⟨k2,f2⟩:=one_cell X2.out
  obtain ⟨k3,f3⟩:=one_cell X3.out
  have HH:=hd_ H
  have HO:=hd_ hO
  have HBX:=hd_ hbX
  have Hc:=hd_ (H1.out X c d k H.bel hO.rd)
  have HkN:=hd_ hkN
  unfold lisAct
  clear hbp P1w P2w P3w P5i P6 G Bs H0 rp r1 r2 L hws H hO hbX hDs I2 Hwi hbi hl hkN f5
  cases hp:insB ps low high (seqB ps.length m k) with
  | false =>
   have Hn:Hid (insK (insB ps low high) ps.length m (k + 1)=insK (insB ps low high) ps.length m k):=insK_no hp
   rw [hp] at Hc
   clear hp
   gi_wp2_with fail
   refine ⟨trivial,?_⟩
   refine (CallsIn.inRound _ (callsIn_wide.2 Hc.out)).mono ?_
   rintro e_ W1 ⟨rfl,hb1⟩
   have hB:=hd_ hb1
   clear hb1 Hc k5 k6 k2 k3 f6 f2 f3
   gi_wp2_with fail
   have hb1:=hB.out
   have hXs:=hsX
   show _∧_
   refine ⟨?_,KpC.of hb1 HBX.out.size (fun i hi=>?_)⟩
   ·show _∧_
    rw [Hn.out]
    exact ⟨hk600,b,e,LL,HH.out.len,(hb1.block _ (by omega)).trans HH.out.c6,HH.out.own.below hb1 nr_,HH.out.bel.trans (hb1.mono HH.out.bel.size)⟩
   ·simp only [List.mem_cons,List.not_mem_nil,or_false] at hi
    omega
  | true =>
   have Hn:Hid (insK (insB ps low high) ps.length m (k + 1)=insK (insB ps low high) ps.length m k ++ [seqB ps.length m k]):=insK_yes hp
   have Hls:Hid (lsB (inL ps low high m) ps.length m LL.length=seqB ps.length m k):=by
    show _=_
    rw [HH.out.len]
    exact insK_at hp HkN.out _
   have Hlen:Hid ((insK (insB ps low high) ps.length m (k + 1)).length=(insK (insB ps low high) ps.length m k).length + 1):=by show _=_; rw [Hn.out,List.length_append]; rfl
   have Hle:Hid ((insK (insB ps low high) ps.length m (k + 1)).length≤(inL ps low high m).length):=insK_le HkN.out
   rw [hp] at Hc
   clear hp Hn
   have HLL:=hd_ HH.out.len
   generalize insK (insB ps low high) ps.length m k=lk at *
   generalize seqB ps.length m k=row at *
   gi_wp2_with fail
   refine ⟨trivial,?_⟩
   refine (CallsIn.inRound _ (callsIn_wide.2 Hc.out)).mono ?_
   rintro e_ W1 ⟨rfl,hb1⟩
   have hB:=hd_ hb1
   have H1':LisI wi D ps.length (lsB (inL ps low high m) ps.length m) lk.length W1 b e LL:=⟨HH.out.len,(hb1.block _ (by omega)).trans HH.out.c6,HH.out.own.below hb1 nr_,HH.out.bel.trans (hb1.mono HH.out.bel.size)⟩
   have HO1:=hd_ (HO.out.below hb1 nr_)
   have X2':=hd_ (heap_kept X2.out hb1 nr_)
   have X3':=hd_ (heap_kept X3.out hb1 nr_)
   have hsz:D + 3≤W1.heap.size:=by have:=hb1.size; omega
   clear hb1 Hc k5 k6 k2 k3 f6 f2 f3 X2 X3 HO
   obtain ⟨k6,f6⟩:=one_cell H1'.c6
   obtain ⟨k2,f2⟩:=one_cell X2'.out
   obtain ⟨k3,f3⟩:=one_cell X3'.out
   have HH1:=hd_ H1'
   have Ow:Hid (W1.ownsRow (D + 3) 25 1 (.slice b lk.length e) lk.length (LL.map fun x => .slice (some ⟨x.1,0,none⟩) ps.length x.2)):=by
    have:=H1'.own.row
    rw [H1'.len] at this
    exact this
   clear H1' HH
   gi_wp2_with (gi_at_builtin; refine wpListIn_append_row rfl (.tmp 27) (.tmp 29) 26 rfl elRw _ (.slice (some ⟨c,0,none⟩) ps.length d) rfl rfl Ow.out hsz rfl (by omega) (by omega) ?_)
   intro v' w3 hown' hg' hat'
   have hll:=HLL.out
   rw [← hll] at hown' hg'
   obtain ⟨b',d',rfl,OR⟩:=OwnW.put (w1:=W1) HH1.out.own (by rw [Hls.out]; exact HO1.out) hown' hg'
   have hA:∀ i,i < W1.heap.size→(W1.alloc (.cells #[.slice (some ⟨c,0,none⟩) ps.length d] 25)).heap[i]?=W1.heap[i]?:=fun i hi=>Below.heap_alloc W1 _ i hi
   have hsA:(W1.alloc (.cells #[.slice (some ⟨c,0,none⟩) ps.length d] 25)).heap.size=W1.heap.size + 1:=World.size_alloc _ _
   have hk3:∀ i,i < D + 3→w3.heap[i]?=W1.heap[i]?:=fun i hi=>(hg'.block i (by omega) (fun e=>by have:=(HH1.out.own.row.lt i e.symm).1; omega)).trans (hA i (by omega))
   have hkX:∀ i,i < D + 3→w3.heap[i]?=X.heap[i]?:=fun i hi=>(hk3 i hi).trans (hB.out.block i (by omega))
   have hs3:W1.heap.size + 1≤w3.heap.size:=by have:=hg'.size; omega
   have hb3:Below wi.heap.size W1 w3:=⟨hg'.os,hg'.tape,hg'.output,by omega,fun i hi=>hk3 i (by omega)⟩
   have P6':=(hk3 wi.heap.size (by omega)).trans HH1.out.c6
   have Y2':=(hk3 (w.heap.size + 1) (by omega)).trans X2'.out
   have Y3':=(hk3 (w.heap.size + 1 + 1) (by omega)).trans X3'.out
   obtain ⟨k6',f6'⟩:=one_cell P6'
   have HOR:=hd_ OR
   have HKX:=hd_ hkX
   have HB3:=hd_ hb3
   have HP6:=hd_ P6'
   have HS3:=hd_ hs3
   have Z2:Hid ((w3.setCell ⟨wi.heap.size,0,none⟩ (.slice b' (LL.length + 1) d')).heap[w.heap.size + 1]?=some (.cells #[.slice none 0 0] 26 (0,0))):=(Below.heap_setCell _ _ _ _ (show w.heap.size + 1≠wi.heap.size by omega)).trans Y2'
   have Z3:Hid ((w3.setCell ⟨wi.heap.size,0,none⟩ (.slice b' (LL.length + 1) d')).heap[w.heap.size + 1 + 1]?=some (.cells #[.int .i64 0] 27 (0,0))):=(Below.heap_setCell _ _ _ _ (show w.heap.size + 1 + 1≠wi.heap.size by omega)).trans Y3'
   obtain ⟨k2',f2'⟩:=one_cell Z2.out
   obtain ⟨k3',f3'⟩:=one_cell Z3.out
   clear hown' hg' hat' hA hsA hk3 hkX hs3 hb3 OR Ow k6 f6 k2 f2 k3 f3 P6' Y2' Y3' hll
   have hl600:LL.length≤600:=by rw [HLL.out]; exact hk600
   have hX0:=hd_ HBX.out.size
   by_cases hbig:600≤LL.length
   ·have hbig':(600:Int) < (LL.length:Int) + 1:=by omega
    gi_wp2_with fail
    obtain ⟨y6,y7,yo,yb⟩:=lis_ret (X:=w3.setCell ⟨wi.heap.size,0,none⟩ (.slice b' (LL.length + 1) d')) (n₀:=w.heap.size) (.slice none 0 0) (.int .i64 4) Z2.out Z3.out (by omega) (by omega) (by omega)
    have hset:∀ i,i < D + 3→i≠wi.heap.size→(w3.setCell ⟨wi.heap.size,0,none⟩ (.slice b' (LL.length + 1) d')).heap[i]?=X.heap[i]?:=fun i hi hne=>(Below.heap_setCell _ _ _ i hne).trans (HKX.out i hi)
    have hws:=hX0.out
    have hb4:Below w.heap.size X (w3.setCell ⟨wi.heap.size,0,none⟩ (.slice b' (LL.length + 1) d')):=((hB.out.mono hws).trans (HB3.out.mono (by omega))).setCell (p:=⟨wi.heap.size,0,none⟩) (by show _≤wi.heap.size; omega) _
    have hbig2:600 < (inL ps low high m).length:=by have h1:=Hle.out; rw [Hlen.out,← HLL.out] at h1; omega
    show _∧_
    refine ⟨⟨rfl,hbig2,y6,y7,HBX.out.trans (hb4.trans yb)⟩,⟨hb4.trans yb,fun i hi=>?_⟩⟩
    simp only [List.mem_cons,List.not_mem_nil,or_false] at hi
    exact (yo i (by omega) (by omega)).trans (hset i (by omega) (by omega))
   ·have hbig':¬ (600:Int) < (LL.length:Int) + 1:=by omega
    gi_wp2_with fail
    have hset:∀ i,i < D + 3→i≠wi.heap.size→(w3.setCell ⟨wi.heap.size,0,none⟩ (.slice b' (LL.length + 1) d')).heap[i]?=X.heap[i]?:=fun i hi hne=>(Below.heap_setCell _ _ _ i hne).trans (HKX.out i hi)
    have hws:=hX0.out
    have hb4:Below w.heap.size X (w3.setCell ⟨wi.heap.size,0,none⟩ (.slice b' (LL.length + 1) d')):=((hB.out.mono hws).trans (HB3.out.mono (by omega))).setCell (p:=⟨wi.heap.size,0,none⟩) (by show _≤wi.heap.size; omega) _
    have hc6:(w3.setCell ⟨wi.heap.size,0,none⟩ (.slice b' (LL.length + 1) d')).heap[wi.heap.size]?=some (.cells #[.slice b' (LL.length + 1) d'] 26 (0,0)):=Boxed.set (t:=26) _ HP6.out
    have hll:=HLL.out
    show _∧_
    refine ⟨?_,⟨hb4,fun i hi=>?_⟩⟩
    ·show _∧_
     rw [Hlen.out,← hll]
     exact ⟨by omega,b',d',LL ++ [(c,d)],by simp,hc6,HOR.out.kept (grownBy_setCell' _ _ _) (by omega),(HH1.out.bel.trans HB3.out).setCell (p:=⟨wi.heap.size,0,none⟩) nr_ _⟩
    ·simp only [List.mem_cons,List.not_mem_nil,or_false] at hi
     exact hset i (by omega) (by omega)
 case stop =>
  rintro c X ⟨rfl,hh,g6,g7,gb⟩ hK
  clear hbp P1w P2w P3w P5i P6 G Bs H0 rp r1 r2 L hws I2 Hwi hbi hl H1
  gi_wp2_with fail
  have hbs:=gb.size
  obtain ⟨z6,-⟩:=one_cell g6
  obtain ⟨z7,-⟩:=one_cell g7
  have gY:=grownBy_putObj' X ws.heap.size (.deferred none)
  have e6:=(World.cell?_of_block (w:=X) (gY.block (w.heap.size + 1) (Array.getElem?_eq_some_iff.1 g6).1 (fun e=>by have:=Option.some.inj e; omega)) (a:=⟨w.heap.size + 1,0,none⟩)).trans z6
  have e7:=(World.cell?_of_block (w:=X) (gY.block (w.heap.size + 1 + 1) (Array.getElem?_eq_some_iff.1 g7).1 (fun e=>by have:=Option.some.inj e; omega)) (a:=⟨w.heap.size + 1 + 1,0,none⟩)).trans z7
  refine ⟨by simp,.inl ⟨_,_,rfl,run_takeDeferred hK,?_⟩⟩
  have hbY:Below w.heap.size w (X.putObj ws.heap.size (.deferred none)):=gb.trans ⟨gY.os,gY.tape,gY.output,gY.size,fun i hi=>gY.block i (by omega) (fun e=>by have:=Option.some.inj e; omega)⟩
  refine ⟨.tuple #[.slice none 0 0,.int .i64 4],?_,hbY,ListP.big hh⟩
  simp [results,Tryz.results13,go_sem,e6,e7]
 case done =>
  rintro X ⟨hk600,b,e,LL,H⟩ hK
  rw [hD] at hK
  have hbel:=hd_ H.bel
  have hBX:=hd_ (Bi.out.trans (H.bel.mono Bi.out.size))
  have X1:=hd_ (heap_kept P1w H.bel nr_)
  have X2:=hd_ (heap_kept P2w H.bel nr_)
  have X3:=hd_ (heap_kept P3w H.bel nr_)
  have X6:=hd_ H.c6
  obtain ⟨k0,k1,k2,k3⟩:=four_cells X1.out
  obtain ⟨k6,f6⟩:=one_cell H.c6
  have q0:=BW.cell k0
  have q6:=BW.cell k6
  have hnon:Nonempty (BW X):=⟨⟨X,Below.refl _ _⟩⟩
  have I:Hid (Below X.heap.size X X.drew):=(Below.refl _ _).drew
  have Hrdi:Hid (RdI X b (inL ps low high m)):=H.own.rdi (l:=inL ps low high m) H.len.symm fun i hi=>by
   unfold lsB
   rw [List.getD_eq_getElem?_getD,List.getD_eq_getElem?_getD,List.getElem?_eq_getElem hi]; rfl
  have hiv2:Iv ps.length (inL ps low high m):=fun x hx=>⟨(insK_each x hx).1,inBox_xs hm (insK_each x hx).2.1⟩
  have HSz:Hid (∀ W,Below X.heap.size X W→Calls Tryz.prog 67 #[.slice a0 ps.length c0,.slice b (inL ps low high m).length e] W fun e w'=>∃ b d LL,e = .returned (.slice b (inL ps low high m).length d)∧OwnL w' W.heap.size b d ps.length LL ((inL ps low high m).map rq)∧Below W.heap.size W w'):=fun W hW=>by
   have hXW:=hBX.out.trans (hW.mono hBX.out.size)
   exact isizes_ok W ps P a0 b c0 e (inL ps low high m) (rp.below hXW nr_) (Hrdi.out.below hW nr_) (by have:(inL ps low high m).length≤600:=hk600; omega) hiv2 (L.below hXW)
  have HSo:Hid (∀ W b d,Below X.heap.size X W→RdL W b (((inL ps low high m).map rq).map (List.map qs))→Calls Tryz.prog 66 #[.slice a0 ps.length c0,.slice b (inL ps low high m).length d] W fun e w'=>∃ a c F,e = .returned (.tuple #[.slice a (inL ps low high m).length c,.int .i64 0])∧Fin' (cS ps ((inL ps low high m).map rq)) (inL ps low high m).length F∧Rd w' a (ints ((List.range (inL ps low high m).length).map fun (k:Nat)=>((F k:Nat):Int)))∧Below W.heap.size W w'):=fun W b d hW hrb=>by
   have hXW:=hBX.out.trans (hW.mono hBX.out.size)
   have:=SortG_ok W ps a0 b c0 d ((inL ps low high m).map rq) (rp.below hXW nr_) hrb (sortOk_iv P hiv2) (by rw [List.length_map]; have:(inL ps low high m).length≤600:=hk600; omega) (L.below hXW)
   rw [List.length_map] at this
   exact this
  have hk600':(inL ps low high m).length≤600:=hk600
  have HOW:=hd_ H.own
  have Hlen:Hid (LL.length=(inL ps low high m).length):=H.len
  have Hls:Hid (∀ i,i < (inL ps low high m).length→(inL ps low high m).getD i []=lsB (inL ps low high m) ps.length m i):=fun i hi=>by
   unfold lsB
   rw [List.getD_eq_getElem?_getD,List.getD_eq_getElem?_getD,List.getElem?_eq_getElem hi]; rfl
  have hsX:=H.bel.size
  have hKX:=(Array.getElem?_eq_some_iff.1 hK).1
  have HK:=hd_ hK
  have X6':X.heap[wi.heap.size]?=some (.cells #[.slice b (inL ps low high m).length e] 26 (0,0)):=H.c6
  have hDge:wi.heap.size + 2≤D:=by omega
  have HD2:=hd_ hD
  clear hk600 hbp P1w P2w P3w P5i P6 G Bs H0 rp r1 r2 L hws I2 Hwi hbi hl H1 H k1 k2 k3 f6 hiv2 hK X6 Hrdi k6 q6 hDs
  have X6:=hd_ X6'
  obtain ⟨k6,f6⟩:=one_cell X6'
  have q6:=BW.cell k6
  clear X6' f6
  generalize hll:inL ps low high m=ll at *
  have Hll:Hid (inL ps low high m=ll):=hll
  clear hll
  generalize lsB ll ps.length m=ls at *
  gi_wp2_with fail
  clear k0 k6
  refine wpIn_wide.2 ?_
  refine RY.wp_region_readers 6 [(1,0),(1,1),(1,2),(1,3),(1,4),(0,5),(0,6),(0,7),(2,8),(2,9),(0,10),(0,11)] (fun w'=>∃ p:BW X,w'=p.w) (by kernel_rfl) (by kernel_rfl) ?_ ?_
  ·exact ⟨⟨_,I.out⟩,rfl⟩
  iterate 5 (refine RY.walkR_read ?_; simp only [dsc_,dz_,tsc_,tz_]; go_big_quiet_step (fail); refine wpQuiet_nil ?_)
  clear hnon q0 q6
  refine RY.walkR_move ?_
  simp only [dsc_,dz_,tsc_,tz_]
  go_wp2_with fail
  refine cm_ (HSz.out _ I.out) ?_
  rintro e_ W1 ⟨bs,ds,LS,rfl,ho_,hb_⟩
  have R1:=hd_ ho_.rdl
  have D1:Hid (Below X.heap.size X W1):=I.out.trans (hb_.mono I.out.size)
  clear ho_ hb_ I HSz
  go_wp2_with fail
  refine ⟨⟨⟨_,D1.out⟩,rfl⟩,?_⟩
  refine RY.walkR_move ?_
  simp only [dsc_,dz_,tsc_,tz_]
  go_wp2_with fail
  refine cm_ (HSo.out _ _ _ D1.out R1.out) ?_
  rintro e_ W2 ⟨ao,co,F,rfl,hF,hr_,hb_⟩
  have HF:=hd_ hF
  have R2:=hd_ hr_
  have D2:Hid (Below X.heap.size X W2):=D1.out.trans (hb_.mono D1.out.size)
  clear hb_ hr_ hF HSo D1 R1
  go_wp2_with fail
  refine RY.walkR_move ?_
  simp only [dsc_,dz_,tsc_,tz_]
  go_wp2_with fail
  iterate 2 (refine RY.walkR_any ?_; simp only [dsc_,dz_,tsc_,tz_]; go_big_quiet_step (fail); refine wpQuiet_nil ?_)
  iterate 2 (refine RY.walkR_move ?_; simp only [dsc_,dz_,tsc_,tz_]; go_wp2_with fail)
  simp only [RY.walkR]
  have Y2:=hd_ (heap_kept X2.out D2.out nr_)
  have Y3:=hd_ (heap_kept X3.out D2.out nr_)
  have Y6:=hd_ (heap_kept X6.out D2.out nr_)
  have YK:=hd_ (heap_kept HK.out D2.out nr_)
  have OW2:=hd_ (HOW.out.below D2.out nr_)
  have BX2:=hd_ (hBX.out.trans (D2.out.mono hBX.out.size))
  have hsW2:=D2.out.size
  clear X1 X2 X3 X6 HK HOW hBX hbel
  have Hlt:=hd_ HF.out.lt
  generalize hmm:ll.length=cnt at *
  have Hmm:=hd_ hmm
  clear hmm
  gi_wp2_with fail
  gi_loopw [10,49] (fun o i wr=>∃ (k:Nat) (b9:Option Addr) (d9:Nat),k≤cnt∧i = .int .i64 k∧o = .slice b9 k d9∧Hid (wr.ownsRow W2.heap.size 25 1 (.slice b9 k d9) k (vF LL ps.length F k))∧Hid (Below W2.heap.size W2 wr)) (fun _ i _=>cnt - (intOf i).toNat)
  case atStart=>exact ⟨0,none,0,Nat.zero_le _,rfl,rfl,World.ownsRow_nil ..,Below.refl _ _⟩
  case round =>
   obtain ⟨k,b9,d9,hk,rfl,rfl,HR,HB⟩:=hrel
   by_cases hlt:k < cnt
   ·have hlt':(k:Int) < cnt:=by omega
    have hFk:=Hlt.out k hlt
    have hFk':((F k:Nat):Int) < cnt:=by omega
    obtain ⟨gb,rfl,kb⟩:=OW2.out.cellAt (i:=F k) (by rw [Hlen.out]; exact hFk)
    obtain ⟨go,oo,rfl,hgl,kc⟩:=R2.out.open (by rw [ints_length,List.length_map,List.length_range]; omega)
    have ko:=kc k (.int .i64 (F k:Nat)) (by
     unfold ints
     rw [List.getElem?_map,List.getElem?_map,List.getElem?_range hlt]; rfl)
    have ko':=(HB.out.cell (p:=⟨go,oo + k,none⟩) hgl).trans ko
    have kb':=(HB.out.cell (p:=⟨gb,F k,none⟩) (World.block_lt_of_cell? _ _ kb)).trans kb
    have k6':=(one_cell (heap_kept Y6.out HB.out nr_)).1
    have Hsucc:=hd_ (vF_succ LL ps.length F k)
    clear ko kb kc
    generalize (LL.getD (F k) (0,0)).1=x1 at *
    generalize (LL.getD (F k) (0,0)).2=x2 at *
    generalize F k=fk at *
    gi_wp2_with (gi_at_builtin; refine wpListIn_append_row rfl (.tmp 53) (.tmp 58) 26 rfl elRw _ (.slice (some ⟨x1,0,none⟩) ps.length x2) rfl rfl HR.out HB.out.size rfl (by omega) (by omega) ?_)
    intro v' w3 hown3 hg3 _
    obtain ⟨a3,c3,rfl⟩:=own_form hown3
    have HB3:Hid (Below W2.heap.size W2 w3):=(HB.out.alloc HB.out.size _).grown hg3 (by have:=HB.out.size; simp; omega) (fun k hk=>(HR.out.lt k hk).1)
    have HR3:Hid (w3.ownsRow W2.heap.size 25 1 (.slice a3 (k + 1) c3) (k + 1) (vF LL ps.length F (k + 1))):=by
     rw [Hsucc.out]
     exact hown3
    clear hown3 hg3 HR HB ko' kb' k6' Hsucc
    gi_wp2
    go_roundw
    case rel=>exact ⟨k + 1,a3,c3,by omega,by go_num,rfl,HR3,HB3⟩
    case measure=>simp [intOf]; omega
   ·have hlt':¬ (k:Int) < cnt:=by omega
    obtain rfl:k=cnt:=by omega
    have V2:=hd_ (heap_kept Y2.out HB.out nr_)
    have V3:=hd_ (heap_kept Y3.out HB.out nr_)
    have VK:=hd_ (heap_kept YK.out HB.out nr_)
    obtain ⟨z2,f2⟩:=one_cell V2.out
    obtain ⟨z3,f3⟩:=one_cell V3.out
    gi_wp2_with fail
    obtain ⟨y6,y7,yo,yb⟩:=lis_ret (X:=wr) (n₀:=w.heap.size) (.slice b9 k d9) (.int .i64 0) V2.out V3.out (by omega) (by omega) (by omega)
    have hKy:=(yo D (by omega) (by omega)).trans VK.out
    obtain ⟨z6,-⟩:=one_cell y6
    obtain ⟨z7,-⟩:=one_cell y7
    have hBw:=HB.out.size
    have OY:OwnW ((wr.setCell ⟨w.heap.size + 1,0,none⟩ (.slice b9 k d9)).setCell ⟨w.heap.size + 1 + 1,0,none⟩ (.int .i64 0)) (D + 3) b e ps.length LL ls:=((OW2.out.below HB.out nr_).kept (grownBy_setCell' wr (w.heap.size + 1) (.slice b9 k d9)) (by omega)).kept (grownBy_setCell' _ (w.heap.size + 1 + 1) (.int .i64 0)) (by omega)
    have RY:((wr.setCell ⟨w.heap.size + 1,0,none⟩ (.slice b9 k d9)).setCell ⟨w.heap.size + 1 + 1,0,none⟩ (.int .i64 0)).ownsRow W2.heap.size 25 1 (.slice b9 k d9) k (vF LL ps.length F k) :=
     World.ownsRow.kept (World.ownsRow.kept HR.out (grownBy_setCell' wr (w.heap.size + 1) (.slice b9 k d9)) (.inr fun e=>by have:=(HR.out.lt _ e).1; omega)) (grownBy_setCell' _ (w.heap.size + 1 + 1) (.int .i64 0)) (.inr fun e=>by have:=(HR.out.lt _ e).1; omega)
    have hbY0:Below w.heap.size w ((wr.setCell ⟨w.heap.size + 1,0,none⟩ (.slice b9 k d9)).setCell ⟨w.heap.size + 1 + 1,0,none⟩ (.int .i64 0)):=(BX2.out.trans (HB.out.mono BX2.out.size)).trans yb
    have hsY:wr.heap.size≤((wr.setCell ⟨w.heap.size + 1,0,none⟩ (.slice b9 k d9)).setCell ⟨w.heap.size + 1 + 1,0,none⟩ (.int .i64 0)).heap.size:=yb.size
    generalize (wr.setCell ⟨w.heap.size + 1,0,none⟩ (.slice b9 k d9)).setCell ⟨w.heap.size + 1 + 1,0,none⟩ (.int .i64 0)=Y at *
    have gY:=grownBy_putObj' Y D (.deferred none)
    have g6:=(World.cell?_of_block (w:=Y) (gY.block (w.heap.size + 1) (Array.getElem?_eq_some_iff.1 y6).1 (fun e=>by have:=Option.some.inj e; omega)) (a:=⟨w.heap.size + 1,0,none⟩)).trans z6
    have g7:=(World.cell?_of_block (w:=Y) (gY.block (w.heap.size + 1 + 1) (Array.getElem?_eq_some_iff.1 y7).1 (fun e=>by have:=Option.some.inj e; omega)) (a:=⟨w.heap.size + 1 + 1,0,none⟩)).trans z7
    refine ⟨by simp,.inl ⟨_,_,rfl,run_takeDeferred hKy,?_⟩⟩
    have hbY:Below w.heap.size w (Y.putObj D (.deferred none)):=hbY0.trans ⟨gY.os,gY.tape,gY.output,gY.size,fun i hi=>gY.block i (by omega) (fun e=>by have:=Option.some.inj e; omega)⟩
    have OZ:=OY.kept gY (by omega)
    have RZ:(Y.putObj D (.deferred none)).ownsRow W2.heap.size 25 1 (.slice b9 k d9) k (vF LL ps.length F k):=World.ownsRow.kept RY gY (.inr fun e=>by have:=(RY.lt _ e).1; omega)
    have hrd:Rd (Y.putObj D (.deferred none)) b9 (vF LL ps.length F k):=own_rd RZ
    rw [← Hmm.out] at hrd
    have hfin:=OZ.sorted (l:=ll) (F:=F) (by rw [Hlen.out,Hmm.out]) (fun i hi=>Hls.out i (by rw [← Hmm.out]; exact hi)) (fun j hj=>by rw [Hmm.out] at hj ⊢; exact Hlt.out j hj) hrd
    refine ⟨.tuple #[.slice b9 k d9,.int .i64 0],?_,hbY,by have h:=ListP.ok (c:=d9) (by rw [Hmm.out]; exact hk600') (by rw [Hmm.out]; exact HF.out) hfin; rw [Hmm.out] at h; rw [Hll.out]; exact h⟩
    simp [results,Tryz.results13,go_sem,g6,g7]
end Go.Proofs.YtkoicfghplmghaaGreatDoor

namespace Go.Proofs.YtkoicfghplmghaaGreatDoor
open Go.RowKit Go.Shelf
attribute [local go_sem] Oper.semAt_some
def farM (most x:Int):Bool:=decide (most < x) || decide (x < -most)
end Go.Proofs.YtkoicfghplmghaaGreatDoor

namespace Go.Proofs.YtkoicfghplmghaaGreatDoor
open Go.RowKit
theorem quotient_low (w:World) (x1 x2 y1 y2:Option Addr) (e1 e2 g1 g2 d g:Nat) (tx ty:List (Int×Int)) (X:TermsAt w tx x1 x2) (Y:TermsAt w ty y1 y2) (L:Laid w)
  (hx:∀ x∈tx,okT 100000 x) (hy:∀ x∈ty,okT 100000 x) (hd:d≤10000) (hg:g≤10000) (hd0:0 < d) (hg0:0 < g)
  (h1:highT tx < 0) (h2:lowT tx≤highT tx) (h3 : -100000000000000≤lowT tx) (h4:0 < lowT ty) (h5:lowT ty≤highT ty) (h6:highT ty≤100000000000000) :
  Gives Tryz.prog 191 #[.agg (tcells x1 e1 x2 e2 tx.length d),.agg (tcells y1 g1 y2 g2 ty.length g)] w
   (.tuple #[.int .i64 (lowT tx * g / (lowT ty * d)),.bool (decide (lowT tx * g / (lowT ty * d)=highT tx * g / (highT ty * d)))]):=by
 unfold Gives
 have Hnx:Hid (∀ W,Below w.heap.size w W→Gives Tryz.prog 172 #[.agg (tcells x1 e1 x2 e2 tx.length d),.int .i64 100000] W (.tuple #[.int .i64 (lowT tx),.int .i64 (highT tx),.bool true])):=fun W hW=>by
  have:=near_any W x1 x2 e1 e2 d tx 100000 (by decide) (by decide) X.len (X.below hW).r1 (X.below hW).r2 X.p X.z (L.below hW)
  unfold nearV at this
  rw [if_pos hx] at this
  exact this
 have Hny:Hid (∀ W,Below w.heap.size w W→Gives Tryz.prog 172 #[.agg (tcells y1 g1 y2 g2 ty.length g),.int .i64 100000] W (.tuple #[.int .i64 (lowT ty),.int .i64 (highT ty),.bool true])):=fun W hW=>by
  have:=near_any W y1 y2 g1 g2 g ty 100000 (by decide) (by decide) Y.len (Y.below hW).r1 (Y.below hW).r2 Y.p Y.z (L.below hW)
  unfold nearV at this
  rw [if_pos hy] at this
  exact this
 have Hsd:Hid (∀ W,Below w.heap.size w W→Gives Tryz.prog 149 #[.string (dec d)] W (.tuple #[.int .i64 d,.bool true])):=fun W hW=>by
  have:=smallz_any W (d:Int) (num_pow (D:=5) (show (d:Int).natAbs < 10 ^ 5 by omega) (by decide) (by decide)) (L.below hW)
  rw [if_pos (by omega),itx_nat] at this
  exact this
 have Hsg:Hid (∀ W,Below w.heap.size w W→Gives Tryz.prog 149 #[.string (dec g)] W (.tuple #[.int .i64 g,.bool true])):=fun W hW=>by
  have:=smallz_any W (g:Int) (num_pow (D:=5) (show (g:Int).natAbs < 10 ^ 5 by omega) (by decide) (by decide)) (L.below hW)
  rw [if_pos (by omega),itx_nat] at this
  exact this
 clear X Y L hx hy
 generalize lowT tx=xl at *
 generalize highT tx=xh at *
 generalize lowT ty=yl at *
 generalize highT ty=yh at *
 generalize tx.length=n at *
 generalize ty.length=m at *
 have p1:xl * g≤0:=Int.mul_nonpos_of_nonpos_of_nonneg (by omega) (by omega)
 have p2 : -(100000000000000 * 10000)≤xl * g:=by
  have h:=Int.mul_le_mul (show -xl≤100000000000000 by omega) (show (g:Int)≤10000 by omega) (by omega) (by omega)
  rw [Int.neg_mul] at h
  omega
 have p3:xh * g≤0:=Int.mul_nonpos_of_nonpos_of_nonneg (by omega) (by omega)
 have p4 : -(100000000000000 * 10000)≤xh * g:=by
  have h:=Int.mul_le_mul (show -xh≤100000000000000 by omega) (show (g:Int)≤10000 by omega) (by omega) (by omega)
  rw [Int.neg_mul] at h
  omega
 have p5:0 < yl * d:=Int.mul_pos h4 (by omega)
 have p6:yl * d≤100000000000000 * 10000:=Int.mul_le_mul (by omega) (by omega) (by omega) (by omega)
 have p7:0 < yh * d:=Int.mul_pos (by omega) (by omega)
 have p8:yh * d≤100000000000000 * 10000:=Int.mul_le_mul (by omega) (by omega) (by omega) (by omega)
 have w1:IntKind.i64.wrap (xl * g)=xl * g:=iw_ _ (by omega)
 have w2:IntKind.i64.wrap (xh * g)=xh * g:=iw_ _ (by omega)
 have w3:IntKind.i64.wrap (yl * d)=yl * d:=iw_ _ (by omega)
 have w4:IntKind.i64.wrap (yh * d)=yh * d:=iw_ _ (by omega)
 have D1:Hid (∀ W,Gives Tryz.prog 222 #[.int .i64 (xl * g),.int .i64 (yl * d)] W (.int .i64 (xl * g / (yl * d)))):=fun W=>downward_any W _ _ (by omega) p5 (by omega)
 have D2:Hid (∀ W,Gives Tryz.prog 222 #[.int .i64 (xh * g),.int .i64 (yh * d)] W (.int .i64 (xh * g / (yh * d)))):=fun W=>downward_any W _ _ (by omega) p7 (by omega)
 have n1:¬ yh≤0:=by omega
 have n2:¬ yl≤0:=by omega
 have n3:xl < 0:=by omega
 have n4:xh < 0:=by omega
 have n5:¬ (d:Int) > 10000:=by omega
 have n6:¬ (g:Int) > 10000:=by omega
 clear p1 p2 p3 p4 p5 p6 p7 p8 h2 h3 h5 h6 hd hg hd0 hg0 h1 h4
 generalize hq1:xl * g / (yl * d)=q1 at *
 generalize hq2:xh * g / (yh * d)=q2 at *
 clear hq1 hq2
 have R1:Hid (((w.alloc (.cells (tcells x1 e1 x2 e2 n d) 141)).alloc (.cells (tcells y1 g1 y2 g2 m g) 141)).heap[w.heap.size]?=some (.cells #[.slice x1 n e1,.slice x2 n e2,.string (dec d)] 141 (0,0))):=heap_old (heap_at w _ _ _ rfl) _
 have R2:Hid (((w.alloc (.cells (tcells x1 e1 x2 e2 n d) 141)).alloc (.cells (tcells y1 g1 y2 g2 m g) 141)).heap[w.heap.size + 1]?=some (.cells #[.slice y1 m g1,.slice y2 m g2,.string (dec g)] 141 (0,0))):=heap_at _ _ _ _ (by show (w.heap.push _).size=_; exact Array.size_push ..)
 have B0:Hid (Below w.heap.size w ((w.alloc (.cells (tcells x1 e1 x2 e2 n d) 141)).alloc (.cells (tcells y1 g1 y2 g2 m g) 141))):=by
  show Below _ _ _
  have b1:=(Below.refl w.heap.size w).alloc nr_ (.cells (tcells x1 e1 x2 e2 n d) 141)
  exact b1.alloc b1.size _
 go_enter Tryz.func191,Tryz.ntmps191
 go_wp2_with fail
 generalize (w.alloc (.cells (tcells x1 e1 x2 e2 n d) 141)).alloc (.cells (tcells y1 g1 y2 g2 m g) 141)=W0 at *
 refine cm_ (Hnx.out _ B0.out) ?_
 rintro e W1 ⟨rfl,hb⟩
 have B1:=hd_ (B0.out.trans (hb.mono B0.out.size))
 have R3:=hd_ (heap_kept R1.out hb nr_)
 have R4:=hd_ (heap_kept R2.out hb nr_)
 clear hb B0 R1 R2 Hnx
 obtain ⟨k0,k1,k2,-⟩:=obj_cells3 R3.out
 obtain ⟨m0,m1,m2,-⟩:=obj_cells3 R4.out
 go_wp2_with fail
 refine cm_ (Hny.out _ B1.out) ?_
 rintro e W2 ⟨rfl,hb⟩
 have B2:=hd_ (B1.out.trans (hb.mono B1.out.size))
 have R5:=hd_ (heap_kept R3.out hb nr_)
 have R6:=hd_ (heap_kept R4.out hb nr_)
 clear hb B1 R3 R4 Hny k0 k1 k2 m0 m1 m2
 obtain ⟨k0,k1,k2,-⟩:=obj_cells3 R5.out
 go_wp2_with fail
 refine cm_ (Hsd.out _ B2.out) ?_
 rintro e W3 ⟨rfl,hb⟩
 have B3:=hd_ (B2.out.trans (hb.mono B2.out.size))
 have R8:=hd_ (heap_kept R6.out hb nr_)
 clear hb B2 R5 R6 Hsd k0 k1 k2
 obtain ⟨m0,m1,m2,-⟩:=obj_cells3 R8.out
 go_wp2_with fail
 refine cm_ (Hsg.out _ B3.out) ?_
 rintro e W4 ⟨rfl,hb⟩
 have B4:=hd_ (B3.out.trans (hb.mono B3.out.size))
 clear hb B3 R8 Hsg m0 m1 m2
 go_wp2_with fail
 refine cm_ (D1.out _) ?_
 rintro e W5 ⟨rfl,hb⟩
 have B5:=hd_ (B4.out.trans (hb.mono B4.out.size))
 clear hb B4
 go_wp2_with fail
 refine cm_ (D2.out _) ?_
 rintro e W6 ⟨rfl,hb⟩
 have B6:=hd_ (B5.out.trans (hb.mono B5.out.size))
 clear hb B5
 go_wp2_with fail
 go_ret2
 exact ⟨rfl,B6.out⟩
theorem floor_low (w:World) (ps:List Int) (a0 a1 a2:Option Addr) (c0 c1 c2 D:Nat) (la lb:List Rat) (A:SizeOk w ps a0 a1 la D) (B:SizeOk w ps a0 a2 lb D) (hD0:0 < D) (L:Laid w)
  (hr:ratioB la lb ps.length (ratioK la lb ps.length)=false)
  (hx:∀ x∈tlQ ps la,okT 100000 x) (hy:∀ x∈tlQ ps lb,okT 100000 x) (hd:tden la≤10000) (hg:tden lb≤10000) (hd0:0 < tden la) (hg0:0 < tden lb)
  (h1:highT (tlQ ps la) < 0) (h2:lowT (tlQ ps la)≤highT (tlQ ps la)) (h3 : -100000000000000≤lowT (tlQ ps la)) (h4:0 < lowT (tlQ ps lb)) (h5:lowT (tlQ ps lb)≤highT (tlQ ps lb)) (h6:highT (tlQ ps lb)≤100000000000000)
  (q:Int) (hq1:lowT (tlQ ps la) * tden lb / (lowT (tlQ ps lb) * tden la)=q) (hq2:highT (tlQ ps la) * tden lb / (highT (tlQ ps lb) * tden la)=q) (hq : -1000000≤q∧q≤1000000) :
  Gives Tryz.prog 154 #[.slice a0 ps.length c0,.slice a1 la.length c1,.slice a2 lb.length c2] w (.string (itx q)):=by
 unfold Gives
 have hn:=A.n
 have hdd:=A.d
 have HL:=hd_ L
 have Hra:=hd_ (ratio_any w a1 a2 c1 c2 ps.length D la lb A.rl B.rl A.len B.len A.sm B.sm (by omega) hD0 hdd L)
 rw [hr] at Hra
 have Ht1:Hid (∀ W,Below w.heap.size w W→Calls Tryz.prog 82 #[.slice a0 ps.length c0,.slice a1 ps.length c1] W fun e w'=>∃ b1 d1 b2 d2,e = .returned (.agg (tcells b1 d1 b2 d2 (tlQ ps la).length (tden la)))∧TermsAt w' (tlQ ps la) b1 b2∧Below W.heap.size W w'):=fun W hW=>by
  have:=terms_ok (c0:=c0) (c:=c1) (A.below hW) (L.below hW)
  rw [A.len] at this
  exact this
 have Ht2:Hid (∀ W,Below w.heap.size w W→Calls Tryz.prog 82 #[.slice a0 ps.length c0,.slice a2 ps.length c2] W fun e w'=>∃ b1 d1 b2 d2,e = .returned (.agg (tcells b1 d1 b2 d2 (tlQ ps lb).length (tden lb)))∧TermsAt w' (tlQ ps lb) b1 b2∧Below W.heap.size W w'):=fun W hW=>by
  have:=terms_ok (c0:=c0) (c:=c2) (B.below hW) (L.below hW)
  rw [B.len] at this
  exact this
 have Hqu:Hid (∀ W x1 x2 y1 y2 e1 e2 g1 g2,TermsAt W (tlQ ps la) x1 x2→TermsAt W (tlQ ps lb) y1 y2→Laid W→Gives Tryz.prog 191 #[.agg (tcells x1 e1 x2 e2 (tlQ ps la).length (tden la)),.agg (tcells y1 g1 y2 g2 (tlQ ps lb).length (tden lb))] W (.tuple #[.int .i64 q,.bool true])):=fun W x1 x2 y1 y2 e1 e2 g1 g2 X Y LW=>by
  have:=quotient_low W x1 x2 y1 y2 e1 e2 g1 g2 _ _ _ _ X Y LW hx hy hd hg hd0 hg0 h1 h2 h3 h4 h5 h6
  rw [hq1,hq2,decide_eq_true rfl] at this
  exact this
 have Hof:Hid (∀ W,Below w.heap.size w W→Gives Tryz.prog 85 #[.int .i64 q] W (.string (itx q))):=fun W hW=>ofz_any W q (by omega) (by omega) (L.below hW)
 unfold fr fv at Hra
 rw [A.len,B.len]
 clear A B L hr hx hy hd hg hd0 hg0 h1 h2 h3 h4 h5 h6 hq1 hq2 hq
 generalize ratioK la lb ps.length=k at *
 go_enter Tryz.func154,Tryz.ntmps154
 go_wp2_with fail
 refine cm_ Hra.out ?_
 rintro e w1 ⟨rfl,hb⟩
 have B2:=hd_ (hb.alloc hb.size (.cells #[.string (itx k.num),.string (dec k.den)] 58))
 clear hb Hra
 go_wp2_with fail
 generalize w1.alloc (.cells #[.string (itx k.num),.string (dec k.den)] 58)=w2 at *
 refine cm_ (Ht1.out _ B2.out) ?_
 rintro e w3 ⟨b1,d1,b2,d2,rfl,X,hb⟩
 have B3:=hd_ (B2.out.trans (hb.mono B2.out.size))
 have HX:=hd_ X
 clear hb Ht1 X B2
 go_wp2_with fail
 refine cm_ (Ht2.out _ B3.out) ?_
 rintro e w4 ⟨b3,d3,b4,d4,rfl,Y,hb⟩
 have B4:=hd_ (B3.out.trans (hb.mono B3.out.size))
 have HX4:=hd_ (HX.out.below hb)
 have HY:=hd_ Y
 clear hb Ht2 Y B3 HX
 go_wp2_with fail
 have Hq:=hd_ (Hqu.out (((w4.alloc (.cells #[.slice b1 (tlQ ps la).length d1,.slice b2 (tlQ ps la).length d2,.string (dec (tden la))] 141)).alloc (.cells #[.slice b3 (tlQ ps lb).length d3,.slice b4 (tlQ ps lb).length d4,.string (dec (tden lb))] 141))) b1 b2 b3 b4 d1 d2 d3 d4
  (HX4.out.below (((Below.refl w4.heap.size w4).alloc nr_ _).alloc (Nat.le_trans nr_ ((Below.refl w4.heap.size w4).alloc nr_ _).size) _))
  (HY.out.below (((Below.refl w4.heap.size w4).alloc nr_ _).alloc (Nat.le_trans nr_ ((Below.refl w4.heap.size w4).alloc nr_ _).size) _))
  (HL.out.below ((B4.out.alloc B4.out.size _).alloc (B4.out.alloc B4.out.size _).size _)))
 have B5:=hd_ ((B4.out.alloc B4.out.size (.cells #[.slice b1 (tlQ ps la).length d1,.slice b2 (tlQ ps la).length d2,.string (dec (tden la))] 141)).alloc (B4.out.alloc B4.out.size (.cells #[.slice b1 (tlQ ps la).length d1,.slice b2 (tlQ ps la).length d2,.string (dec (tden la))] 141)).size (.cells #[.slice b3 (tlQ ps lb).length d3,.slice b4 (tlQ ps lb).length d4,.string (dec (tden lb))] 141))
 refine cm_ Hq.out ?_
 rintro e w5 ⟨rfl,hb⟩
 have B6:=hd_ (B5.out.trans (hb.mono B5.out.size))
 clear hb Hq B5 B4 HX4 HY
 go_wp2_with fail
 refine cm_ (Hof.out _ B6.out) ?_
 rintro e w6 ⟨rfl,hb⟩
 have B7:=hd_ (B6.out.trans (hb.mono B6.out.size))
 clear hb Hof
 go_wp2_with fail
 go_ret
 exact ⟨rfl,B7.out⟩
end Go.Proofs.YtkoicfghplmghaaGreatDoor

namespace Go.Proofs.YtkoicfghplmghaaGreatDoor
open Go.RowKit Go.Shelf
theorem pr235:PrOk [2,3,5]:=prOk_of (by decide +kernel)
theorem pr23:PrOk [2,3]:=prOk_of (by decide +kernel)
def kn3:List (List Int):=[[-1,1,0],[-2,0,1],[-4,4,-1]]
theorem kn3_iv:Iv [2,3,5].length kn3:=by
 intro x hx
 have h:∀ y∈kn3,y.length=3∧∀ a∈y,-1000≤a∧a≤1000:=by decide
 exact h x hx
instance (c:Nat→Nat→Int) (u v:Nat):Decidable (Ok c u v):=inferInstanceAs (Decidable (_∧_))
def fin_of (c:Nat→Nat→Int) (n:Nat) (G:Nat→Nat):Bool:=(List.range n).all fun k=>decide (G k < n) && (List.range n).all (fun m=>decide (G k=G m→k=m)) && decide (k + 1 < n→Ok c (G k) (G (k + 1)))
theorem fin_is {c:Nat→Nat→Int} {n:Nat} {G:Nat→Nat} (h:fin_of c n G=true):Fin' c n G:=by
 unfold fin_of at h
 simp only [List.all_eq_true,Bool.and_eq_true,decide_eq_true_eq,List.mem_range] at h
 exact ⟨fun k hk=>(h k hk).1.1,fun k m hk hm e=>(h k hk).1.2 m hm e,fun k hk=>(h k (by omega)).2 hk⟩
def kG1 (k:Nat):Nat:=2 - k
def kG2 (k:Nat):Nat:=if k=0 then 1 else if k=1 then 0 else 2
theorem kn_sort:Fin' (cS [2,3,5] (kn3.map rq)) 3 kG1:=fin_is (by decide +kernel)
theorem kn_list:inL [2,3] [0,0] [1,0] 2=[[2,-1],[0,0],[-1,1]]:=by decide +kernel
theorem kn_lsort:Fin' (cS [2,3] (([[2,-1],[0,0],[-1,1]]:List (List Int)).map rq)) 3 kG2:=fin_is (by decide +kernel)
theorem kn_ok (W:World) (A0 A1:Option Addr) (l:List Rat) (hl:l.length=3) (h0:Rd W A0 (ints [2,3,5])) (h1:Rd W A1 (cellsQ l)) (hs:∀ q∈l,Sm 30 q):SizeOk W [2,3,5] A0 A1 l 30 :=
 ⟨h0,h1,hl,by decide,pr235.pr,hs,by decide⟩
theorem kn_sm1:∀ q∈rq [0,-1,0],Sm 30 q:=Bd.sm (N:=1) (fun a ha=>by simp at ha; omega) (by decide) (by decide)
theorem kn_sm2:∀ q∈rq (unitI 3),Sm 30 q:=(unitI_bd 3).sm (by decide) (by decide)
theorem kn_floor (W:World) (A0 A1 A2:Option Addr) (c1 c2:Nat) (h0:Rd W A0 (ints [2,3,5])) (h1:Rd W A1 (cellsQ (rq [0,-1,0]))) (h2:Rd W A2 (cellsQ (rq (unitI 3)))) (L:Laid W) :
  Gives Tryz.prog 106 #[.slice A0 3 3,.slice A1 3 c1,.slice A2 3 c2] W (.tuple #[.string (itx (-2)),.int .i64 0]):=by
 refine Floor_of W [2,3,5] A0 A1 A2 3 c1 c2 (rq [0,-1,0]) (rq (unitI 3)) (kn_ok W A0 A1 _ rfl h0 h1 kn_sm1) (kn_ok W A0 A2 _ rfl h0 h2 kn_sm2) pr235.p0 L (by decide +kernel) (-2) fun W' hW=>?_
 exact floor_low W' [2,3,5] A0 A1 A2 3 c1 c2 30 (rq [0,-1,0]) (rq (unitI 3)) ((kn_ok W A0 A1 _ rfl h0 h1 kn_sm1).below hW) ((kn_ok W A0 A2 _ rfl h0 h2 kn_sm2).below hW) (by decide) (L.below hW)
  (by decide +kernel) (by decide +kernel) (by decide +kernel) (by decide +kernel) (by decide +kernel) (by decide +kernel) (by decide +kernel) (by decide +kernel) (by decide +kernel) (by decide +kernel) (by decide +kernel) (by decide +kernel) (by decide +kernel) (-2) (by decide +kernel) (by decide +kernel) (by decide)
theorem alloc5 (w:World) (o1 o2 o3 o4 o5:Obj) (w5:World) (h:((((w.alloc o1).alloc o2).alloc o3).alloc o4).alloc o5=w5) :
  w5.heap[w.heap.size]?=some o1∧w5.heap[w.heap.size + 1]?=some o2∧w5.heap[w.heap.size + 1 + 1]?=some o3∧w5.heap[w.heap.size + 1 + 1 + 1]?=some o4∧w5.heap[w.heap.size + 1 + 1 + 1 + 1]?=some o5∧Below w.heap.size w w5:=by
 subst h
 have n1:=World.alloc_heap_new w o1
 have n2:=World.alloc_heap_new (w.alloc o1) o2
 have n3:=World.alloc_heap_new ((w.alloc o1).alloc o2) o3
 have n4:=World.alloc_heap_new (((w.alloc o1).alloc o2).alloc o3) o4
 have n5:=World.alloc_heap_new ((((w.alloc o1).alloc o2).alloc o3).alloc o4) o5
 simp only [World.size_alloc] at n2 n3 n4 n5
 exact ⟨heap_old (heap_old (heap_old (heap_old n1 _) _) _) _,heap_old (heap_old (heap_old n2 _) _) _,heap_old (heap_old n3 _) _,heap_old n4 _,n5,
  (((((Below.refl _ w).alloc nr_ _).alloc (by simp) _).alloc (by simp; omega) _).alloc (by simp; omega) _).alloc (by simp; omega) _⟩
theorem alloc3 (w:World) (o1 o2 o3:Obj) (w5:World) (h:((w.alloc o1).alloc o2).alloc o3=w5) :
  w5.heap[w.heap.size]?=some o1∧w5.heap[w.heap.size + 1]?=some o2∧w5.heap[w.heap.size + 1 + 1]?=some o3∧Below w.heap.size w w5:=by
 subst h
 have n1:=World.alloc_heap_new w o1
 have n2:=World.alloc_heap_new (w.alloc o1) o2
 have n3:=World.alloc_heap_new ((w.alloc o1).alloc o2) o3
 simp only [World.size_alloc] at n2 n3
 exact ⟨heap_old (heap_old n1 _) _,heap_old n2 _,n3,(((Below.refl _ w).alloc nr_ _).alloc (by simp) _).alloc (by simp; omega) _⟩
theorem rd_blk {w:World} {g:Nat} {l:List Int} {cs:Array Value} {t:TypeId} (h:w.heap[g]?=some (.cells cs t (0,0))) (e:cs.toList=ints l):Rd w (some ⟨g,0,none⟩) (ints l):=by
 rw [← e]; exact rd_obj h
theorem rdi_three {w:World} {g:Nat} {a1 a2 a3:Option Addr} {c1 c2 c3:Nat} {r s u:List Int} {t:TypeId} (h:w.heap[g]?=some (.cells #[.slice a1 r.length c1,.slice a2 s.length c2,.slice a3 u.length c3] t (0,0))) (h1:Rd w a1 (ints r)) (h2:Rd w a2 (ints s)) (h3:Rd w a3 (ints u)):RdI w (some ⟨g,0,none⟩) [r,s,u]:=by
 obtain ⟨k0,k1,k2⟩:w.cell? ⟨g,0,none⟩=some (.slice a1 r.length c1)∧w.cell? ⟨g,1,none⟩=some (.slice a2 s.length c2)∧w.cell? ⟨g,2,none⟩=some (.slice a3 u.length c3):=⟨by rw [cell_of_row w g 0 _ t (0,0) h]; rfl,by rw [cell_of_row w g 1 _ t (0,0) h]; rfl,by rw [cell_of_row w g 2 _ t (0,0) h]; rfl⟩
 refine .inr ⟨g,0,rfl,(Array.getElem?_eq_some_iff.1 h).1,fun i hi=>?_⟩
 match i,hi with
 | 0,_=>exact ⟨a1,c1,k0,h1⟩
 | 1,_=>exact ⟨a2,c2,k1,h2⟩
 | 2,_=>exact ⟨a3,c3,k2,h3⟩
theorem kn_pre:Pre (cS [2,3,5] (kn3.map rq)) 3:=by
 have:=cS_pre (sortOk_iv pr235 kn3_iv)
 exact this
theorem kn_order {F:Nat→Nat} (h:Fin' (cS [2,3,5] (kn3.map rq)) 3 F):(List.range 3).map (fun (k:Nat)=>((F k:Nat):Int))=[2,1,0]:=by
 have e:=h.unique kn_sort kn_pre
 show [((F 0:Nat):Int),((F 1:Nat):Int),((F 2:Nat):Int)]=_
 rw [e 0 (by decide),e 1 (by decide),e 2 (by decide)]; rfl
theorem kn23_iv:Iv [2,3].length [[2,-1],[0,0],[-1,1]]:=by
 intro x hx
 have h:∀ y∈([[2,-1],[0,0],[-1,1]]:List (List Int)),y.length=2∧∀ a∈y,-1000≤a∧a≤1000:=by decide
 exact h x hx
theorem kn_pre2:Pre (cS [2,3] (([[2,-1],[0,0],[-1,1]]:List (List Int)).map rq)) 3:=by
 have:=cS_pre (sortOk_iv pr23 kn23_iv)
 exact this
theorem kn_sorted {F:Nat→Nat} (h:Fin' (cS [2,3] (([[2,-1],[0,0],[-1,1]]:List (List Int)).map rq)) 3 F):sortL [[2,-1],[0,0],[-1,1]] F=[[0,0],[2,-1],[-1,1]]:=by
 have e:=h.unique kn_lsort kn_pre2
 show [List.getD _ (F 0) [],List.getD _ (F 1) [],List.getD _ (F 2) []]=_
 rw [e 0 (by decide),e 1 (by decide),e 2 (by decide)]; rfl
theorem kn_x1:Xs [0,-1,0]:=by
 intro a ha
 have h:∀ y∈([0,-1,0]:List Int),-1000≤y∧y≤1000:=by decide
 exact h a ha
theorem kn_xs00:Xs [0,0]:=by
 intro a ha
 have h:∀ y∈([0,0]:List Int),-1000≤y∧y≤1000:=by decide
 exact h a ha
theorem kn_xs10:Xs [1,0]:=by
 intro a ha
 have h:∀ y∈([1,0]:List Int),-1000≤y∧y≤1000:=by decide
 exact h a ha
theorem known15_ok (w:World) (L:Laid w):Gives Tryz.prog 12 #[] w (.bool true):=by
 unfold Gives
 have HL:=hd_ L
 clear L
 go_enter Tryz.func12,Tryz.ntmps12
 go_wp2_with fail
 obtain ⟨w5,hw5⟩:∃ w5,(((((w.alloc (.cells #[.int .i64 2,.int .i64 3,.int .i64 5] 3)).alloc (.cells #[.int .i64 (-1),.int .i64 1,.int .i64 0] 3)).alloc (.cells #[.int .i64 (-2),.int .i64 0,.int .i64 1] 3)).alloc (.cells #[.int .i64 (-4),.int .i64 4,.int .i64 (-1)] 3)).alloc (.cells #[.slice (some ⟨w.heap.size + 1,0,none⟩) 3 3,.slice (some ⟨w.heap.size + 1 + 1,0,none⟩) 3 3,.slice (some ⟨w.heap.size + 1 + 1 + 1,0,none⟩) 3 3] 25))=w5:=⟨_,rfl⟩
 obtain ⟨p1,p2,p3,p4,p5,b5⟩:=alloc5 _ _ _ _ _ _ w5 hw5
 rw [hw5]
 clear hw5
 have B5:=hd_ b5
 have r1:Rd w5 (some ⟨w.heap.size,0,none⟩) (ints [2,3,5]):=rd_blk p1 rfl
 have r2:Rd w5 (some ⟨w.heap.size + 1,0,none⟩) (ints [-1,1,0]):=rd_blk p2 rfl
 have r3:Rd w5 (some ⟨w.heap.size + 1 + 1,0,none⟩) (ints [-2,0,1]):=rd_blk p3 rfl
 have r4:Rd w5 (some ⟨w.heap.size + 1 + 1 + 1,0,none⟩) (ints [-4,4,-1]):=rd_blk p4 rfl
 have r5:RdI w5 (some ⟨w.heap.size + 1 + 1 + 1 + 1,0,none⟩) kn3:=rdi_three p5 r2 r3 r4
 have H1:Hid (Calls Tryz.prog 57 #[.slice (some ⟨w.heap.size,0,none⟩) 3 3,.slice (some ⟨w.heap.size + 1 + 1 + 1 + 1,0,none⟩) 3 3] w5 fun e w'=>∃ a c F,e = .returned (.tuple #[.slice a 3 c,.int .i64 0])∧Fin' (cS [2,3,5] (kn3.map rq)) 3 F∧Rd w' a (ints ((List.range 3).map fun (k:Nat)=>((F k:Nat):Int)))∧Below w5.heap.size w5 w') :=
  iSort_ok w5 [2,3,5] pr235 (some ⟨w.heap.size,0,none⟩) (some ⟨w.heap.size + 1 + 1 + 1 + 1,0,none⟩) 3 3 kn3 r1 r5 (fun h=>by cases h) (by decide) kn3_iv (HL.out.below b5)
 have R1:=hd_ r1
 clear p1 p2 p3 p4 p5 b5 r1 r2 r3 r4 r5
 refine cm_ H1.out ?_
 rintro e_ w6 ⟨ao,co,F,rfl,hF,hr,hb⟩
 have HR6:Hid (Rd w6 ao (ints [2,1,0])):=by
  have h:=kn_order hF
  have hr':Rd w6 ao (ints ((List.range 3).map fun (k:Nat)=>((F k:Nat):Int))):=hr
  rw [h] at hr'
  exact hr'
 have B6:=hd_ (B5.out.trans (hb.mono B5.out.size))
 have R1:=hd_ (R1.out.below hb nr_)
 clear hF hr hb H1 B5 F
 go_wp2_with fail
 have B7:=hd_ (B6.out.alloc B6.out.size (.cells #[.int .i64 0,.int .i64 (-1),.int .i64 0] 3))
 have hb7:Below w6.heap.size w6 (w6.alloc (.cells #[.int .i64 0,.int .i64 (-1),.int .i64 0] 3)):=(Below.refl _ _).alloc nr_ _
 have R1:=hd_ (R1.out.below hb7 nr_)
 have HR7:=hd_ (HR6.out.below hb7 nr_)
 have hx:Rd (w6.alloc (.cells #[.int .i64 0,.int .i64 (-1),.int .i64 0] 3)) (some ⟨w6.heap.size,0,none⟩) (ints [0,-1,0]):=rd_blk (heap_at w6 _ _ _ rfl) rfl
 have H2:Hid (Calls Tryz.prog 40 #[.slice (some ⟨w.heap.size,0,none⟩) 3 3,.slice (some ⟨w6.heap.size,0,none⟩) 3 3] (w6.alloc (.cells #[.int .i64 0,.int .i64 (-1),.int .i64 0] 3)) fun e w'=>ResJ w' 3 [2,-1,0] (-2) e∧Below (w6.alloc (.cells #[.int .i64 0,.int .i64 (-1),.int .i64 0] 3)).heap.size (w6.alloc (.cells #[.int .i64 0,.int .i64 (-1),.int .i64 0] 3)) w'):=by
  exact iReduce_of _ [2,3,5] pr235 (some ⟨w.heap.size,0,none⟩) (some ⟨w6.heap.size,0,none⟩) 3 3 [0,-1,0] R1.out hx rfl kn_x1 (-2) (by decide) (fun W b1 b2 d1 d2 hW h1 h2=>kn_floor W _ b1 b2 d1 d2 (R1.out.below hW nr_) h1 h2 ((HL.out.below B7.out).below hW)) (HL.out.below B7.out)
 clear hb7 hx HR6 B6
 generalize w6.alloc (.cells #[.int .i64 0,.int .i64 (-1),.int .i64 0] 3)=w7 at *
 refine cm_ H2.out ?_
 rintro e_ w8 ⟨hJ,hb⟩
 have hz:mx [2,-1,0]=0:=by decide
 rcases hJ with ⟨-,ax,cx,rfl,hx⟩ | ⟨h,-⟩
 rotate_left
 ·exact absurd hz h
 have HX8:=hd_ hx
 have B8:=hd_ (B7.out.trans (hb.mono B7.out.size))
 have HR8:=hd_ (HR7.out.below hb nr_)
 clear hx hb hz H2 B7 HR7 R1
 go_wp2_with fail
 obtain ⟨w9,hw9⟩:∃ w9,((w8.alloc (.cells #[.int .i64 2,.int .i64 3] 3)).alloc (.cells #[.int .i64 0,.int .i64 0] 3)).alloc (.cells #[.int .i64 1,.int .i64 0] 3)=w9:=⟨_,rfl⟩
 obtain ⟨p1,p2,p3,b9⟩:=alloc3 _ _ _ _ w9 hw9
 rw [hw9]
 clear hw9
 have r1:Rd w9 (some ⟨w8.heap.size,0,none⟩) (ints [2,3]):=rd_blk p1 rfl
 have r2:Rd w9 (some ⟨w8.heap.size + 1,0,none⟩) (ints [0,0]):=rd_blk p2 rfl
 have r3:Rd w9 (some ⟨w8.heap.size + 1 + 1,0,none⟩) (ints [1,0]):=rd_blk p3 rfl
 have B9:=hd_ (B8.out.trans (b9.mono B8.out.size))
 have HR9:=hd_ (HR8.out.below b9 nr_)
 have HX9:=hd_ (HX8.out.below b9 nr_)
 have H3:Hid (Calls Tryz.prog 13 #[.agg #[.slice (some ⟨w8.heap.size,0,none⟩) 2 2,.int .i64 2,.slice (some ⟨w8.heap.size + 1,0,none⟩) 2 2,.slice (some ⟨w8.heap.size + 1 + 1,0,none⟩) 2 2]] w9 fun e w'=>Below w9.heap.size w9 w'∧ListP [2,3] [[2,-1],[0,0],[-1,1]] w' e):=by
  have:=list_any w9 [2,3] pr23 (some ⟨w8.heap.size,0,none⟩) (some ⟨w8.heap.size + 1,0,none⟩) (some ⟨w8.heap.size + 1 + 1,0,none⟩) 2 2 2 [0,0] [1,0] 2 (by decide) r1 r2 r3 rfl rfl kn_xs00 kn_xs10 (HL.out.below B9.out)
  rw [kn_list] at this
  exact this
 clear p1 p2 p3 b9 r1 r2 r3 HR8 HX8 B8
 refine cm_ H3.out ?_
 rintro e_ w10 ⟨hb,hP⟩
 rcases hP with ⟨-,al,cl,F,he,hF,hr⟩ | ⟨h,-⟩
 rotate_left
 ·exact absurd h (by decide)
 rw [kn_sorted hF] at hr
 have he':e_ = .returned (.tuple #[.slice al 3 cl,.int .i64 0]):=he
 subst he'
 clear he hF F
 have B10:=hd_ (B9.out.trans (hb.mono B9.out.size))
 have HR10:=hd_ (HR9.out.below hb nr_)
 have HX10:=hd_ (HX9.out.below hb nr_)
 obtain ⟨bl,ol,rfl,hbl,hcl⟩:=rdi_cells hr (by decide)
 obtain ⟨a',c',kl,rl⟩:=hcl 1 (by decide)
 have KL:Hid (w10.cell? ⟨bl,ol + 1,none⟩=some (.slice a' 2 c')):=kl
 have RL:Hid (Rd w10 a' (ints [2,-1])):=rl
 clear hb hr H3 B9 HR9 HX9 hcl kl rl
 go_wp2_with fail
 have bq:Below w10.heap.size w10 (w10.alloc (.cells #[.int .i64 2,.int .i64 1,.int .i64 0] 3)):=(Below.refl _ _).alloc nr_ _
 have rq1:Rd (w10.alloc (.cells #[.int .i64 2,.int .i64 1,.int .i64 0] 3)) (some ⟨w10.heap.size,0,none⟩) (ints [2,1,0]):=rd_blk (heap_at w10 _ _ _ rfl) rfl
 have H4:Hid (Gives Tryz.prog 39 #[.slice ao 3 co,.slice (some ⟨w10.heap.size,0,none⟩) 3 3] (w10.alloc (.cells #[.int .i64 2,.int .i64 1,.int .i64 0] 3)) (.bool true)) :=
  islEqI_any _ ao _ co 3 [2,1,0] [2,1,0] (HR10.out.below bq nr_) rq1 (by decide)
 have B11:=hd_ (B10.out.trans (bq.mono B10.out.size))
 have HX11:=hd_ (HX10.out.below bq nr_)
 have KL11:=hd_ ((bq.cell (p:=⟨bl,ol + 1,none⟩) hbl).trans KL.out)
 have RL11:=hd_ (RL.out.below bq nr_)
 have hbl11:=Nat.lt_of_lt_of_le hbl bq.size
 clear bq rq1 B10 HR10 HX10 KL RL hbl
 generalize w10.alloc (.cells #[.int .i64 2,.int .i64 1,.int .i64 0] 3)=w11 at *
 refine cm_ H4.out ?_
 rintro e_ w12 ⟨rfl,hb⟩
 have B12:=hd_ (B11.out.trans (hb.mono B11.out.size))
 have HX12:=hd_ (HX11.out.below hb nr_)
 have KL12:=hd_ ((hb.cell (p:=⟨bl,ol + 1,none⟩) hbl11).trans KL11.out)
 have RL12:=hd_ (RL11.out.below hb nr_)
 have hbl12:=Nat.lt_of_lt_of_le hbl11 hb.size
 clear hb H4 B11 HX11 KL11 RL11 hbl11
 go_wp2_with fail
 have bq:Below w12.heap.size w12 (w12.alloc (.cells #[.int .i64 2,.int .i64 (-1),.int .i64 0] 3)):=(Below.refl _ _).alloc nr_ _
 have rq1:Rd (w12.alloc (.cells #[.int .i64 2,.int .i64 (-1),.int .i64 0] 3)) (some ⟨w12.heap.size,0,none⟩) (ints [2,-1,0]):=rd_blk (heap_at w12 _ _ _ rfl) rfl
 have H5:Hid (Gives Tryz.prog 32 #[.slice ax 3 cx,.slice (some ⟨w12.heap.size,0,none⟩) 3 3] (w12.alloc (.cells #[.int .i64 2,.int .i64 (-1),.int .i64 0] 3)) (.bool true)) :=
  islEq_any _ ax _ cx 3 [2,-1,0] [2,-1,0] (HX12.out.below bq nr_) rq1 (by decide)
 have B13:=hd_ (B12.out.trans (bq.mono B12.out.size))
 have KL13:=hd_ ((bq.cell (p:=⟨bl,ol + 1,none⟩) hbl12).trans KL12.out)
 have RL13:=hd_ (RL12.out.below bq nr_)
 have hbl13:=Nat.lt_of_lt_of_le hbl12 bq.size
 clear bq rq1 B12 HX12 KL12 RL12 hbl12
 generalize w12.alloc (.cells #[.int .i64 2,.int .i64 (-1),.int .i64 0] 3)=w13 at *
 refine cm_ H5.out ?_
 rintro e_ w14 ⟨rfl,hb⟩
 have B14:=hd_ (B13.out.trans (hb.mono B13.out.size))
 have KL14:=hd_ ((hb.cell (p:=⟨bl,ol + 1,none⟩) hbl13).trans KL13.out)
 have RL14:=hd_ (RL13.out.below hb nr_)
 clear hb H5 B13 KL13 RL13 hbl13
 have k14:=KL14.out
 go_wp2_with fail
 have bq:Below w14.heap.size w14 (w14.alloc (.cells #[.int .i64 2,.int .i64 (-1)] 3)):=(Below.refl _ _).alloc nr_ _
 have rq1:Rd (w14.alloc (.cells #[.int .i64 2,.int .i64 (-1)] 3)) (some ⟨w14.heap.size,0,none⟩) (ints [2,-1]):=rd_blk (heap_at w14 _ _ _ rfl) rfl
 have H6:Hid (Gives Tryz.prog 32 #[.slice a' 2 c',.slice (some ⟨w14.heap.size,0,none⟩) 2 2] (w14.alloc (.cells #[.int .i64 2,.int .i64 (-1)] 3)) (.bool true)) :=
  islEq_any _ a' _ c' 2 [2,-1] [2,-1] (RL14.out.below bq nr_) rq1 (by decide)
 have B15:=hd_ (B14.out.trans (bq.mono B14.out.size))
 clear bq rq1 B14 KL14 RL14 k14
 generalize w14.alloc (.cells #[.int .i64 2,.int .i64 (-1)] 3)=w15 at *
 refine cm_ H6.out ?_
 rintro e_ w16 ⟨rfl,hb⟩
 have B16:=hd_ (B15.out.trans (hb.mono B15.out.size))
 clear hb H6 B15
 go_wp2_with fail
 go_ret
 exact ⟨rfl,B16.out⟩
end Go.Proofs.YtkoicfghplmghaaGreatDoor

namespace Go.Proofs.YtkoicfghplmghaaGreatDoor
open Go.RowKit Go.Shelf
def RdC (w:World) (a:Option Addr) (ls:List (List Int)):Prop :=
 ls=[]∨∃ b off,a=some ⟨b,off,none⟩∧b < w.heap.size∧∀ i,i < ls.length→∃ a' c',w.cell? ⟨b,off + i,none⟩=some (.slice a' (ls.getD i []).length c')∧(ls.getD i []).length≤c'∧Rd w a' (ints (ls.getD i []))
theorem RdC.below {w w':World} {a:Option Addr} {ls:List (List Int)} {B:Nat} (h:RdC w a ls) (hb:Below B w w') (hB:w.heap.size≤B):RdC w' a ls:=by
 rcases h with h | ⟨b,off,h1,h2,h3⟩
 ·exact .inl h
 ·refine .inr ⟨b,off,h1,Nat.lt_of_lt_of_le h2 hb.size,fun i hi=>?_⟩
  obtain ⟨a',c',k1,k2,k3⟩:=h3 i hi
  exact ⟨a',c',(hb.cell (p:=⟨b,off + i,none⟩) (Nat.lt_of_lt_of_le h2 hB)).trans k1,k2,k3.below hb hB⟩
theorem RdC.rdi {w:World} {a:Option Addr} {ls:List (List Int)} (h:RdC w a ls):RdI w a ls:=by
 rcases h with h | ⟨b,off,h1,h2,h3⟩
 ·exact .inl h
 ·exact .inr ⟨b,off,h1,h2,fun i hi=>by obtain ⟨a',c',k1,_,k3⟩:=h3 i hi; exact ⟨a',c',k1,k3⟩⟩
theorem RdC.take {w:World} {a:Option Addr} {ls:List (List Int)} (h:RdC w a ls) (k:Nat):RdC w a (ls.take k):=by
 rcases h with h | ⟨b,off,h1,h2,h3⟩
 ·left; rw [h]; simp
 ·by_cases hk:(ls.take k)=[]
  ·exact .inl hk
  ·refine .inr ⟨b,off,h1,h2,fun i hi=>?_⟩
   have hi':i < k∧i < ls.length:=by simp at hi; omega
   have e:(ls.take k).getD i []=ls.getD i []:=by
    rw [List.getD_eq_getElem?_getD,List.getD_eq_getElem?_getD,List.getElem?_take,if_pos hi'.1]
   rw [e]
   exact h3 i hi'.2
end Go.Proofs.YtkoicfghplmghaaGreatDoor

namespace Go.Proofs.YtkoicfghplmghaaGreatDoor
open Go.ChangeShapes Go.WideShapes Go.ChangeAt Go.RowKit
theorem slice_cap {H:Type} {enc:TypeId×Value→H} {W:World} {t e:TypeId} (ht:Tryz.prog.underlying t=some (.slice e)) {a:Option Addr} {len cap:Nat} {d:DataW H} {p:List MemPlace}
  (h:DataW.Trod enc Tryz.prog W 0 (fun _=>true) true t (.slice a len cap) d p):(a=none→len=0∧cap=0)∧len≤cap:=by
 obtain ⟨fuel,hf⟩:=h
 rcases DataW.trod_slice ht hf with ⟨hcs,_⟩ | ⟨a,len,cap,elems,rest,n,_,hcs,_,hb,hl,hm,hlen,hel,_,_⟩
 ·simp [Value.cells] at hcs
  obtain ⟨rfl,rfl,rfl⟩:=hcs
  exact ⟨fun _=>⟨rfl,rfl⟩,Nat.le_refl _⟩
 ·simp [Value.cells] at hcs
  obtain ⟨rfl,rfl,rfl⟩:=hcs
  exact ⟨(fun h=>by cases h),by omega⟩
theorem rowLists_of {W:World}:∀ css:List (List Value),(∀ cs∈css,∃ (a:Option Addr) (c:Nat) (l:List Int),cs=[.slice a l.length c]∧Rd W a (ints l)∧I64s l∧l.length≤c∧l.length≤maxLen) →
  ∃ ls:List (List Int),ls.length=css.length∧(∀ x∈ls,I64s x)∧∀ i (h:i < css.length),∃ (a:Option Addr) (c:Nat),css[i]=[.slice a (ls.getD i []).length c]∧Rd W a (ints (ls.getD i []))∧(ls.getD i []).length≤c
 | [],_=>⟨[],rfl,(fun _ h=>by cases h),fun i h=>absurd h (Nat.not_lt_zero _)⟩
 | cs :: css,h=>by
  obtain ⟨ls,h1,h2,h3⟩:=rowLists_of css fun y hy=>h y (List.mem_cons_of_mem _ hy)
  obtain ⟨a,c,l,e,r,hi,hc,_⟩:=h cs List.mem_cons_self
  refine ⟨l :: ls,by simp [h1],?_,?_⟩
  ·intro x hx
   rcases List.mem_cons.1 hx with rfl | hx
   ·exact hi
   ·exact h2 x hx
  ·intro i hi'
   cases i with
   | zero=>exact ⟨a,c,e,r,hc⟩
   | succ i=>exact h3 i (by simpa using hi')
theorem open_rows {H:Type} {enc:TypeId×Value→H} {W:World} {v:Value} {d:DataW H} {p:List MemPlace}
  (h:DataW.Trod enc Tryz.prog W 0 (fun _=>true) true 26 v d p) (hv:∃ a len cap,v = .slice a len cap) :
  ∃ (a:Option Addr) (c:Nat) (ls:List (List Int)),v = .slice a ls.length c∧RdC W a ls∧Nil0 a ls.length c∧ls.length≤c∧(∀ x∈ls,I64s x)∧ls.length≤maxLen:=by
 obtain ⟨a,c,css,rfl,hr,hq,hm⟩:=open_slice_of Tryz.underlying26 cellsRw (by decide) (Q:=fun cs=>∃ (a:Option Addr) (c:Nat) (l:List Int),cs=[.slice a l.length c]∧Rd W a (ints l)∧I64s l∧l.length≤c∧l.length≤maxLen)
  (fun n cs x hx=>by
   have hv':∃ c0,cs=[c0]:=by
    rcases open_ints Tryz.underlying25 Tryz.underlying3 cellsInt hx with ⟨hcs,_⟩ | ⟨a,len,cap,zs,hcs,_⟩
    ·exact ⟨_,hcs⟩
    ·exact ⟨_,hcs⟩
   obtain ⟨c0,rfl⟩:=hv'
   obtain ⟨a,c,l,e,r1,r2,r3,r4⟩:=open_ints_cell Tryz.underlying25 hx
   exact ⟨a,c,l,by rw [e],r1,r2,r3,r4⟩) h hv
 obtain ⟨hn,hc⟩:=slice_cap Tryz.underlying26 h
 obtain ⟨ls,h1,h2,h3⟩:=rowLists_of css hq
 refine ⟨a,c,ls,by rw [h1],?_,by rw [h1]; exact hn,by rw [h1]; exact hc,h2,by rw [h1]; exact hm⟩
 rcases hr with rfl | ⟨b,off,e,hb,hcell⟩
 ·exact .inl (List.eq_nil_of_length_eq_zero h1)
 ·refine .inr ⟨b,off,e,hb,fun i hi=>?_⟩
  rw [h1] at hi
  obtain ⟨a',c',e',r',hc'⟩:=h3 i hi
  refine ⟨a',c',?_,hc',r'⟩
  have:=hcell i hi 0 (by decide)
  rw [Nat.mul_one,Nat.add_zero,e'] at this
  exact this
end Go.Proofs.YtkoicfghplmghaaGreatDoor

namespace Go.Proofs.YtkoicfghplmghaaGreatDoor
open Go.RowKit
def ResO (w:World) (B n:Nat) (l:List Int) (e:Ending):Prop:=(mx l=0∧∃ a c,e = .returned (.tuple #[.slice a n c,.int .i64 0])∧w.ownsRow B 3 1 (.slice a n c) n (ints l))∨(mx l≠0∧e = .returned (.tuple #[.slice none 0 0,.int .i64 4]))
theorem ResO.form {w:World} {B n:Nat} {l:List Int} {e:Ending} (h:ResO w B n l e):∃ v1 v2,e = .returned (.tuple #[v1,v2]):=by
 rcases h with ⟨_,a,c,h,_⟩ | ⟨_,h⟩
 ·exact ⟨_,_,h⟩
 ·exact ⟨_,_,h⟩
theorem monResult2 (w:World) (ps xs:List Int) (a0 a1:Option Addr) (c0 c1:Nat) (rp:Rd w a0 (ints ps)) (hi:I64s ps) (hp:pcode ps=0) (B:Nat) (ro:w.ownsRow B 3 1 (.slice a1 ps.length c1) ps.length (ints xs)) (l1:xs.length=ps.length) :
  Calls Tryz.prog 186 #[.slice a0 ps.length c0,.slice a1 ps.length c1] w fun e w'=>ResO w' B ps.length xs e∧Below w.heap.size w w':=by
 have hpos:=pcode_pos hp
 have rx:Rd w a1 (ints xs):=own_rd ro
 have Hc:Hid (∀ W g,Below w.heap.size w W→W.heap[g]?=some (.cells #[.slice a1 ps.length c1] 25 (0,0))→Gives Tryz.prog 71 #[.slice a0 ps.length c0,.slice (some ⟨g,0,none⟩) 1 1] W (.int .i64 (mx xs))):=fun W g hW hg=>by
  have:=monCheckAll_any W a0 _ c0 1 ps [xs] (rp.below hW nr_) hi (by omega) (rdi_one (by rw [l1]; exact hg) (rx.below hW nr_)) (by simp) (by intro l hl'; simp only [List.mem_cons,List.not_mem_nil,or_false] at hl'; subst hl'; omega)
  have e:mcode ps [xs]=mx xs:=by
   unfold mcode
   rw [if_pos hp,mgo,mrow,if_pos l1,mgo]
   split
   ·rename_i h; exact h.symm
   ·rfl
  rw [e] at this
  exact this
 have Hx:=hd_ ro
 have Hv:Hid (∀ W e,ResO W B ps.length xs e=((mx xs=0∧∃ a c,e = .returned (.tuple #[.slice a ps.length c,.int .i64 0])∧W.ownsRow B 3 1 (.slice a ps.length c) ps.length (ints xs))∨(mx xs≠0∧e = .returned (.tuple #[.slice none 0 0,.int .i64 4])))):=fun _ _=>rfl
 have h2:=mx_two xs
 clear rp hi hp rx ro l1 hpos
 generalize hm:mx xs=m at *
 clear hm
 generalize ps.length=n at *
 have B0:=hd_ ((Below.refl w.heap.size w).alloc nr_ (.cells #[.slice a1 n c1] 25))
 rcases h2 with rfl | rfl
 ·go_enter Tryz.func186,Tryz.ntmps186
  go_wp2_with fail
  refine cm_ (Hc.out _ _ B0.out (Go.heap_alloc_new _ _)) ?_
  rintro e w1 ⟨rfl,hb1⟩
  have Hb1:=hd_ (B0.out.trans (hb1.mono B0.out.size))
  clear hb1 Hc
  go_wp2_with fail
  go_ret2
  exact ⟨by rw [Hv.out]; exact .inl ⟨(by first | trivial | rfl),a1,c1,rfl,own_below Hx.out Hb1.out nr_⟩,Hb1.out⟩
 ·go_enter Tryz.func186,Tryz.ntmps186
  go_wp2_with fail
  refine cm_ (Hc.out _ _ B0.out (Go.heap_alloc_new _ _)) ?_
  rintro e w1 ⟨rfl,hb1⟩
  have Hb1:=hd_ (B0.out.trans (hb1.mono B0.out.size))
  clear hb1 Hc
  go_wp2_with fail
  go_ret2
  exact ⟨by rw [Hv.out]; exact .inr ⟨by decide,rfl⟩,Hb1.out⟩
theorem monDif2 (w:World) (ps xs ys:List Int) (a0 a1 a2:Option Addr) (c0 c1 c2:Nat) (rp:Rd w a0 (ints ps)) (hi:I64s ps) (hp:pcode ps=0) (rx:Rd w a1 (ints xs)) (ry:Rd w a2 (ints ys)) (l1:xs.length=ps.length) (l2:ys.length=ps.length)
  (h1:Xs xs) (h2:Xs ys) :
  Calls Tryz.prog 157 #[.slice a0 ps.length c0,.slice a1 ps.length c1,.slice a2 ps.length c2,.int .i64 (-1)] w fun e w'=>ResO w' w.heap.size ps.length (subI xs ys) e∧Below w.heap.size w w':=by
 have hpos:=pcode_pos hp
 have Hc:Hid (∀ W g,Below w.heap.size w W→W.heap[g]?=some (.cells #[.slice a1 ps.length c1,.slice a2 ps.length c2] 25 (0,0))→Gives Tryz.prog 71 #[.slice a0 ps.length c0,.slice (some ⟨g,0,none⟩) 2 2] W (.int .i64 0)):=fun W g hW hg=>by
  have:=monCheckAll_any W a0 _ c0 2 ps [xs,ys] (rp.below hW nr_) hi (by omega) (rdi_two (by rw [l1,l2]; exact hg) (rx.below hW nr_) (ry.below hW nr_)) (by simp) (by intro l hl'; simp only [List.mem_cons,List.not_mem_nil,or_false] at hl'; rcases hl' with rfl | rfl <;> omega)
  rw [mcode_two hp h1 h2 l1 l2] at this
  exact this
 have Hlen:Hid ((subI xs ys).length=ps.length):=by show _=_; unfold subI; rw [List.length_zipWith]; omega
 have Hres:Hid (∀ W a c,Below w.heap.size w W→W.ownsRow w.heap.size 3 1 (.slice a ps.length c) ps.length (ints (subI xs ys))→Calls Tryz.prog 186 #[.slice a0 ps.length c0,.slice a ps.length c] W fun e w'=>ResO w' w.heap.size ps.length (subI xs ys) e∧Below W.heap.size W w'):=fun W a c hW hr =>
  monResult2 W ps (subI xs ys) a0 a c0 c (rp.below hW nr_) hi hp w.heap.size hr Hlen.out
 have Hx:=hd_ rx
 have Hy:=hd_ ry
 have Hl1:=hd_ l1
 have Hl2:=hd_ l2
 have Hb1:=hd_ h1
 have Hb2:=hd_ h2
 have B0:=hd_ ((Below.refl w.heap.size w).alloc nr_ (.cells #[.slice a1 ps.length c1,.slice a2 ps.length c2] 25))
 have hn6:=hpos.2
 clear rp hi hp rx ry l1 l2 h1 h2 hpos
 generalize ps.length=n at *
 go_enter Tryz.func157,Tryz.ntmps157
 go_wp2_with fail
 refine cm_ (Hc.out _ _ B0.out (Go.heap_alloc_new _ _)) ?_
 rintro e w1 ⟨rfl,hb⟩
 have B1:=hd_ (B0.out.trans (hb.mono B0.out.size))
 have hsz:w.heap.size≤w1.heap.size:=B1.out.size
 have O1:Hid (OwnI w1 w.heap.size none 0 (subI (xs.take 0) (ys.take 0))):=OwnI.nil w1 _
 clear hb Hc B0
 go_wp2_with fail
 go_loopw [11,23] (fun o i wr=>∃ (k:Nat) (b:Option Addr) (d:Nat),k≤n∧i = .int .i64 k∧o = .slice b k d∧Hid (OwnI wr w.heap.size b d (subI (xs.take k) (ys.take k)))∧Hid (Below w.heap.size w wr)) (fun _ i _=>n - (intOf i).toNat)
 case atStart=>exact ⟨0,none,0,Nat.zero_le _,rfl,rfl,O1,B1⟩
 case round =>
  clear B1 O1 hsz
  obtain ⟨k,b,d,hk,rfl,rfl,O,B⟩:=hrel
  by_cases hlt:k < n
  ·have hlt':(k:Int) < n:=by omega
   have hkx:k < xs.length:=by rw [Hl1.out]; exact hlt
   have hky:k < ys.length:=by rw [Hl2.out]; exact hlt
   have hx:=Hb1.out _ (List.getElem_mem hkx)
   have hy:=Hb2.out _ (List.getElem_mem hky)
   obtain ⟨b1,o1,rfl,hb1,hc1⟩:=Hx.out.open (by rw [ints_length]; omega)
   obtain ⟨b2,o2,rfl,hb2,hc2⟩:=Hy.out.open (by rw [ints_length]; omega)
   have x1:wr.cell? ⟨b1,o1 + k,none⟩=some (.int .i64 xs[k]):=by
    rw [B.out.cell (p:=⟨b1,o1 + k,none⟩) hb1]
    exact hc1 k _ (ints_get _ k hkx)
   have x2:wr.cell? ⟨b2,o2 + k,none⟩=some (.int .i64 ys[k]):=by
    rw [B.out.cell (p:=⟨b2,o2 + k,none⟩) hb2]
    exact hc2 k _ (ints_get _ k hky)
   have Hs:Hid (subI (xs.take (k + 1)) (ys.take (k + 1))=subI (xs.take k) (ys.take k) ++ [xs[k] - ys[k]]):=by
    show _=_
    unfold subI
    rw [List.take_add_one,List.take_add_one,List.getElem?_eq_getElem hkx,List.getElem?_eq_getElem hky,List.zipWith_append (by simp; omega)]
    rfl
   have Hlk:Hid ((subI (xs.take k) (ys.take k)).length=k):=by show _=_; unfold subI; rw [List.length_zipWith,List.length_take,List.length_take]; omega
   clear hc1 hc2
   generalize xs[k]=x at *
   generalize ys[k]=y at *
   have hwm:IntKind.i64.wrap (-1 * y) = -y:=by rw [show -1 * y = -y by omega]; exact iw_ _ (by omega)
   have hwa:IntKind.i64.wrap (x + -y)=x - y:=by rw [show x + -y=x - y by omega]; exact iw_ _ (by omega)
   have q1:=BW.cell x1
   have q2:=BW.cell x2
   have hnon:Nonempty (BW wr):=⟨⟨wr,Below.refl _ _⟩⟩
   have I:Hid (Below wr.heap.size wr wr.drew):=(Below.refl _ _).drew
   have Ow:Hid (wr.drew.ownsRow w.heap.size 3 1 (.slice b k d) k (ints (subI (xs.take k) (ys.take k)))):=by
    have h0:OwnI wr.drew w.heap.size b d (subI (xs.take k) (ys.take k)):=O.out.below I.out nr_
    unfold OwnI at h0
    rw [Hlk.out] at h0
    exact h0
   have Bd:=hd_ (B.out.drew)
   go_wp2_with fail
   refine RY.wp_region_readers 12 [(2,0),(2,1),(2,2),(2,3),(1,4),(2,5),(2,6),(2,7),(2,8),(1,9),(2,10),(2,11),(0,12),(0,13),(0,14)] (fun w'=>∃ p:BW wr,w'=p.w) (by kernel_rfl) (by kernel_rfl) ?_ ?_
   ·exact ⟨⟨_,I.out⟩,rfl⟩
   refine RY.walkR_any ?_
   simp only [dz_,tsc_,tz_]
   go_big_quiet_step (fail)
   refine wpQuiet_nil ?_
   refine RY.walkR_any ?_
   simp only [dsc_,dz_,tsc_,tz_]
   go_big_quiet_step (fail)
   refine wpQuiet_nil ?_
   refine RY.walkR_any ?_
   simp only [dsc_,dz_,tsc_,tz_]
   go_big_quiet_step (fail)
   refine wpQuiet_nil ?_
   refine RY.walkR_any ?_
   simp only [dsc_,dz_,tsc_,tz_]
   go_big_quiet_step (fail)
   refine wpQuiet_nil ?_
   refine RY.walkR_read ?_
   simp only [dsc_,dz_,tsc_,tz_]
   go_big_quiet_step (fail)
   refine wpQuiet_nil ?_
   refine RY.walkR_any ?_
   simp only [dsc_,dz_,tsc_,tz_]
   go_big_quiet_step (fail)
   refine wpQuiet_nil ?_
   refine RY.walkR_any ?_
   simp only [dsc_,dz_,tsc_,tz_]
   go_big_quiet_step (fail)
   refine wpQuiet_nil ?_
   refine RY.walkR_any ?_
   simp only [dsc_,dz_,tsc_,tz_]
   go_big_quiet_step (fail)
   refine wpQuiet_nil ?_
   refine RY.walkR_any ?_
   simp only [dsc_,dz_,tsc_,tz_]
   go_big_quiet_step (fail)
   refine wpQuiet_nil ?_
   refine RY.walkR_read ?_
   simp only [dsc_,dz_,tsc_,tz_]
   go_big_quiet_step (fail)
   refine wpQuiet_nil ?_
   refine RY.walkR_any ?_
   simp only [dsc_,dz_,tsc_,tz_]
   go_big_quiet_step (fail)
   refine wpQuiet_nil ?_
   refine RY.walkR_any ?_
   simp only [dsc_,dz_,tsc_,tz_]
   go_big_quiet_step (fail)
   refine wpQuiet_nil ?_
   clear hnon q1 q2
   refine RY.walkR_move ?_
   simp only [dsc_,dz_,tsc_,tz_]
   go_wp2_with fail
   refine RY.walkR_move ?_
   simp only [dsc_,dz_,tsc_,tz_]
   show wpList _ _ _ _ _ (wr.drew.alloc (Obj.cells ([Value.int .i64 (x - y)]).toArray 3))
   refine wpList_append_new rfl (.tmp 26) (.tmp 38) 25 rfl elRow _ 1 [.int .i64 (x - y)] rfl rfl Ow.out Bd.out.size rfl (by simp [Value.oneCell']) (by omega) (by omega) ?_
   intro v' w3 hown3 hg3 hnil3
   have B3:Hid (Below w.heap.size w w3):=(Bd.out.alloc Bd.out.size _).grown hg3 (Nat.le_trans Bd.out.size (by rw [World.size_alloc]; omega)) (fun j hj=>by have:=(Ow.out.lt j hj).1; omega)
   obtain ⟨b3,d3,rfl⟩:=own_form hown3
   have O3:Hid (OwnI w3 w.heap.size b3 d3 (subI (xs.take (k + 1)) (ys.take (k + 1)))):=by
    show w3.ownsRow _ _ _ _ _ _
    rw [Hs.out,List.length_append,Hlk.out,ints_append]
    exact hown3
   clear hown3 hg3 hnil3 Ow I Bd B O
   simp only [wpList]
   refine ⟨trivial,.inl rfl,?_⟩
   refine RY.walkR_move ?_
   simp only [dsc_,dz_,tsc_,tz_]
   go_wp2_with fail
   simp only [RY.walkR]
   go_wp2_with fail
   go_roundw
   case rel=>exact ⟨k + 1,b3,d3,by omega,by go_num,rfl,O3,B3⟩
   case measure=>simp [intOf]; omega
  ·have hlt':¬ (k:Int) < n:=by omega
   have hkn:k=n:=by omega
   subst hkn
   have Hfull:Hid (subI (xs.take k) (ys.take k)=subI xs ys):=by
    show _=_
    rw [List.take_of_length_le (by rw [Hl1.out]; exact Nat.le_refl _),List.take_of_length_le (by rw [Hl2.out]; exact Nat.le_refl _)]
   rw [Hfull.out] at O
   have Rr:Hid (wr.ownsRow w.heap.size 3 1 (.slice b k d) k (ints (subI xs ys))):=by
    have h:=O.out
    unfold OwnI at h
    rw [Hlen.out] at h
    exact h
   have Hr:=hd_ (Hres.out wr b d B.out Rr.out)
   clear Hres O Hfull
   go_wp2_with fail
   refine cm_ Hr.out ?_
   rintro e w2 ⟨hr2,hb⟩
   have B2:=hd_ (B.out.trans (hb.mono B.out.size))
   have HR2:=hd_ hr2
   clear hb hr2 Hr
   obtain ⟨v1,v2,rfl⟩:∃ v1 v2,e = .returned (.tuple #[v1,v2]):=HR2.out.form
   go_wp2_with fail
   go_ret2
   exact ⟨HR2.out,B2.out⟩
theorem monSub2 (w:World) (ps xs ys:List Int) (a0 a1 a2:Option Addr) (c0 c1 c2:Nat) (rp:Rd w a0 (ints ps)) (hi:I64s ps) (hp:pcode ps=0) (rx:Rd w a1 (ints xs)) (ry:Rd w a2 (ints ys)) (l1:xs.length=ps.length) (l2:ys.length=ps.length)
  (h1:Xs xs) (h2:Xs ys) :
  Calls Tryz.prog 113 #[.slice a0 ps.length c0,.slice a1 ps.length c1,.slice a2 ps.length c2] w fun e w'=>ResO w' w.heap.size ps.length (subI xs ys) e∧Below w.heap.size w w':=by
 have Hc:=hd_ (monDif2 w ps xs ys a0 a1 a2 c0 c1 c2 rp hi hp rx ry l1 l2 h1 h2)
 clear rp hi hp rx ry l1 l2 h1 h2
 generalize subI xs ys=z at *
 generalize ps.length=n at *
 go_enter Tryz.func113,Tryz.ntmps113
 go_wp2_with fail
 refine cm_ Hc.out ?_
 rintro e w1 ⟨hr,hb⟩
 have R1:=hd_ hr
 have B1:=hd_ hb
 clear hr hb Hc
 obtain ⟨v1,v2,rfl⟩:=R1.out.form
 go_wp2_with fail
 go_ret2
 exact ⟨R1.out,B1.out⟩
theorem lsub2 (w:World) (a1 a2:Option Addr) (c1 c2 n:Nat) (xs ys:List Int) (rx:Rd w a1 (ints xs)) (ry:Rd w a2 (ints ys)) (l1:xs.length=n) (l2:ys.length=n) (hn6:n≤1000)
  (h1:Bd 1000000000000000 xs) (h2:Bd 1000000000000000 ys) :
  Calls Tryz.prog 48 #[.slice a1 n c1,.slice a2 n c2] w fun e w'=>∃ a c,e = .returned (.slice a n c)∧w'.ownsRow w.heap.size 3 1 (.slice a n c) n (ints (subI xs ys))∧Below w.heap.size w w':=by
 have Hx:=hd_ rx
 have Hy:=hd_ ry
 have Hl1:=hd_ l1
 have Hl2:=hd_ l2
 have Hb1:=hd_ h1
 have Hb2:=hd_ h2
 have O1:Hid (OwnI w w.heap.size none 0 (subI (xs.take 0) (ys.take 0))):=OwnI.nil w _
 have Hlen:Hid ((subI xs ys).length=n):=by show _=_; rw [subI_length (l1.trans l2.symm),l1]
 clear rx ry l1 l2 h1 h2
 go_enter Tryz.func48,Tryz.ntmps48
 go_wp2_with fail
 go_loopw [5,9] (fun o i wr=>∃ (k:Nat) (b:Option Addr) (d:Nat),k≤n∧i = .int .i64 k∧o = .slice b k d∧Hid (OwnI wr w.heap.size b d (subI (xs.take k) (ys.take k)))∧Hid (Below w.heap.size w wr)) (fun _ i _=>n - (intOf i).toNat)
 case atStart=>exact ⟨0,none,0,Nat.zero_le _,rfl,rfl,O1,Below.refl _ _⟩
 case round =>
  clear O1
  obtain ⟨k,b,d,hk,rfl,rfl,O,B⟩:=hrel
  by_cases hlt:k < n
  ·have hlt':(k:Int) < n:=by omega
   have hkx:k < xs.length:=by rw [Hl1.out]; exact hlt
   have hky:k < ys.length:=by rw [Hl2.out]; exact hlt
   have hx:=Hb1.out _ (List.getElem_mem hkx)
   have hy:=Hb2.out _ (List.getElem_mem hky)
   obtain ⟨b1,o1,rfl,hb1,hc1⟩:=Hx.out.open (by rw [ints_length]; omega)
   obtain ⟨b2,o2,rfl,hb2,hc2⟩:=Hy.out.open (by rw [ints_length]; omega)
   have x1:wr.cell? ⟨b1,o1 + k,none⟩=some (.int .i64 xs[k]):=by
    rw [B.out.cell (p:=⟨b1,o1 + k,none⟩) hb1]
    exact hc1 k _ (ints_get _ k hkx)
   have x2:wr.cell? ⟨b2,o2 + k,none⟩=some (.int .i64 ys[k]):=by
    rw [B.out.cell (p:=⟨b2,o2 + k,none⟩) hb2]
    exact hc2 k _ (ints_get _ k hky)
   have Hs:Hid (subI (xs.take (k + 1)) (ys.take (k + 1))=subI (xs.take k) (ys.take k) ++ [xs[k] - ys[k]]):=by
    show _=_
    unfold subI
    rw [List.take_add_one,List.take_add_one,List.getElem?_eq_getElem hkx,List.getElem?_eq_getElem hky,List.zipWith_append (by simp; omega)]
    rfl
   have Hlk:Hid ((subI (xs.take k) (ys.take k)).length=k):=by show _=_; unfold subI; rw [List.length_zipWith,List.length_take,List.length_take]; omega
   clear hc1 hc2
   generalize xs[k]=x at *
   generalize ys[k]=y at *
   have hwa:IntKind.i64.wrap (x - y)=x - y:=iw_ _ (by omega)
   have q1:=BW.cell x1
   have q2:=BW.cell x2
   have hnon:Nonempty (BW wr):=⟨⟨wr,Below.refl _ _⟩⟩
   have I:Hid (Below wr.heap.size wr wr.drew):=(Below.refl _ _).drew
   have Ow:Hid (wr.drew.ownsRow w.heap.size 3 1 (.slice b k d) k (ints (subI (xs.take k) (ys.take k)))):=by
    have h0:OwnI wr.drew w.heap.size b d (subI (xs.take k) (ys.take k)):=O.out.below I.out nr_
    unfold OwnI at h0
    rw [Hlk.out] at h0
    exact h0
   have Bd:=hd_ (B.out.drew)
   go_wp2_with fail
   refine RY.wp_region_readers 10 [(2,0),(2,1),(2,2),(2,3),(1,4),(2,5),(2,6),(2,7),(1,8),(2,9),(0,10),(0,11),(0,12)] (fun w'=>∃ p:BW wr,w'=p.w) (by kernel_rfl) (by kernel_rfl) ?_ ?_
   ·exact ⟨⟨_,I.out⟩,rfl⟩
   refine RY.walkR_any ?_
   simp only [dz_,tsc_,tz_]
   go_big_quiet_step (fail)
   refine wpQuiet_nil ?_
   refine RY.walkR_any ?_
   simp only [dsc_,dz_,tsc_,tz_]
   go_big_quiet_step (fail)
   refine wpQuiet_nil ?_
   refine RY.walkR_any ?_
   simp only [dsc_,dz_,tsc_,tz_]
   go_big_quiet_step (fail)
   refine wpQuiet_nil ?_
   refine RY.walkR_any ?_
   simp only [dsc_,dz_,tsc_,tz_]
   go_big_quiet_step (fail)
   refine wpQuiet_nil ?_
   refine RY.walkR_read ?_
   simp only [dsc_,dz_,tsc_,tz_]
   go_big_quiet_step (fail)
   refine wpQuiet_nil ?_
   refine RY.walkR_any ?_
   simp only [dsc_,dz_,tsc_,tz_]
   go_big_quiet_step (fail)
   refine wpQuiet_nil ?_
   refine RY.walkR_any ?_
   simp only [dsc_,dz_,tsc_,tz_]
   go_big_quiet_step (fail)
   refine wpQuiet_nil ?_
   refine RY.walkR_any ?_
   simp only [dsc_,dz_,tsc_,tz_]
   go_big_quiet_step (fail)
   refine wpQuiet_nil ?_
   refine RY.walkR_read ?_
   simp only [dsc_,dz_,tsc_,tz_]
   go_big_quiet_step (fail)
   refine wpQuiet_nil ?_
   refine RY.walkR_any ?_
   simp only [dsc_,dz_,tsc_,tz_]
   go_big_quiet_step (fail)
   refine wpQuiet_nil ?_
   clear hnon q1 q2
   refine RY.walkR_move ?_
   simp only [dsc_,dz_,tsc_,tz_]
   go_wp2_with fail
   refine RY.walkR_move ?_
   simp only [dsc_,dz_,tsc_,tz_]
   show wpList _ _ _ _ _ (wr.drew.alloc (Obj.cells ([Value.int .i64 (x - y)]).toArray 3))
   refine wpList_append_new rfl (.tmp 12) (.tmp 22) 25 rfl elRow _ 1 [.int .i64 (x - y)] rfl rfl Ow.out Bd.out.size rfl (by simp [Value.oneCell']) (by omega) (by omega) ?_
   intro v' w3 hown3 hg3 hnil3
   have B3:Hid (Below w.heap.size w w3):=(Bd.out.alloc Bd.out.size _).grown hg3 (Nat.le_trans Bd.out.size (by rw [World.size_alloc]; omega)) (fun j hj=>by have:=(Ow.out.lt j hj).1; omega)
   obtain ⟨b3,d3,rfl⟩:=own_form hown3
   have O3:Hid (OwnI w3 w.heap.size b3 d3 (subI (xs.take (k + 1)) (ys.take (k + 1)))):=by
    show w3.ownsRow _ _ _ _ _ _
    rw [Hs.out,List.length_append,Hlk.out,ints_append]
    exact hown3
   clear hown3 hg3 hnil3 Ow I Bd B O
   simp only [wpList]
   refine ⟨trivial,.inl rfl,?_⟩
   refine RY.walkR_move ?_
   simp only [dsc_,dz_,tsc_,tz_]
   go_wp2_with fail
   simp only [RY.walkR]
   go_wp2_with fail
   go_roundw
   case rel=>exact ⟨k + 1,b3,d3,by omega,by go_num,rfl,O3,B3⟩
   case measure=>simp [intOf]; omega
  ·have hlt':¬ (k:Int) < n:=by omega
   have hkn:k=n:=by omega
   subst hkn
   have Hfull:Hid (subI (xs.take k) (ys.take k)=subI xs ys):=by
    show _=_
    rw [List.take_of_length_le (by rw [Hl1.out]; exact Nat.le_refl _),List.take_of_length_le (by rw [Hl2.out]; exact Nat.le_refl _)]
   rw [Hfull.out] at O
   have Rr:Hid (wr.ownsRow w.heap.size 3 1 (.slice b k d) k (ints (subI xs ys))):=by
    have h:=O.out
    unfold OwnI at h
    rw [Hlen.out] at h
    exact h
   clear O Hfull
   go_wp2_with fail
   go_ret
   exact ⟨b,d,rfl,Rr.out,B.out⟩
end Go.Proofs.YtkoicfghplmghaaGreatDoor

namespace Go.Proofs.YtkoicfghplmghaaGreatDoor
open Go.RowKit
structure OrdAt (W:World) (ps:List Int) (g2 g3:Nat) (a0 al:Option Addr) (c0 cl:Nat) (l:List (List Int)):Prop where
 h2:W.heap[g2]?=some (.cells #[.slice a0 ps.length c0] 24 (0,0))
 h3:W.heap[g3]?=some (.cells #[.slice al l.length cl] 26 (0,0))
 rp:Rd W a0 (ints ps)
 rl:RdI W al l
theorem OrdAt.below {W W':World} {ps:List Int} {g2 g3:Nat} {a0 al:Option Addr} {c0 cl:Nat} {l:List (List Int)} (h:OrdAt W ps g2 g3 a0 al c0 cl l) {D:Nat} (hb:Below D W W') (hD:W.heap.size≤D):OrdAt W' ps g2 g3 a0 al c0 cl l :=
 ⟨heap_kept h.h2 hb hD,heap_kept h.h3 hb hD,h.rp.below hb hD,h.rl.below hb hD⟩
theorem ord1_any (w:World) (ps:List Int) (P:PrOk ps) (g2 g3:Nat) (a0 al:Option Addr) (c0 cl:Nat) (l:List (List Int)) (S:OrdAt w ps g2 g3 a0 al c0 cl l) (V:Iv ps.length l) (i j:Nat) (hi:i < l.length) (hj:j < l.length) (L:Laid w) :
  Gives Tryz.prog 91 #[.int .i64 i,.int .i64 j,.pointer (some ⟨g2,0,none⟩),.pointer (some ⟨g3,0,none⟩)] w (.int .i64 (cL (cI ps) l i j)):=by
 unfold Gives
 have ez:cL (cI ps) l i j=cI ps (l.getD i []) (l.getD j []):=by unfold cL; rw [if_pos ⟨hi,hj⟩]
 obtain ⟨b,off,rfl,hb,hcells⟩:∃ b off,al=some ⟨b,off,none⟩∧b < w.heap.size∧∀ i,i < l.length→∃ a' c',w.cell? ⟨b,off + i,none⟩=some (.slice a' ps.length c')∧Rd w a' (ints (l.getD i [])):=by
  rcases S.rl with h | ⟨b,off,h1,h2,h3⟩
  ·rw [h] at hi; exact absurd hi (Nat.not_lt_zero _)
  ·refine ⟨b,off,h1,h2,fun i hi=>?_⟩
   obtain ⟨a',c',k1,k2⟩:=h3 i hi
   rw [(V _ (getD_memI hi)).1] at k1
   exact ⟨a',c',k1,k2⟩
 obtain ⟨a1,c1,k1,r1⟩:=hcells i hi
 obtain ⟨a2,c2,k2,r2⟩:=hcells j hj
 have HC:Hid (∀ W,Below w.heap.size w W→Gives Tryz.prog 46 #[.slice a0 ps.length c0,.slice a1 ps.length c1,.slice a2 ps.length c2] W (.int .i64 (cL (cI ps) l i j))):=fun W hW=>by
  rw [ez]
  exact lcompare_ok W ps P a0 a1 a2 c0 c1 c2 _ _ (S.rp.below hW nr_) (r1.below hW nr_) (r2.below hW nr_) (V _ (getD_memI hi)).1 (V _ (getD_memI hj)).1 (V _ (getD_memI hi)).2 (V _ (getD_memI hj)).2 (L.below hW)
 have m2:=(one_cell S.h2).1
 have m3:=(one_cell S.h3).1
 have q1:=BW.cell k1
 have q2:=BW.cell k2
 have q3:=BW.cell m2
 have q4:=BW.cell m3
 have hnon:Nonempty (BW w):=⟨⟨w,Below.refl _ _⟩⟩
 have I:Hid (Below w.heap.size w w.drew):=(Below.refl _ _).drew
 have hi':(i:Int) < l.length:=by omega
 have hj':(j:Int) < l.length:=by omega
 clear S V P L ez hcells r1 r2 hb
 generalize cL (cI ps) l i j=z at *
 generalize l.length=m at *
 generalize ps.length=n at *
 go_enter Tryz.func91,Tryz.ntmps91
 go_wp2_with fail
 clear k1 k2 m2 m3
 refine RY.wp_region_readers 9 [(1,0),(1,1),(1,2),(1,3),(1,4),(1,5),(1,6),(1,7),(1,8),(0,9),(0,10)] (fun w'=>∃ p:BW w,w'=p.w) (by kernel_rfl) (by kernel_rfl) ?_ ?_
 ·exact ⟨⟨_,I.out⟩,rfl⟩
 iterate 9 (refine RY.walkR_read ?_; simp only [dsc_,dz_,tsc_,tz_]; go_big_quiet_step (fail); refine wpQuiet_nil ?_)
 clear hnon q1 q2 q3 q4
 refine RY.walkR_move ?_
 simp only [dsc_,dz_,tsc_,tz_]
 go_wp2_with fail
 refine cm_ (HC.out _ I.out) ?_
 rintro e_ w2 ⟨rfl,hb_⟩
 have B2:=hd_ (I.out.trans (hb_.mono I.out.size))
 clear hb_ I HC
 go_wp2_with fail
 refine RY.walkR_move ?_
 simp only [dsc_,dz_,tsc_,tz_]
 go_wp2_with fail
 simp only [RY.walkR]
 go_wp2_with fail
 go_ret
 exact ⟨rfl,B2.out⟩
theorem stable_nilO (w:World) (P2 P3:Value):Calls Tryz.prog 90 #[.slice none 0 0,.func (.func 91) #[] #[P2,P3]] w fun e w'=>e = .returned (.tuple #[])∧w'=w:=by
 have H1:Hid (Calls Tryz.prog 182 #[.slice none 0 0,.int .i64 0,.int .i64 0,.func (.func 91) #[] #[P2,P3]] w fun e w'=>e = .returned (.tuple #[])∧w'=w):=by
  show Calls _ _ _ _ _
  go_enter Tryz.func182,Tryz.ntmps182
  go_wp2_with fail
  refine wp_loop_rounds 1 ?_
  rw [rounds_succ]
  go_wp2
  go_end0
  exact ⟨rfl,rfl⟩
 have H2:Hid (Calls Tryz.prog 146 #[.slice none 0 0,.int .i64 0,.func (.func 91) #[] #[P2,P3]] w fun e w'=>e = .returned (.tuple #[])∧w'=w):=by
  show Calls _ _ _ _ _
  go_enter Tryz.func146,Tryz.ntmps146
  go_wp2_with fail
  refine wp_loop_rounds 1 ?_
  rw [rounds_succ]
  go_wp2_with fail
  refine cm_ H1.out ?_
  rintro e w1 ⟨rfl,rfl⟩
  go_wp2_with fail
  refine wp_loop_rounds 1 ?_
  rw [rounds_succ]
  go_wp2
  go_end0
  exact ⟨rfl,rfl⟩
 clear H1
 go_enter Tryz.func90,Tryz.ntmps90
 go_wp2_with fail
 refine cm_ H2.out ?_
 rintro e w1 ⟨rfl,rfl⟩
 go_wp2_with fail
 go_end0
 exact ⟨rfl,rfl⟩
end Go.Proofs.YtkoicfghplmghaaGreatDoor

namespace Go.Proofs.YtkoicfghplmghaaGreatDoor
open Go.RowKit
theorem cI_le {ps:List Int} (P:PrOk ps) (l:List (List Int)) (u v:Nat) : -1≤cL (cI ps) l u v∧cL (cI ps) l u v≤1:=by
 unfold cL
 split
 ·unfold cI; rcases sz_cases P.pos (difQ (rq (l.getD u [])) (rq (l.getD v []))) with h | h | h <;> omega
 ·omega
theorem lorder_ok (w:World) (ps:List Int) (P:PrOk ps) (a0 al:Option Addr) (c0 cl:Nat) (l:List (List Int)) (rp:Rd w a0 (ints ps)) (rl:RdI w al l) (V:Iv ps.length l) (hm:l.length≤1000) (pc:Pre (cL (cI ps) l) l.length) (L:Laid w) :
  Calls Tryz.prog 29 #[.slice a0 ps.length c0,.slice al l.length cl] w fun e w'=>∃ a c F,e = .returned (.slice a l.length c)∧Fin' (cL (cI ps) l) l.length F∧Rd w' a (ints ((List.range l.length).map fun (k:Nat)=>((F k:Nat):Int)))∧Below w.heap.size w w':=by
 have HL:=hd_ L
 have HP:=hd_ P
 have HV:=hd_ V
 have Hpc:=hd_ pc
 have Hrp:=hd_ rp
 have Hrl:=hd_ rl
 clear L P rp rl V pc
 have B0:=hd_ ((((Below.refl w.heap.size w).alloc nr_ (.cells #[.slice a0 ps.length c0] 24)).alloc (by simp) (.cells #[.slice al l.length cl] 26)))
 have K2:=hd_ (heap_old (heap_at w #[.slice a0 ps.length c0] 24 _ rfl) (.cells #[.slice al l.length cl] 26))
 have K3:=hd_ (heap_at (w.alloc (.cells #[.slice a0 ps.length c0] 24)) #[.slice al l.length cl] 26 (w.heap.size + 1) (by simp))
 have S0:Hid (OrdAt ((w.alloc (.cells #[.slice a0 ps.length c0] 24)).alloc (.cells #[.slice al l.length cl] 26)) ps w.heap.size (w.heap.size + 1) a0 al c0 cl l) :=
  ⟨K2.out,K3.out,Hrp.out.below B0.out nr_,Hrl.out.below B0.out nr_⟩
 clear K2 K3 Hrp Hrl
 have m2:=(one_cell S0.out.h2).1
 have m3:=(one_cell S0.out.h3).1
 obtain ⟨m,hmm⟩:∃ m,l.length=m:=⟨_,rfl⟩
 obtain ⟨n,hnn⟩:∃ n,ps.length=n:=⟨_,rfl⟩
 rw [hmm] at hm
 simp only [hmm,hnn] at B0 S0 m2 m3 ⊢
 have Hm:=hd_ hmm
 clear hmm hnn
 go_enter Tryz.func29,Tryz.ntmps29
 go_wp2_with fail
 generalize hw2:(w.alloc (.cells #[.slice a0 n c0] 24)).alloc (.cells #[.slice al m cl] 26)=w2 at *
 clear m2 hw2 m3
 have B2:=B0
 have S2:=S0
 clear B0 S0
 go_loopw [5,9] (fun o z wr=>∃ (j:Nat) (a:Option Addr) (c:Nat),j≤m∧z = .int .i64 j∧o = .slice a j c∧Hid (j=0→a=none∧c=0)∧Hid (wr.ownsRow w2.heap.size 3 1 (.slice a j c) j (ints (idL j)))∧Hid (Below w2.heap.size w2 wr)) (fun _ z _=>m - (intOf z).toNat)
 case atStart=>exact ⟨0,none,0,Nat.zero_le _,rfl,rfl,fun _=>⟨rfl,rfl⟩,World.ownsRow_nil ..,Below.refl _ _⟩
 case round =>
  obtain ⟨j,a,c,hj,rfl,rfl,HN,HR,HB⟩:=hrel
  by_cases hlt:j < m
  ·have hlt':(j:Int) < m:=by omega
   go_wp2_with (at_builtin; refine wpList_append_new rfl (.tmp 12) (.tmp 14) 23 rfl elIntS _ 1 [.int .i64 j] rfl rfl HR.out HB.out.size rfl ?c1 (by omega) (by omega) ?_)
   case c1=>first | rfl | (intro u hu; obtain rfl:=List.mem_singleton.1 hu; rfl)
   intro v' w3 hown3 hg3 _
   obtain ⟨a3,c3,rfl⟩:=own_form hown3
   have HB3:Hid (Below w2.heap.size w2 w3):=(HB.out.alloc HB.out.size _).grown hg3 (by have:=HB.out.size; simp; omega) (fun k hk=>(HR.out.lt k hk).1)
   have HR3:Hid (w3.ownsRow w2.heap.size 3 1 (.slice a3 (j + 1) c3) (j + 1) (ints (idL (j + 1)))):=by
    rw [idL_succ,ints_append]
    exact hown3
   clear hown3 hg3 HB HR HN
   go_wp2
   go_roundw
   case rel=>exact ⟨j + 1,a3,c3,by omega,by go_num,rfl,fun h=>by omega,HR3,HB3⟩
   case measure=>simp [intOf]; omega
  ·have hlt':¬ (j:Int) < m:=by omega
   obtain rfl:j=m:=by omega
   have SR:=hd_ (S2.out.below HB.out nr_)
   rcases Nat.eq_zero_or_pos j with h0 | h0
   ·subst h0
    obtain ⟨rfl,rfl⟩:=HN.out rfl
    have Hs:=hd_ (stable_nilO wr (.pointer (some ⟨w.heap.size,0,none⟩)) (.pointer (some ⟨w.heap.size + 1,0,none⟩)))
    clear HN HR
    go_wp2_with fail
    refine cm_ Hs.out ?_
    rintro e w4 ⟨rfl,rfl⟩
    clear Hs
    go_wp2_with fail
    go_ret
    exact ⟨none,0,fun k=>k,rfl,⟨fun k hk=>absurd hk (Nat.not_lt_zero _),fun k _ hk=>absurd hk (Nat.not_lt_zero _),fun k hk=>absurd hk (Nat.not_lt_zero _)⟩,.inl rfl,B2.out.trans (HB.out.mono B2.out.size)⟩
   ·obtain ⟨g,cap,hv,hg1,hg2,hg3,hg4,hg5⟩:=own_open HR.out h0
    obtain ⟨rfl,rfl⟩:a=some ⟨g,0,none⟩∧c=cap:=by
     simp only [Value.slice.injEq] at hv
     exact ⟨hv.1,hv.2.2⟩
    have hrow:RowF wr g j fun k=>k:=⟨hg2,fun k hk=>by
     rw [hg4 k (by omega),ints_get _ k (by rw [idL_length]; exact hk)]
     simp [idL],hg5⟩
    have Hs:=hd_ (stableG_any wr w2.heap.size g j c 91 #[.pointer (some ⟨w.heap.size,0,none⟩),.pointer (some ⟨w.heap.size + 1,0,none⟩)] (enters_of Tryz.func91 (by kernel_rfl) rfl) (cL (cI ps) l) (by have:=Hpc.out; rw [Hm.out] at this; exact this) (cI_le HP.out l) hg1 hm hrow fun W hW i k hi hk =>
     ord1_any W ps HP.out _ _ a0 al c0 cl l (S2.out.below (HB.out.trans hW) nr_) HV.out i k (by rw [Hm.out]; exact hi) (by rw [Hm.out]; exact hk) (HL.out.below ((B2.out.trans (HB.out.mono B2.out.size)).trans (hW.mono B2.out.size))))
    clear HN HR hv hg1 hg2 hg3 hg4 hg5 hrow
    go_wp2_with fail
    refine cm_ Hs.out ?_
    rintro e w4 ⟨rfl,F,hF,hR,hb⟩
    have HF:=hd_ hF
    have HR:=hd_ hR
    have HB4:=hd_ (HB.out.trans hb)
    clear Hs hF hR hb
    go_wp2_with fail
    go_ret
    exact ⟨some ⟨g,0,none⟩,c,F,rfl,HF.out,HR.out.rd,B2.out.trans (HB4.out.mono B2.out.size)⟩
end Go.Proofs.YtkoicfghplmghaaGreatDoor

namespace Go.Proofs.YtkoicfghplmghaaGreatDoor
open Go.RowKit
theorem cS_cL (ps:List Int) (l:List (List Int)):cS ps (l.map rq)=cL (cI ps) l:=by
 funext u v
 unfold cS cL cI
 rw [List.length_map]
 by_cases h:u < l.length∧v < l.length
 ·rw [if_pos h,if_pos h]
  have e:∀ i,i < l.length→(l.map rq).getD i []=rq (l.getD i []):=fun i hi=>by
   rw [List.getD_eq_getElem?_getD,List.getD_eq_getElem?_getD,List.getElem?_map,List.getElem?_eq_getElem hi]; rfl
  rw [e u h.1,e v h.2]
 ·rw [if_neg h,if_neg h]
theorem lorder_iv (w:World) (ps:List Int) (P:PrOk ps) (a0 al:Option Addr) (c0 cl:Nat) (l:List (List Int)) (rp:Rd w a0 (ints ps)) (rl:RdI w al l) (V:Iv ps.length l) (hm:l.length≤1000) (L:Laid w) :
  Calls Tryz.prog 29 #[.slice a0 ps.length c0,.slice al l.length cl] w fun e w'=>∃ a c F,e = .returned (.slice a l.length c)∧Fin' (cS ps (l.map rq)) l.length F∧Rd w' a (ints ((List.range l.length).map fun (k:Nat)=>((F k:Nat):Int)))∧Below w.heap.size w w':=by
 have pc:=cS_pre (sortOk_iv P V)
 rw [cS_cL,List.length_map] at pc
 rw [cS_cL]
 exact lorder_ok w ps P a0 al c0 cl l rp rl V hm pc L
end Go.Proofs.YtkoicfghplmghaaGreatDoor

namespace Go.Proofs.YtkoicfghplmghaaGreatDoor
open Go.RowKit Go.Shelf
def withB (ps low high x:List Int) (most:Int):Bool := !x.any (farM most) && insB ps low high x
end Go.Proofs.YtkoicfghplmghaaGreatDoor

namespace Go.Proofs.YtkoicfghplmghaaGreatDoor
open Go.RowKit
def ownL (ps low high:List Int) (m:Nat):List (List Int):=(rowsL ps.length m).filter fun x=>withB ps low high x m
end Go.Proofs.YtkoicfghplmghaaGreatDoor

namespace Go.Proofs.YtkoicfghplmghaaGreatDoor
open Go.RowKit Go.Shelf
def gapF (l:List (List Int)) (F:Nat→Nat) (k:Nat):List Int:=subI (l.getD (F (k + 1)) []) (l.getD (F k) [])
def gapsL (l:List (List Int)) (F:Nat→Nat) (j:Nat):List (List Int):=(List.range j).map (gapF l F)
theorem gapsL_length (l:List (List Int)) (F:Nat→Nat) (j:Nat):(gapsL l F j).length=j:=by simp [gapsL]
theorem gapF_len {n:Nat} {l:List (List Int)} {F:Nat→Nat} (hr:Iv n l) {k:Nat} (h1:F (k + 1) < l.length) (h2:F k < l.length):(gapF l F k).length=n:=by
 unfold gapF
 have a1:=(hr _ (getD_memI h1)).1
 have a2:=(hr _ (getD_memI h2)).1
 rw [subI_length (by omega),a1]
def GapP (ps:List Int) (l:List (List Int)) (w':World) (e:Ending):Prop :=
 ∃ F,Fin' (cS ps (l.map rq)) l.length F∧(((∀ k,k + 1 < l.length→mx (gapF l F k)=0)∧∃ a c,e = .returned (.tuple #[.slice a (l.length - 1) c,.int .i64 0])∧RdI w' a (gapsL l F (l.length - 1)))∨((∃ k,k + 1 < l.length∧mx (gapF l F k)≠0)∧e = .returned (.tuple #[.slice none 0 0,.int .i64 4])))
theorem GapP.ok {ps:List Int} {l:List (List Int)} {w':World} {a:Option Addr} {c:Nat} {F:Nat→Nat} (hF:Fin' (cS ps (l.map rq)) l.length F) (h:∀ k,k + 1 < l.length→mx (gapF l F k)=0) (hr:RdI w' a (gapsL l F (l.length - 1))):GapP ps l w' (.returned (.tuple #[.slice a (l.length - 1) c,.int .i64 0])):=⟨F,hF,.inl ⟨h,a,c,rfl,hr⟩⟩
theorem GapP.far {ps:List Int} {l:List (List Int)} {w':World} {F:Nat→Nat} (hF:Fin' (cS ps (l.map rq)) l.length F) {k:Nat} (h:k + 1 < l.length) (hk:mx (gapF l F k)≠0):GapP ps l w' (.returned (.tuple #[.slice none 0 0,.int .i64 4])):=⟨F,hF,.inr ⟨⟨k,h,hk⟩,rfl⟩⟩
def lsG (n m:Nat) (l:List (List Int)) (F:Nat→Nat) (i:Nat):List Int:=if i + 1 < m then gapF l F i else List.replicate n 0
theorem lsG_len {n m:Nat} {l:List (List Int)} {F:Nat→Nat} (hr:Iv n l) (hm:l.length=m) (h:∀ k,k < m→F k < m) (i:Nat):(lsG n m l F i).length=n:=by
 unfold lsG
 split
 ·rename_i h1
  exact gapF_len hr (by rw [hm]; exact h _ h1) (by rw [hm]; exact h _ (by omega))
 ·exact List.length_replicate
theorem iGaps_ok (w:World) (ps:List Int) (P:PrOk ps) (a0 al:Option Addr) (c0 cl:Nat) (l:List (List Int)) (rp:Rd w a0 (ints ps)) (rl:RdI w al l) (hn:Nil0 al l.length cl) (hl:l.length≤19) (hr:Iv ps.length l) (L:Laid w) :
  Calls Tryz.prog 58 #[.slice a0 ps.length c0,.slice al l.length cl] w fun e w'=>Below w.heap.size w w'∧GapP ps l w' e:=by
 have HSo:=hd_ (iSort_ok w ps P a0 al c0 cl l rp rl hn hl hr L)
 have HM:Hid (∀ W a1 a2 c1 c2 x y,Below w.heap.size w W→Rd W a1 (ints x)→Rd W a2 (ints y)→x∈l→y∈l→Calls Tryz.prog 113 #[.slice a0 ps.length c0,.slice a1 ps.length c1,.slice a2 ps.length c2] W fun e w'=>ResO w' W.heap.size ps.length (subI x y) e∧Below W.heap.size W w'):=fun W a1 a2 c1 c2 x y hW h1 h2 m1 m2 =>
  monSub2 W ps x y a0 a1 a2 c0 c1 c2 (rp.below hW nr_) P.i64 P.p0 h1 h2 (hr x m1).1 (hr y m2).1 (hr x m1).2 (hr y m2).2
 have Hrl:Hid (∀ i,i < l.length→∃ b off,al=some ⟨b,off,none⟩∧b < w.heap.size∧∃ a' c',w.cell? ⟨b,off + i,none⟩=some (.slice a' ps.length c')∧Rd w a' (ints (l.getD i []))):=fun i hi=>by
  rcases rl with h | ⟨b,off,h1,h2,h3⟩
  ·rw [h] at hi; exact absurd hi (Nat.not_lt_zero _)
  ·obtain ⟨a',c',k1,k2⟩:=h3 i hi
   rw [(hr _ (getD_memI hi)).1] at k1
   exact ⟨b,off,h1,h2,a',c',k1,k2⟩
 have Hmem:Hid (∀ i,i < l.length→l.getD i []∈l):=fun i hi=>getD_memI hi
 have Hlen:Hid (∀ F:Nat→Nat,(∀ k,k < l.length→F k < l.length)→∀ i,(lsG ps.length l.length l F i).length=ps.length):=fun F h i=>lsG_len hr rfl h i
 have HGok:Hid (∀ (w':World) (a:Option Addr) (c:Nat) (F:Nat→Nat),Fin' (cS ps (l.map rq)) l.length F→(∀ k,k + 1 < l.length→mx (gapF l F k)=0)→RdI w' a (gapsL l F (l.length - 1))→GapP ps l w' (.returned (.tuple #[.slice a (l.length - 1) c,.int .i64 0]))):=fun w' a c F h1 h2 h3=>GapP.ok h1 h2 h3
 have HGfar:Hid (∀ (w':World) (F:Nat→Nat) (k:Nat),Fin' (cS ps (l.map rq)) l.length F→k + 1 < l.length→mx (gapF l F k)≠0→GapP ps l w' (.returned (.tuple #[.slice none 0 0,.int .i64 4]))):=fun w' F k h1 h2 h3=>GapP.far h1 h2 h3
 have hn0:=P.n0
 clear rp rl hn hr L P
 obtain ⟨m,hm⟩:∃ m,l.length=m:=⟨_,rfl⟩
 obtain ⟨n,hnn⟩:∃ n,ps.length=n:=⟨_,rfl⟩
 generalize hGP:GapP ps l=GP at *
 clear hGP
 generalize hCS:cS ps (l.map rq)=cs at *
 clear hCS
 simp only [hnn,hm] at HSo HM Hrl Hmem Hlen HGok HGfar hl hn0 ⊢
 have Hm:=hd_ hm
 have Hn0:=hd_ hn0
 clear hm hnn hn0
 go_enter Tryz.func58,Tryz.ntmps58
 go_wp2_with fail
 refine cm_ HSo.out ?_
 rintro e_ w1 ⟨ao,co,F,rfl,hF,hro,hb⟩
 have HF:=hd_ hF
 have HRo:=hd_ hro
 have B1:=hd_ hb
 have Hls:=hd_ (Hlen.out F hF.lt)
 clear hF hro hb HSo Hlen
 go_wp2_with fail
 go_loopw [8,24] (fun o z wr=>∃ (i:Nat) (b:Option Addr) (d:Nat) (LL:List (Nat×Nat)),i≤m∧z = .int .i64 i∧o = .slice b LL.length d∧Hid (LL.length=i - 1)∧Hid (∀ k,k + 1 < i→mx (gapF l F k)=0)∧Hid (OwnW wr w1.heap.size b d n LL (lsG n m l F))∧Hid (Below w1.heap.size w1 wr)) (fun _ z _=>m - (intOf z).toNat)
 case atStart=>exact ⟨0,none,0,[],Nat.zero_le _,rfl,rfl,rfl,fun k hk=>absurd hk (Nat.not_lt_zero _),OwnW.nil _ _ _ _ Hls.out,Below.refl _ _⟩
 case round =>
  obtain ⟨i,b,d,LL,hi,rfl,rfl,HL,HZ,HO,HB⟩:=hrel
  have Bw:=hd_ (B1.out.trans (HB.out.mono B1.out.size))
  by_cases hlt:i < m
  ·have hlt':(i:Int) < m:=by omega
   have hFi:=HF.out.lt i hlt
   have hFi':((F i:Nat):Int) < m:=by omega
   obtain ⟨bo,oo,rfl,hbo,hco⟩:=HRo.out.open (by rw [ints_length,List.length_map,List.length_range]; omega)
   have ko:=hco i (.int .i64 (F i:Nat)) (by
    unfold ints
    rw [List.getElem?_map,List.getElem?_map,List.getElem?_range hlt]; rfl)
   have ko':=(HB.out.cell (p:=⟨bo,oo + i,none⟩) hbo).trans ko
   clear ko
   rcases Nat.eq_zero_or_pos i with hz | hz
   ·have hzb:((i:Int) == 0)=true:=by rw [beq_iff_eq]; omega
    have HL1:Hid (LL.length=(i + 1) - 1):=by have:=HL.out; show LL.length=_; omega
    have Hz:=hd_ hz
    clear hco Hrl hz
    generalize F i=f0 at *
    go_wp2_with fail
    go_roundw
    case rel=>exact ⟨i + 1,b,d,LL,by omega,by go_num,rfl,HL1,fun k hk=>by have:=Hz.out; omega,HO,HB⟩
    case measure=>simp [intOf]; omega
   ·obtain ⟨j,hj⟩:∃ j,j + 1=i:=⟨i - 1,by omega⟩
    have hz':(0:Int) < i:=by omega
    have hzb:((i:Int) == 0)=false:=by rw [beq_eq_false_iff_ne]; omega
    have hwj:IntKind.i64.wrap ((i:Int) - 1)=(j:Nat):=by rw [show (i:Int) - 1=(j:Nat) by omega]; exact iw_ _ (by omega)
    have hjm:j < m:=by omega
    have hjm':(j:Int) < m:=by omega
    have hFj:=HF.out.lt j hjm
    have hFj':((F j:Nat):Int) < m:=by omega
    have kp:=hco j (.int .i64 (F j:Nat)) (by
     unfold ints
     rw [List.getElem?_map,List.getElem?_map,List.getElem?_range hjm]; rfl)
    have kp':=(HB.out.cell (p:=⟨bo,oo + j,none⟩) hbo).trans kp
    obtain ⟨b2,o2,e1,hb2,a3,c3,k3,r3⟩:=Hrl.out (F i) hFi
    obtain ⟨b4,o4,e2,hb4,a4,c4,k4,r4⟩:=Hrl.out (F j) hFj
    subst e1
    simp only [Option.some.injEq,Addr.mk.injEq,and_true] at e2
    obtain ⟨rfl,rfl⟩:=e2
    have k3':=(Bw.out.cell (p:=⟨b2,o2 + F i,none⟩) hb2).trans k3
    have k4':=(Bw.out.cell (p:=⟨b2,o2 + F j,none⟩) hb2).trans k4
    have I:Hid (Below wr.heap.size wr wr.drew):=(Below.refl _ _).drew
    have HM1:=hd_ (HM.out wr.drew a3 a4 c3 c4 _ _ (Bw.out.trans (I.out.mono Bw.out.size)) ((r3.below Bw.out nr_).below I.out nr_) ((r4.below Bw.out nr_).below I.out nr_) (Hmem.out _ hFi) (Hmem.out _ hFj))
    have HG:Hid (subI (l.getD (F i) []) (l.getD (F j) [])=gapF l F j):=by show _=_; unfold gapF; rw [hj]
    rw [HG.out] at HM1
    have HL1:Hid (LL.length=j):=by show _=j; rw [HL.out]; omega
    have Hj:=hd_ hj
    clear hco kp k3 k4 r3 r4 HG HL hj
    generalize F i=fi at *
    generalize F j=fj at *
    have q1:=BW.cell ko'
    have q2:=BW.cell kp'
    have q3:=BW.cell k3'
    have q4:=BW.cell k4'
    have hnon:Nonempty (BW wr):=⟨⟨wr,Below.refl _ _⟩⟩
    go_wp2_with fail
    clear ko' kp' k3' k4'
    refine RY.wp_region_readers 13 [(2,0),(2,1),(2,2),(2,3),(1,4),(2,5),(2,6),(2,7),(2,8),(2,9),(1,10),(2,11),(1,12),(0,13),(0,14),(2,15),(2,16),(0,17),(0,18)] (fun w'=>∃ p:BW wr,w'=p.w) (by kernel_rfl) (by kernel_rfl) ?_ ?_
    ·exact ⟨⟨_,I.out⟩,rfl⟩
    iterate 4 (refine RY.walkR_any ?_; simp only [dsc_,dz_,tsc_,tz_]; go_big_quiet_step (fail); refine wpQuiet_nil ?_)
    iterate 1 (refine RY.walkR_read ?_; simp only [dsc_,dz_,tsc_,tz_]; go_big_quiet_step (fail); refine wpQuiet_nil ?_)
    iterate 5 (refine RY.walkR_any ?_; simp only [dsc_,dz_,tsc_,tz_]; go_big_quiet_step (fail); refine wpQuiet_nil ?_)
    iterate 1 (refine RY.walkR_read ?_; simp only [dsc_,dz_,tsc_,tz_]; go_big_quiet_step (fail); refine wpQuiet_nil ?_)
    iterate 1 (refine RY.walkR_any ?_; simp only [dsc_,dz_,tsc_,tz_]; go_big_quiet_step (fail); refine wpQuiet_nil ?_)
    iterate 1 (refine RY.walkR_read ?_; simp only [dsc_,dz_,tsc_,tz_]; go_big_quiet_step (fail); refine wpQuiet_nil ?_)
    clear hnon q1 q2 q3 q4
    refine RY.walkR_move ?_
    simp only [dsc_,dz_,tsc_,tz_]
    go_wp2_with fail
    refine cm_ HM1.out ?_
    rintro e_ w5 ⟨hres,hb_⟩
    have D1:Hid (Below wr.heap.size wr w5):=I.out.trans (hb_.mono I.out.size)
    have Hsz:=hd_ (show wr.heap.size≤wr.drew.heap.size from I.out.size)
    have HRes:=hd_ hres
    clear hres hb_ HM1 I
    obtain ⟨v1,v2,rfl⟩:=HRes.out.form
    go_wp2_with fail
    refine RY.walkR_move ?_
    simp only [dsc_,dz_,tsc_,tz_]
    go_wp2_with fail
    iterate 2 (refine RY.walkR_any ?_; simp only [dsc_,dz_,tsc_,tz_]; go_big_quiet_step (fail); refine wpQuiet_nil ?_)
    iterate 2 (refine RY.walkR_move ?_; simp only [dsc_,dz_,tsc_,tz_]; go_wp2_with fail)
    simp only [RY.walkR]
    have B5:=hd_ (HB.out.trans (D1.out.mono HB.out.size))
    have O5:=hd_ (HO.out.below D1.out nr_)
    have Hws:=hd_ HB.out.size
    have Bw5:=hd_ (Bw.out.trans (D1.out.mono Bw.out.size))
    clear HO HB D1 Bw
    rcases HRes.out with ⟨hmx,a6,c6,he,ho⟩ | ⟨hmx,he⟩
    ·simp only [Ending.returned.injEq,Value.tuple.injEq] at he
     obtain ⟨rfl,rfl⟩:v1 = .slice a6 n c6∧v2 = .int .i64 0:=by simpa using he
     obtain ⟨g,cap,hv,hg1,-,-,-,-⟩:=own_open ho Hn0.out
     obtain ⟨rfl,rfl⟩:a6=some ⟨g,0,none⟩∧c6=cap:=by
      simp only [Value.slice.injEq] at hv
      exact ⟨hv.1,hv.2.2⟩
     have HO6:Hid (OwnI w5 w1.heap.size (some ⟨g,0,none⟩) c6 (lsG n m l F LL.length)):=by
      have e:lsG n m l F LL.length=gapF l F j:=by unfold lsG; rw [HL1.out,if_pos (by have:=Hj.out; omega)]
      have hlen:(gapF l F j).length=n:=by rw [← e]; exact Hls.out _
      rw [e]
      refine OwnI.lower15 (l:=gapF l F j) ?_ (Nat.le_trans Hws.out Hsz.out)
      unfold OwnI
      rw [hlen]
      exact ho
     have HZ2:Hid (∀ k,k + 1 < i + 1→mx (gapF l F k)=0):=fun k hk=>by
      by_cases h:k + 1 < i
      ·exact HZ.out k h
      ·have:k=j:=by have:=Hj.out; omega
       subst this
       exact hmx
     have hsz5:=B5.out.size
     clear he ho hv hg1 HRes hmx HZ
     have hbd:LL.length < 19:=by have:=HL1.out; omega
     go_wp2_with (at_builtin; refine wpList_append_new rfl (.tmp 51) (.tmp 53) 26 rfl elRw _ 1 [.slice (some ⟨g,0,none⟩) n c6] rfl rfl O5.out.row hsz5 rfl ?c1 (by omega) (by omega) ?_)
     case c1=>first | rfl | (intro u hu; obtain rfl:=List.mem_singleton.1 hu; rfl)
     intro v' w8 hown hg _
     obtain ⟨b',d',rfl,OW⟩:=OwnW.put (w1:=w5) O5.out HO6.out hown hg
     have W8:=hd_ OW
     have B8:Hid (Below w1.heap.size w1 w8):=(B5.out.alloc B5.out.size _).grown hg (by have:=B5.out.size; simp; omega) (fun k hk=>(O5.out.row.lt k hk).1)
     have Hl8:Hid ((LL ++ [(g,c6)]).length=(i + 1) - 1):=by show (LL ++ [(g,c6)]).length=_; rw [List.length_append,HL1.out]; have:=Hj.out; simp; omega
     have e8:LL.length + 1=(LL ++ [(g,c6)]).length:=by simp
     clear hown hg OW O5 HO6 B5
     rw [e8]
     go_wp2_with fail
     go_roundw
     case rel=>exact ⟨i + 1,b',d',LL ++ [(g,c6)],by omega,by go_num,rfl,Hl8,HZ2,W8,B8⟩
     case measure=>simp [intOf]; omega
    ·simp only [Ending.returned.injEq,Value.tuple.injEq] at he
     obtain ⟨rfl,rfl⟩:v1 = .slice none 0 0∧v2 = .int .i64 4:=by simpa using he
     have HQ:=hd_ (HGfar.out w5 F j HF.out (by have:=Hj.out; omega) hmx)
     clear he HRes O5 B5 HZ
     go_wp2_with fail
     go_ret2
     exact ⟨Bw5.out,HQ.out⟩
  ·have hlt':¬ (i:Int) < m:=by omega
   obtain rfl:i=m:=by omega
   have Hfin:Hid (RdI wr b (gapsL l F (i - 1))):=by
    refine HO.out.rdi (by rw [gapsL_length,HL.out]) fun k hk=>?_
    rw [gapsL_length] at hk
    unfold gapsL lsG
    rw [List.getD_eq_getElem?_getD,List.getElem?_map,List.getElem?_range hk,if_pos (by omega)]
    rfl
   have HQ:=hd_ (HGok.out wr b d F HF.out HZ.out Hfin.out)
   rw [HL.out]
   clear HO HZ HL Hfin HGok HGfar
   go_wp2_with fail
   go_ret2
   exact ⟨Bw.out,HQ.out⟩
end Go.Proofs.YtkoicfghplmghaaGreatDoor

namespace Go.Proofs.YtkoicfghplmghaaGreatDoor
open Go.RowKit
theorem Abs_dec (w:World) (ps:List Int) (a0 a1:Option Addr) (c0 c1:Nat) (la:List Rat) (A:SizeOk w ps a0 a1 la 30) (hp:pcode ps=0) (hpos:∀ p∈ps,0 < p) (g:Good ps la) (L:Laid w) :
  Calls Tryz.prog 21 #[.slice a0 ps.length c0,.slice a1 ps.length c1] w fun e w'=>∃ a c,e = .returned (.tuple #[.slice a ps.length c,.int .i64 0])∧Rd w' a (cellsQ (combineQ la la ((LN.sz ps la:Int):Rat) 0))∧Below w.heap.size w w':=by
 have hn:=A.n
 have Hc:=hd_ (Sign_dec w ps a0 a1 c0 c1 la A hp g L)
 have hr:=sz_cases hpos la
 generalize LN.sz ps la=r at *
 have hrb : -1≤r∧r≤1:=by omega
 have hfac:max r (-r) * (2 * max r 0 - 1)=r:=by rcases hr with h | h | h <;> rw [h] <;> rfl
 have hk:Sm 2 (r:Rat):=⟨by rw [Rat.num_intCast]; omega,by rw [Rat.den_intCast]; decide⟩
 have Hnum:Hid (∀ W,Below w.heap.size w W→Gives Tryz.prog 79 #[.int .i64 r] W (.agg #[.string (itx r),.string (dec 1)])):=fun W hW=>number_any W r (by omega) (by omega) (L.below hW)
 have HS:Hid (∀ W g1 g2,Below w.heap.size w W→W.heap[g1]?=some (.cells #[.slice a1 ps.length c1] 47 (0,0))→W.heap[g2]?=some (.cells #[.string (itx r),.string (dec 1)] 58 (0,0)) →
   Calls Tryz.prog 78 #[.int .i64 ps.length,.slice (some ⟨g1,0,none⟩) 1 1,.slice (some ⟨g2,0,none⟩) 1 1] W fun e w'=>∃ a c,e = .returned (.slice a ps.length c)∧Rd w' a (cellsQ (combineQ la la (r:Rat) 0))∧Below W.heap.size W w'):=fun W g1 g2 hW h1 h2=>by
  have h:=sum_one W g1 g2 a1 c1 ps.length 30 la (r:Rat) (by rw [A.len]; exact h1) (by rw [Rat.num_intCast,Rat.den_intCast]; exact h2) (A.below hW).rl A.len A.sm hk (by omega) (by decide) (L.below hW)
  rw [sumQ_onek _ _ _ A.len] at h
  unfold GivesQ at h
  rw [combineQ_length _ _ _ _ rfl,A.len] at h
  refine cm_ h ?_
  rintro e w' ⟨a,c,rfl,ho,hb⟩
  exact ⟨a,c,rfl,ho.rd,hb⟩
 clear A hp L hr hk hpos g
 generalize combineQ la la (r:Rat) 0=S at *
 generalize ps.length=n at *
 generalize itx r=s1 at *
 generalize dec 1=s2 at *
 obtain ⟨m1,hm1⟩:∃ m,max r (-r)=m:=⟨_,rfl⟩
 obtain ⟨m2,hm2⟩:∃ m,max r 0=m:=⟨_,rfl⟩
 have b1:0≤m1∧m1≤1:=by omega
 have b2:0≤m2∧m2≤1:=by omega
 rw [hm1,hm2] at hfac
 go_enter Tryz.func21,Tryz.ntmps21
 go_wp2_with fail
 refine cm_ Hc.out ?_
 rintro e w1 ⟨rfl,hb⟩
 have B1:=hd_ hb
 clear hb Hc
 go_wp2_with fail
 have K1:=hd_ (heap_at w1 #[.slice a1 n c1] 47 _ rfl)
 have B2:=hd_ (B1.out.alloc B1.out.size (.cells #[.slice a1 n c1] 47))
 generalize hw2:w1.alloc (.cells #[.slice a1 n c1] 47)=w2 at *
 clear hw2 B1
 refine cm_ (Hnum.out _ B2.out) ?_
 rintro e w3 ⟨rfl,hb⟩
 have K3:=hd_ (heap_kept K1.out hb nr_)
 have B3:=hd_ (B2.out.trans (hb.mono B2.out.size))
 clear hb K1 B2
 go_wp2_with fail
 have K4:=hd_ (heap_old K3.out (.cells #[.string s1,.string s2] 58))
 have B4:=hd_ (B3.out.alloc B3.out.size (.cells #[.string s1,.string s2] 58))
 have M4:=hd_ (heap_at w3 #[.string s1,.string s2] 58 _ rfl)
 generalize hw4:w3.alloc (.cells #[.string s1,.string s2] 58)=w4 at *
 clear hw4 B3 K3
 refine cm_ (HS.out _ _ _ B4.out K4.out M4.out) ?_
 rintro e w5 ⟨a5,c5,rfl,ho,hb⟩
 have R5:=hd_ ho
 have B5:=hd_ (B4.out.trans (hb.mono B4.out.size))
 clear hb ho HS
 go_wp2_with fail
 go_ret2
 exact ⟨a5,c5,rfl,R5.out,B5.out⟩
end Go.Proofs.YtkoicfghplmghaaGreatDoor

namespace Go.Proofs.YtkoicfghplmghaaGreatDoor
open Go.RowKit
def absI (ps x:List Int):List Int:=x.map fun a=>LN.sz ps (rq x) * a
theorem absI_length (ps x:List Int):(absI ps x).length=x.length:=by simp [absI]
theorem absI_bd {ps x:List Int} {N:Nat} (hp:∀ p∈ps,0 < p) (h:Bd N x):Bd N (absI ps x):=fun a ha=>by
 obtain ⟨b,hb,rfl⟩:=List.mem_map.1 ha
 have:=h b hb
 rcases sz_cases hp (rq x) with e | e | e <;> rw [e] <;> omega
theorem absQ_rq (ps x:List Int):combineQ (rq x) (rq x) ((LN.sz ps (rq x):Int):Rat) 0=rq (absI ps x):=by
 unfold combineQ absI
 generalize LN.sz ps (rq x)=r
 unfold rq
 refine List.ext_getElem (by simp) fun i h1 h2=>?_
 simp only [List.getElem_zipWith,List.getElem_map]
 rw [Rat.intCast_mul]
 grind
theorem subI_neg (x y:List Int):subI x y=(subI y x).map fun a => -a:=by
 unfold subI
 rw [List.map_zipWith]
 refine List.ext_getElem (by simp; omega) fun i h1 h2=>?_
 simp only [List.getElem_zipWith]
 omega
theorem absI_neg {ps:List Int} (hp:∀ p∈ps,0 < p) (x y:List Int):absI ps (subI x y)=absI ps (subI y x):=by
 rw [subI_neg x y]
 unfold absI
 have e:rq ((subI y x).map fun a => -a)=(rq (subI y x)).map fun q => -q:=by
  unfold rq
  rw [List.map_map,List.map_map]
  refine List.map_congr_left fun a _=>?_
  simp
 rw [e,LN.sz_neg hp,List.map_map]
 refine List.map_congr_left fun a _=>?_
 show -LN.sz ps (rq (subI y x)) * -a=_
 rw [Int.neg_mul_neg]
theorem cI_self {ps:List Int} (hp:∀ p∈ps,0 < p) (x:List Int):cI ps x x=0:=by
 unfold cI
 rw [difQ_rq rfl]
 refine LN.sz_zero hp fun q hq=>?_
 obtain ⟨a,ha,rfl⟩:=List.mem_map.1 hq
 obtain ⟨i,hi,rfl⟩:=List.mem_iff_getElem.1 ha
 simp [subI]
def awI (ps x y:List Int):List Int:=absI ps (subI y x)
def nrB (c:Nat→Nat→Int):Nat→Nat
 | 0=>0
 | k + 1=>if c k (nrB c k) < 0 then k else nrB c k
theorem nrB_lt (c:Nat→Nat→Int):∀ k,0 < k→nrB c k < k
 | 1,_=>by rw [nrB]; split <;> simp [nrB]
 | k + 2,_=>by
  have:=nrB_lt c (k + 1) (by omega)
  rw [nrB]
  split <;> omega
theorem nrB_le (c:Nat→Nat→Int) (k:Nat):nrB c k≤k:=by
 rcases Nat.eq_zero_or_pos k with rfl | h
 ·exact Nat.le_refl _
 ·exact Nat.le_of_lt (nrB_lt c k h)
def cNr (ps x:List Int) (l:List (List Int)) (i k:Nat):Int:=cI ps (awI ps x (l.getD i [])) (awI ps x (l.getD k []))
end Go.Proofs.YtkoicfghplmghaaGreatDoor

namespace Go.Proofs.YtkoicfghplmghaaGreatDoor
open Go.RowKit
theorem asub_ok {W:World} {ps:List Int} (P:PrOk ps) {a0 a1 a2:Option Addr} (c0 c1 c2:Nat) {x y:List Int} (rp:Rd W a0 (ints ps)) (r1:Rd W a1 (cellsQ (rq x))) (r2:Rd W a2 (cellsQ (rq y)))
  (l1:x.length=ps.length) (l2:y.length=ps.length) (s1:Bd 50000 x) (s2:Bd 50000 y) (L:Laid W) :
  Calls Tryz.prog 114 #[.slice a0 ps.length c0,.slice a1 ps.length c1,.slice a2 ps.length c2] W fun e w'=>∃ a c,e = .returned (.tuple #[.slice a ps.length c,.int .i64 0])∧Rd w' a (cellsQ (rq (subI x y)))∧Below W.heap.size W w':=by
 have e:sumQ ps.length [rq x,rq y] [1,(((-1):Int):Rat)]=rq (subI x y):=by
  rw [sumQ_two _ _ _ _ _ (by rw [rq_length,l1]) (by rw [rq_length,l2]),← difQ_rq (l1.trans l2.symm)]
  unfold difQ
  rw [rat_one_int]
 have h:=sub_gen W ps a0 a1 a2 c0 c1 c2 (rq x) (rq y) rp P.i64 P.p0 r1 r2 (by rw [rq_length,l1]) (by rw [rq_length,l2]) (s1.sm (by decide) (by decide)) (s2.sm (by decide) (by decide)) L
 rw [e] at h
 have hs:sumCode (rq (subI x y))=0:=by
  unfold sumCode
  rw [if_pos (shortAll_sm ((s1.sub s2).sm (D:=6) (by decide) (by decide)) (by decide))]
 unfold GivesC at h
 rw [hs,rq_length,rq_length,rq_length,subI_length (l1.trans l2.symm),l1,l2] at h
 refine cm_ h ?_
 rintro e w' ⟨a,c,rfl,hr,hb⟩
 exact ⟨a,c,by rw [if_pos rfl],hr rfl,hb⟩
theorem aabs_ok {W:World} {ps:List Int} (P:PrOk ps) {a0 a1:Option Addr} (c0 c1:Nat) {x:List Int} (rp:Rd W a0 (ints ps)) (r1:Rd W a1 (cellsQ (rq x)))
  (l1:x.length=ps.length) (s1:Bd 50000 x) (L:Laid W) :
  Calls Tryz.prog 21 #[.slice a0 ps.length c0,.slice a1 ps.length c1] W fun e w'=>∃ a c,e = .returned (.tuple #[.slice a ps.length c,.int .i64 0])∧Rd w' a (cellsQ (rq (absI ps x)))∧Below W.heap.size W w':=by
 have h6:=P.n6
 have h:=Abs_dec W ps a0 a1 c0 c1 (rq x) ⟨rp,r1,by rw [rq_length,l1],by omega,P.pr,s1.sm (by decide) (by decide),by decide⟩ P.p0 P.pos (s1.good (by decide) P) L
 rw [absQ_rq] at h
 exact h
theorem iNearest_ok (w:World) (ps:List Int) (P:PrOk ps) (a0 al ax:Option Addr) (c0 cl cx:Nat) (l:List (List Int)) (x:List Int) (rp:Rd w a0 (ints ps)) (rl:RdI w al l) (rx:Rd w ax (ints x)) (hn:Nil0 al l.length cl) (hl:l.length≤19) (h0:0 < l.length) (hr:Iv ps.length l) (lx:x.length=ps.length) (sx:Xs x) (L:Laid w) :
  Gives Tryz.prog 59 #[.slice a0 ps.length c0,.slice al l.length cl,.slice ax ps.length cx] w (.tuple #[.int .i64 (nrB (cNr ps x l) l.length:Nat),.int .i64 0]):=by
 unfold Gives
 have h6:=P.n6
 have HOp:Hid (∀ W g,Below w.heap.size w W→W.heap[g]?=some (.cells #[.slice ax ps.length cx] 25 (0,0))→Gives Tryz.prog 93 #[.slice a0 ps.length c0,.slice al l.length cl,.slice (some ⟨g,0,none⟩) 1 1] W (.int .i64 0)):=fun W g hW hg=>by
  have:=open_any W a0 al (some ⟨g,0,none⟩) c0 cl 1 ps l [x] (rp.below hW nr_) P.i64 (by omega) (rl.below hW nr_) (rdi_one (by rw [lx]; exact hg) (rx.below hW nr_)) hn (fun h=>by cases h) (by omega) (by simp) (fun y hy=>by
   rcases List.mem_append.1 hy with h | h
   ·have:=(hr y h).1; omega
   ·obtain rfl:=List.mem_singleton.1 h; omega)
  unfold ocode at this
  rw [if_pos P.p0,if_neg (by omega),mgo_iv.2 (show Iv ps.length (l ++ [x]) from fun y hy=>by
   rcases List.mem_append.1 hy with h | h
   ·exact hr y h
   ·obtain rfl:=List.mem_singleton.1 h; exact ⟨lx,sx⟩)] at this
  exact this
 have HZ1:Hid (∀ W g,Below w.heap.size w W→W.heap[g]?=some (.cells #[.slice ax ps.length cx] 25 (0,0))→Calls Tryz.prog 67 #[.slice a0 ps.length c0,.slice (some ⟨g,0,none⟩) 1 1] W fun e w'=>∃ b off d a' c',e = .returned (.slice (some ⟨b,off,none⟩) 1 d)∧w'.cell? ⟨b,off,none⟩=some (.slice a' ps.length c')∧Rd w' a' (cellsQ (rq x))∧Below W.heap.size W w'):=fun W g hW hg=>by
  have:=isizes_ok W ps P a0 (some ⟨g,0,none⟩) c0 1 [x] (rp.below hW nr_) (rdi_one (by rw [lx]; exact hg) (rx.below hW nr_)) (by simp) (fun y hy=>by obtain rfl:=List.mem_singleton.1 hy; exact ⟨lx,sx⟩) (L.below hW)
  refine cm_ this ?_
  rintro e w' ⟨b,d,LL,rfl,ho,hb⟩
  obtain ⟨b',off,rfl,hb',hc⟩:=rdl_cells ho.rdl ho.lens (by simp)
  obtain ⟨a',c',k1,k2⟩:=hc 0 (by simp)
  exact ⟨b',off,d,a',c',rfl,by simpa using k1,k2,hb⟩
 have HZ2:Hid (∀ W,Below w.heap.size w W→Calls Tryz.prog 67 #[.slice a0 ps.length c0,.slice al l.length cl] W fun e w'=>∃ b off d,e = .returned (.slice (some ⟨b,off,none⟩) l.length d)∧b < w'.heap.size∧(∀ i,i < l.length→∃ a' c',w'.cell? ⟨b,off + i,none⟩=some (.slice a' ps.length c')∧Rd w' a' (cellsQ (rq (l.getD i []))))∧Below W.heap.size W w'):=fun W hW=>by
  have:=isizes_ok W ps P a0 al c0 cl l (rp.below hW nr_) (rl.below hW nr_) (by omega) hr (L.below hW)
  refine cm_ this ?_
  rintro e w' ⟨b,d,LL,rfl,ho,hb⟩
  obtain ⟨b',off,rfl,hb',hc⟩:=rdl_cells ho.rdl ho.lens (by rw [List.length_map]; exact h0)
  refine ⟨b',off,d,rfl,hb',fun i hi=>?_,hb⟩
  obtain ⟨a',c',k1,k2⟩:=hc i (by rw [List.length_map]; exact hi)
  refine ⟨a',c',k1,?_⟩
  have e:(l.map rq).getD i []=rq (l.getD i []):=by rw [List.getD_eq_getElem?_getD,List.getD_eq_getElem?_getD,List.getElem?_map,List.getElem?_eq_getElem hi]; rfl
  rw [e] at k2
  exact k2
 have hbx:=sx.bd.le (show 1000≤50000 by decide)
 have hbl:∀ i,i < l.length→(l.getD i []).length=ps.length∧Bd 1000 (l.getD i []):=fun i hi=>⟨(hr _ (getD_memI hi)).1,(hr _ (getD_memI hi)).2.bd⟩
 have HS:Hid (∀ W i a1 a2 c1 c2,Below w.heap.size w W→i < l.length→Rd W a1 (cellsQ (rq (l.getD i [])))→Rd W a2 (cellsQ (rq x))→Calls Tryz.prog 114 #[.slice a0 ps.length c0,.slice a1 ps.length c1,.slice a2 ps.length c2] W fun e w'=>∃ a c,e = .returned (.tuple #[.slice a ps.length c,.int .i64 0])∧Rd w' a (cellsQ (rq (subI (l.getD i []) x)))∧Below W.heap.size W w'):=fun W i a1 a2 c1 c2 hW hi r1 r2 =>
  asub_ok P c0 c1 c2 (rp.below hW nr_) r1 r2 (hbl i hi).1 lx ((hbl i hi).2.le (by decide)) hbx (L.below hW)
 have HA:Hid (∀ W i a1 c1,Below w.heap.size w W→i < l.length→Rd W a1 (cellsQ (rq (subI (l.getD i []) x)))→Calls Tryz.prog 21 #[.slice a0 ps.length c0,.slice a1 ps.length c1] W fun e w'=>∃ a c,e = .returned (.tuple #[.slice a ps.length c,.int .i64 0])∧Rd w' a (cellsQ (rq (awI ps x (l.getD i []))))∧Below W.heap.size W w'):=fun W i a1 c1 hW hi r1 =>
  aabs_ok P c0 c1 (rp.below hW nr_) r1 (by rw [subI_length ((hbl i hi).1.trans lx.symm),(hbl i hi).1]) (((hbl i hi).2.sub sx.bd).le (by decide)) (L.below hW)
 have hba:∀ i,i < l.length→(awI ps x (l.getD i [])).length=ps.length∧Bd 50000 (awI ps x (l.getD i [])):=fun i hi =>
  ⟨by unfold awI; rw [absI_length,subI_length ((hbl i hi).1.trans lx.symm),(hbl i hi).1],absI_bd P.pos (((hbl i hi).2.sub sx.bd).le (by decide))⟩
 have HC:Hid (∀ W i k a1 a2 c1 c2,Below w.heap.size w W→i < l.length→k < l.length→Rd W a1 (cellsQ (rq (awI ps x (l.getD i []))))→Rd W a2 (cellsQ (rq (awI ps x (l.getD k []))))→Gives Tryz.prog 105 #[.slice a0 ps.length c0,.slice a1 ps.length c1,.slice a2 ps.length c2] W (.tuple #[.int .i64 (cNr ps x l i k),.int .i64 0])):=fun W i k a1 a2 c1 c2 hW hi hk r1 r2 =>
  cmpI_ok P c0 c1 c2 (rp.below hW nr_) r1 r2 (hba i hi).1 (hba k hk).1 (hba i hi).2 (hba k hk).2 (L.below hW)
 have Hc0:Hid (cNr ps x l 0 0=0):=cI_self P.pos _
 clear rp rl rx hn hr lx sx L P h6 hbx hbl hba
 generalize hC:cNr ps x l=cN at *
 clear hC
 obtain ⟨m,hm⟩:∃ m,l.length=m:=⟨_,rfl⟩
 obtain ⟨n,hnn⟩:∃ n,ps.length=n:=⟨_,rfl⟩
 have Hm:Hid (l.length=m):=hm
 simp only [hnn,hm] at HOp HZ1 HZ2 HS HA HC hl h0 ⊢
 clear hm hnn
 have hm0:¬ (m:Int)=0:=by omega
 have B0:=hd_ ((Below.refl w.heap.size w).alloc nr_ (.cells #[.slice ax n cx] 25))
 have P0:=hd_ (heap_at w #[.slice ax n cx] 25 _ rfl)
 have HOp1:=hd_ (HOp.out _ _ B0.out P0.out)
 go_enter Tryz.func59,Tryz.ntmps59
 go_wp2_with fail
 refine cm_ HOp1.out ?_
 rintro e_ w1 ⟨rfl,hb⟩
 have B1:=hd_ (B0.out.trans (hb.mono B0.out.size))
 clear hb HOp HOp1 B0 P0
 have B2:=hd_ (B1.out.alloc B1.out.size (.cells #[.slice ax n cx] 25))
 have P2:=hd_ (heap_at w1 #[.slice ax n cx] 25 _ rfl)
 have HZ:=hd_ (HZ1.out _ _ B2.out P2.out)
 go_wp2_with fail
 refine cm_ HZ.out ?_
 rintro e_ w3 ⟨b1,o1,d1,a5,c5,rfl,k5,hr5,hb⟩
 have B3:=hd_ (B2.out.trans (hb.mono B2.out.size))
 have R5:=hd_ hr5
 clear hb hr5 HZ HZ1 B1 B2 P2
 go_wp2_with fail
 refine cm_ (HZ2.out _ B3.out) ?_
 rintro e_ w4 ⟨b2,o2,d2,rfl,hb2,hc2,hb⟩
 have B4:=hd_ (B3.out.trans (hb.mono B3.out.size))
 have R5:=hd_ (R5.out.below hb nr_)
 have HC2:=hd_ hc2
 clear hb hc2 HZ2 B3 k5
 go_wp2_with fail
 trace_state
 go_loopw [10,11,39] (fun be le z wr=>∃ (i:Nat) (a:Option Addr) (c k:Nat),i≤m∧z = .int .i64 i∧be = .int .i64 (nrB cN i:Nat)∧le = .slice a k c∧Hid (0 < i→k=n∧Rd wr a (cellsQ (rq (awI ps x (l.getD (nrB cN i) [])))))∧Hid (Below w4.heap.size w4 wr)) (fun _ _ z _=>m - (intOf z).toNat)
 case atStart=>exact ⟨0,none,0,0,Nat.zero_le _,rfl,rfl,rfl,fun h=>absurd h (Nat.lt_irrefl _),Below.refl _ _⟩
 case round =>
  obtain ⟨i,a,c,k,hi,rfl,rfl,rfl,HR,HB⟩:=hrel
  have Bw:=hd_ (B4.out.trans (HB.out.mono B4.out.size))
  by_cases hlt:i < m
  ·have hlt':(i:Int) < m:=by omega
   obtain ⟨a6,c6,k6,hr6⟩:=HC2.out i hlt
   have k6':=(HB.out.cell (p:=⟨b2,o2 + i,none⟩) hb2).trans k6
   have HS1:=hd_ (HS.out wr i a6 a5 c6 c5 Bw.out hlt (hr6.below HB.out nr_) (R5.out.below HB.out nr_))
   clear k6 hr6
   go_wp2_with fail
   refine cm_ HS1.out ?_
   rintro e_ w5 ⟨a7,c7,rfl,hr7,hb⟩
   have B5:=hd_ (HB.out.trans (hb.mono HB.out.size))
   have HA1:=hd_ (HA.out w5 i a7 c7 (B4.out.trans (B5.out.mono B4.out.size)) hlt hr7)
   have HR5:Hid (0 < i→k=n∧Rd w5 a (cellsQ (rq (awI ps x (l.getD (nrB cN i) []))))):=fun h=>⟨(HR.out h).1,(HR.out h).2.below hb nr_⟩
   clear hb hr7 HS1 HR HB k6' Bw
   go_wp2_with fail
   refine cm_ HA1.out ?_
   rintro e_ w6 ⟨a8,c8,rfl,hr8,hb⟩
   have B6:=hd_ (B5.out.trans (hb.mono B5.out.size))
   have HR6:Hid (0 < i→k=n∧Rd w6 a (cellsQ (rq (awI ps x (l.getD (nrB cN i) []))))):=fun h=>⟨(HR5.out h).1,(HR5.out h).2.below hb nr_⟩
   have R8:=hd_ hr8
   clear hb hr8 HA1 HR5 B5
   rcases Nat.eq_zero_or_pos i with hz | hz
   ·subst hz
    have Hn1:Hid (nrB cN 1=0):=by show nrB cN 1=0; rw [nrB,nrB]; split <;> rfl
    clear HR6
    go_wp2_with fail
    go_roundw
    case rel=>exact ⟨1,a8,c8,n,by omega,rfl,by rw [Hn1.out]; rfl,rfl,by show 0 < 1→_; intro _; rw [Hn1.out]; exact ⟨rfl,R8.out⟩,B6⟩
    case measure=>simp [intOf]; omega
   ·have hz':(0:Int) < i:=by omega
    obtain ⟨hk,hr9⟩:=HR6.out hz
    subst hk
    have HC1:=hd_ (HC.out w6 i (nrB cN i) a8 a c8 c (B4.out.trans (B6.out.mono B4.out.size)) hlt (by have:=nrB_lt cN i hz; omega) R8.out hr9)
    have Hs:Hid (nrB cN (i + 1)=if cN i (nrB cN i) < 0 then i else nrB cN i):=rfl
    have R9:=hd_ hr9
    clear hr9 HR6
    generalize hq:nrB cN i=q at *
    have Hq:=hd_ hq
    clear hq
    generalize hv:cN i q=v at *
    clear hv
    go_wp2_with fail
    refine cm_ HC1.out ?_
    rintro e_ w7 ⟨rfl,hb⟩
    have B7:=hd_ (B6.out.trans (hb.mono B6.out.size))
    have R8:=hd_ (R8.out.below hb nr_)
    have R9:=hd_ (R9.out.below hb nr_)
    clear hb HC1 B6
    by_cases hv:v < 0
    ·have hv':¬ (0≤v):=by omega
     rw [if_pos hv] at Hs
     go_wp2_with fail
     go_roundw
     case rel=>exact ⟨i + 1,a8,c8,k,by omega,by go_num,by rw [Hs.out],rfl,by show 0 < i + 1→_; intro _; rw [Hs.out]; exact ⟨rfl,R8.out⟩,B7⟩
     case measure=>simp [intOf]; omega
    ·have hv':(0≤v):=by omega
     rw [if_neg hv] at Hs
     go_wp2_with fail
     go_roundw
     case rel=>exact ⟨i + 1,a,c,k,by omega,by go_num,by rw [Hs.out],rfl,by show 0 < i + 1→_; intro _; rw [Hs.out]; exact ⟨rfl,R9.out⟩,B7⟩
     case measure=>simp [intOf]; omega
  ·have hlt':¬ (i:Int) < m:=by omega
   obtain rfl:i=m:=by omega
   go_wp2_with fail
   go_ret2
   exact ⟨rfl,Bw.out⟩
theorem iNearest_err (w:World) (a0 al ax:Option Addr) (c0 cl cx:Nat) (ps:List Int) (l:List (List Int)) (x:List Int) (rp:Rd w a0 (ints ps)) (hi:I64s ps) (hl0:ps.length≤1000000) (rl:RdI w al l) (rx:Rd w ax (ints x)) (hn:Nil0 al l.length cl) (hl:l.length≤1000) (hl2:∀ x∈l,x.length≤1000000) (hx:x.length≤1000000) (hc:ocode ps l [x]≠0) :
  Gives Tryz.prog 59 #[.slice a0 ps.length c0,.slice al l.length cl,.slice ax x.length cx] w (.tuple #[.int .i64 0,.int .i64 (ocode ps l [x])]):=by
 unfold Gives
 have HOp:Hid (∀ W g,Below w.heap.size w W→W.heap[g]?=some (.cells #[.slice ax x.length cx] 25 (0,0))→Gives Tryz.prog 93 #[.slice a0 ps.length c0,.slice al l.length cl,.slice (some ⟨g,0,none⟩) 1 1] W (.int .i64 (ocode ps l [x]))):=fun W g hW hg =>
  open_any W a0 al (some ⟨g,0,none⟩) c0 cl 1 ps l [x] (rp.below hW nr_) hi hl0 (rl.below hW nr_) (rdi_one hg (rx.below hW nr_)) hn (fun h=>by cases h) (by omega) (by simp) (fun y hy=>by
   rcases List.mem_append.1 hy with h | h
   ·exact hl2 y h
   ·obtain rfl:=List.mem_singleton.1 h; exact hx)
 have hp0:(ocode ps l [x] == 0)=false:=by rw [beq_eq_false_iff_ne]; exact hc
 clear rp hi rl rx hn hl2 hc hx hl
 generalize ocode ps l [x]=p at *
 generalize l.length=m at *
 generalize ps.length=n at *
 generalize x.length=nx at *
 have B0:=hd_ ((Below.refl w.heap.size w).alloc nr_ (.cells #[.slice ax nx cx] 25))
 have P0:=hd_ (heap_at w #[.slice ax nx cx] 25 _ rfl)
 have HOp1:=hd_ (HOp.out _ _ B0.out P0.out)
 go_enter Tryz.func59,Tryz.ntmps59
 go_wp2_with fail
 refine cm_ HOp1.out ?_
 rintro e_ w1 ⟨rfl,hb⟩
 have B1:=hd_ (B0.out.trans (hb.mono B0.out.size))
 clear hb HOp HOp1 B0 P0
 go_wp2_with fail
 go_ret2
 exact ⟨rfl,B1.out⟩
theorem iNearest_nil (w:World) (a0 al ax:Option Addr) (c0 cl cx:Nat) (ps x:List Int) (rp:Rd w a0 (ints ps)) (hi:I64s ps) (hl0:ps.length≤1000000) (rx:Rd w ax (ints x)) (hn:Nil0 al 0 cl) (hx:x.length≤1000000) (hc:ocode ps [] [x]=0) :
  Gives Tryz.prog 59 #[.slice a0 ps.length c0,.slice al 0 cl,.slice ax x.length cx] w (.tuple #[.int .i64 0,.int .i64 13]):=by
 unfold Gives
 have HOp:Hid (∀ W g,Below w.heap.size w W→W.heap[g]?=some (.cells #[.slice ax x.length cx] 25 (0,0))→Gives Tryz.prog 93 #[.slice a0 ps.length c0,.slice al 0 cl,.slice (some ⟨g,0,none⟩) 1 1] W (.int .i64 0)):=fun W g hW hg=>by
  have:=open_any W a0 al (some ⟨g,0,none⟩) c0 cl 1 ps [] [x] (rp.below hW nr_) hi hl0 (.inl rfl) (rdi_one hg (rx.below hW nr_)) hn (fun h=>by cases h) (by simp) (by simp) (fun y hy=>by
   obtain rfl:=List.mem_singleton.1 hy; exact hx)
  rw [hc] at this
  exact this
 clear rp hi rx hn hc hx
 generalize ps.length=n at *
 generalize x.length=nx at *
 have B0:=hd_ ((Below.refl w.heap.size w).alloc nr_ (.cells #[.slice ax nx cx] 25))
 have P0:=hd_ (heap_at w #[.slice ax nx cx] 25 _ rfl)
 have HOp1:=hd_ (HOp.out _ _ B0.out P0.out)
 go_enter Tryz.func59,Tryz.ntmps59
 go_wp2_with fail
 refine cm_ HOp1.out ?_
 rintro e_ w1 ⟨rfl,hb⟩
 have B1:=hd_ (B0.out.trans (hb.mono B0.out.size))
 clear hb HOp HOp1 B0 P0
 go_wp2_with fail
 go_ret2
 exact ⟨rfl,B1.out⟩
end Go.Proofs.YtkoicfghplmghaaGreatDoor

namespace Go.Proofs.YtkoicfghplmghaaGreatDoor
open Go.RowKit
theorem lnear1_ok (w:World) (ps:List Int) (P:PrOk ps) (a0 ax ay:Option Addr) (c0 cx cy g0 g1:Nat) (x y:List Int) (hg0:w.heap[g0]?=some (.cells #[.slice a0 ps.length c0] 24 (0,0))) (hg1:w.heap[g1]?=some (.cells #[.slice ax ps.length cx] 25 (0,0)))
  (rp:Rd w a0 (ints ps)) (rx:Rd w ax (ints x)) (ry:Rd w ay (ints y)) (lx:x.length=ps.length) (ly:y.length=ps.length) (sx:Xs x) (sy:Xs y) (L:Laid w) :
  Calls Tryz.prog 115 #[.slice ay ps.length cy,.pointer (some ⟨g0,0,none⟩),.pointer (some ⟨g1,0,none⟩)] w fun e w'=>∃ a c,e = .returned (.slice a ps.length c)∧Rd w' a (cellsQ (rq (awI ps x y)))∧Below w.heap.size w w':=by
 have HO:Hid (∀ W x a c,Below w.heap.size w W→Rd W a (ints x)→x.length=ps.length→Xs x→Calls Tryz.prog 104 #[.slice a0 ps.length c0,.slice a ps.length c] W fun e w'=>∃ a c,e = .returned (.tuple #[.slice a ps.length c,.int .i64 0])∧Rd w' a (cellsQ (rq x))∧Below W.heap.size W w'):=fun W x a c hW hrx h1 h2=>by
  have:=of_ok W a0 a c0 c ps x (rp.below hW nr_) P.i64 hrx (fun y hy=>by have:=h2 y hy; omega) (mcode_one P.p0 h2 h1) (L.below hW)
  unfold GivesOk at this
  rw [List.length_map,h1] at this
  refine cm_ this ?_
  rintro e w' ⟨a,c,rfl,ho,hb⟩
  exact ⟨a,c,rfl,ho.rd,hb⟩
 have HX:=hd_ (fun W a c hW hr=>HO.out W x a c hW hr lx sx)
 have HY:=hd_ (fun W a c hW hr=>HO.out W y a c hW hr ly sy)
 have HS:Hid (∀ W a1 a2 c1 c2,Below w.heap.size w W→Rd W a1 (cellsQ (rq x))→Rd W a2 (cellsQ (rq y))→Calls Tryz.prog 114 #[.slice a0 ps.length c0,.slice a1 ps.length c1,.slice a2 ps.length c2] W fun e w'=>∃ a c,e = .returned (.tuple #[.slice a ps.length c,.int .i64 0])∧Rd w' a (cellsQ (rq (subI x y)))∧Below W.heap.size W w'):=fun W a1 a2 c1 c2 hW h1 h2 =>
  asub_ok P c0 c1 c2 (rp.below hW nr_) h1 h2 lx ly (sx.bd.le (by decide)) (sy.bd.le (by decide)) (L.below hW)
 have HA:Hid (∀ W a1 c1,Below w.heap.size w W→Rd W a1 (cellsQ (rq (subI x y)))→Calls Tryz.prog 21 #[.slice a0 ps.length c0,.slice a1 ps.length c1] W fun e w'=>∃ a c,e = .returned (.tuple #[.slice a ps.length c,.int .i64 0])∧Rd w' a (cellsQ (rq (awI ps x y)))∧Below W.heap.size W w'):=fun W a1 c1 hW h1=>by
  have:=aabs_ok P c0 c1 (rp.below hW nr_) h1 (by rw [subI_length (lx.trans ly.symm),lx]) ((sx.bd.sub sy.bd).le (by decide)) (L.below hW)
  rw [absI_neg P.pos x y] at this
  exact this
 have H0:=hd_ hg0
 have H1:=hd_ hg1
 have RQ:=hd_ rx
 have RW:=hd_ ry
 clear HO rp rx ry lx ly sx sy L P hg0 hg1
 generalize ps.length=n at *
 have B:=hd_ (Below.refl w.heap.size w)
 obtain ⟨k0,f0⟩:=one_cell H0.out
 obtain ⟨k1,f1⟩:=one_cell H1.out
 go_enter Tryz.func115,Tryz.ntmps115
 go_wp2_with fail
 clear k0 k1 f0 f1
 refine cm_ (HX.out _ _ _ B.out RQ.out) ?_
 rintro e_ w1 ⟨a3,c3,rfl,hr_,hb_⟩
 have R3:=hd_ hr_
 replace RW:=hd_ (RW.out.below hb_ nr_)
 replace H0:=hd_ (heap_kept H0.out hb_ nr_)
 replace B:=hd_ (B.out.trans (hb_.mono B.out.size))
 clear hr_ hb_ HX RQ H1
 obtain ⟨k0,f0⟩:=one_cell H0.out
 go_wp2_with fail
 clear k0 f0
 refine cm_ (HY.out _ _ _ B.out RW.out) ?_
 rintro e_ w2 ⟨a4,c4,rfl,hr_,hb_⟩
 have R4:=hd_ hr_
 replace R3:=hd_ (R3.out.below hb_ nr_)
 replace H0:=hd_ (heap_kept H0.out hb_ nr_)
 replace B:=hd_ (B.out.trans (hb_.mono B.out.size))
 clear hr_ hb_ HY RW
 obtain ⟨k0,f0⟩:=one_cell H0.out
 go_wp2_with fail
 clear k0 f0
 refine cm_ (HS.out _ _ _ _ _ B.out R3.out R4.out) ?_
 rintro e_ w3 ⟨a5,c5,rfl,hr_,hb_⟩
 have R5:=hd_ hr_
 replace H0:=hd_ (heap_kept H0.out hb_ nr_)
 replace B:=hd_ (B.out.trans (hb_.mono B.out.size))
 clear hr_ hb_ HS R3 R4
 obtain ⟨k0,f0⟩:=one_cell H0.out
 go_wp2_with fail
 clear k0 f0
 refine cm_ (HA.out _ _ _ B.out R5.out) ?_
 rintro e_ w4 ⟨a6,c6,rfl,hr_,hb_⟩
 have R6:=hd_ hr_
 replace B:=hd_ (B.out.trans (hb_.mono B.out.size))
 clear hr_ hb_ HA R5 H0
 go_wp2_with fail
 go_ret
 exact ⟨a6,c6,rfl,R6.out,B.out⟩
theorem lnearest_ok (w:World) (ps:List Int) (P:PrOk ps) (a0 al ax:Option Addr) (c0 cl cx:Nat) (l:List (List Int)) (x:List Int) (rp:Rd w a0 (ints ps)) (rl:RdI w al l) (rx:Rd w ax (ints x)) (hl:l.length≤19) (h0:0 < l.length) (hr:Iv ps.length l) (lx:x.length=ps.length) (sx:Xs x) (L:Laid w) :
  Gives Tryz.prog 62 #[.slice a0 ps.length c0,.slice al l.length cl,.slice ax ps.length cx] w (.int .i64 (nrB (cNr ps x l) l.length:Nat)):=by
 unfold Gives
 have h6:=P.n6
 have hbx:=sx.bd.le (show 1000≤50000 by decide)
 have hbl:∀ i,i < l.length→(l.getD i []).length=ps.length∧Bd 1000 (l.getD i []):=fun i hi=>⟨(hr _ (getD_memI hi)).1,(hr _ (getD_memI hi)).2.bd⟩
 have hba:∀ i,i < l.length→(awI ps x (l.getD i [])).length=ps.length∧Bd 50000 (awI ps x (l.getD i [])):=fun i hi =>
  ⟨by unfold awI; rw [absI_length,subI_length ((hbl i hi).1.trans lx.symm),(hbl i hi).1],absI_bd P.pos (((hbl i hi).2.sub sx.bd).le (by decide))⟩
 have HN:Hid (∀ W i ay cy,Below w.heap.size w W→W.heap[w.heap.size]?=some (.cells #[.slice a0 ps.length c0] 24 (0,0))→W.heap[w.heap.size + 1]?=some (.cells #[.slice ax ps.length cx] 25 (0,0))→i < l.length→Rd W ay (ints (l.getD i [])) →
   Calls Tryz.prog 115 #[.slice ay ps.length cy,.pointer (some ⟨w.heap.size,0,none⟩),.pointer (some ⟨w.heap.size + 1,0,none⟩)] W fun e w'=>∃ a c,e = .returned (.slice a ps.length c)∧Rd w' a (cellsQ (rq (awI ps x (l.getD i []))))∧Below W.heap.size W w'):=fun W i ay cy hW h1 h2 hi hry =>
  lnear1_ok W ps P a0 ax ay c0 cx cy _ _ x (l.getD i []) h1 h2 (rp.below hW nr_) (rx.below hW nr_) hry lx (hbl i hi).1 sx (hr _ (getD_memI hi)).2 (L.below hW)
 have HC:Hid (∀ W i k a1 a2 c1 c2,Below w.heap.size w W→i < l.length→k < l.length→Rd W a1 (cellsQ (rq (awI ps x (l.getD i []))))→Rd W a2 (cellsQ (rq (awI ps x (l.getD k []))))→Gives Tryz.prog 105 #[.slice a0 ps.length c0,.slice a1 ps.length c1,.slice a2 ps.length c2] W (.tuple #[.int .i64 (cNr ps x l i k),.int .i64 0])):=fun W i k a1 a2 c1 c2 hW hi hk r1 r2 =>
  cmpI_ok P c0 c1 c2 (rp.below hW nr_) r1 r2 (hba i hi).1 (hba k hk).1 (hba i hi).2 (hba k hk).2 (L.below hW)
 have Hrl:Hid (∃ b off,al=some ⟨b,off,none⟩∧b < w.heap.size∧∀ i,i < l.length→∃ a' c',w.cell? ⟨b,off + i,none⟩=some (.slice a' ps.length c')∧Rd w a' (ints (l.getD i []))):=by
  rcases rl with h | ⟨b,off,h1,h2,h3⟩
  ·rw [h] at h0; exact absurd h0 (Nat.lt_irrefl _)
  ·refine ⟨b,off,h1,h2,fun i hi=>?_⟩
   obtain ⟨a',c',k1,k2⟩:=h3 i hi
   rw [(hbl i hi).1] at k1
   exact ⟨a',c',k1,k2⟩
 clear rp rl rx hr lx sx L P h6 hbx hbl hba
 generalize hC:cNr ps x l=cN at *
 clear hC
 obtain ⟨m,hm⟩:∃ m,l.length=m:=⟨_,rfl⟩
 obtain ⟨n,hnn⟩:∃ n,ps.length=n:=⟨_,rfl⟩
 simp only [hnn,hm] at HN HC Hrl hl h0 ⊢
 clear hm hnn
 obtain ⟨b2,o2,rfl,hb2,hc2⟩:=Hrl.out
 have HC2:=hd_ hc2
 clear hc2 Hrl
 have B0:=hd_ (((Below.refl w.heap.size w).alloc nr_ (.cells #[.slice a0 n c0] 24)).alloc (by simp) (.cells #[.slice ax n cx] 25))
 have K0:=hd_ (heap_old (heap_at w #[.slice a0 n c0] 24 _ rfl) (.cells #[.slice ax n cx] 25))
 have K1:=hd_ (heap_at (w.alloc (.cells #[.slice a0 n c0] 24)) #[.slice ax n cx] 25 (w.heap.size + 1) (by simp))
 go_enter Tryz.func62,Tryz.ntmps62
 go_wp2_with fail
 generalize hw2:(w.alloc (.cells #[.slice a0 n c0] 24)).alloc (.cells #[.slice ax n cx] 25)=w2 at *
 clear hw2
 go_loopw [8,16] (fun be z wr=>∃ (i:Nat),i≤m∧z = .int .i64 i∧be = .int .i64 (nrB cN i:Nat)∧Hid (Below w2.heap.size w2 wr)) (fun _ z _=>m - (intOf z).toNat)
 case atStart=>exact ⟨0,Nat.zero_le _,rfl,rfl,Below.refl _ _⟩
 case round =>
  obtain ⟨i,hi,rfl,rfl,HB⟩:=hrel
  have Bw:=hd_ (B0.out.trans (HB.out.mono B0.out.size))
  by_cases hlt:i < m
  ·have hlt':(i:Int) < m:=by omega
   have hq:=nrB_le cN i
   have Hs:Hid (nrB cN (i + 1)=if cN i (nrB cN i) < 0 then i else nrB cN i):=rfl
   obtain ⟨q,hqq⟩:∃ q,nrB cN i=q:=⟨_,rfl⟩
   rw [hqq] at hq Hs
   rw [hqq]
   clear hqq
   have hqm:q < m:=by omega
   have hqm':(q:Int) < m:=by omega
   obtain ⟨a3,c3,k3,r3⟩:=HC2.out i hlt
   obtain ⟨a4,c4,k4,r4⟩:=HC2.out q hqm
   have R3:=hd_ (r3.below Bw.out nr_)
   have R4:=hd_ (r4.below Bw.out nr_)
   have k3':=(Bw.out.cell (p:=⟨b2,o2 + i,none⟩) hb2).trans k3
   have k4':=(Bw.out.cell (p:=⟨b2,o2 + q,none⟩) hb2).trans k4
   have K0w:=hd_ (heap_kept K0.out HB.out nr_)
   have K1w:=hd_ (heap_kept K1.out HB.out nr_)
   obtain ⟨k0,f0⟩:=one_cell K0w.out
   clear k3 k4 r3 r4
   have q0:=BW.cell k0
   have q4:=BW.cell k4'
   have hnon:Nonempty (BW wr):=⟨⟨wr,Below.refl _ _⟩⟩
   have I:Hid (Below wr.heap.size wr wr.drew):=(Below.refl _ _).drew
   go_wp2_with fail
   clear k0 f0 k3' k4'
   refine RY.wp_region_readers 10 [(1,0),(1,1),(1,2),(1,4),(2,5),(2,6),(2,7),(1,8),(0,3),(0,9),(0,10),(0,11),(2,12),(2,13),(0,14),(0,15)] (fun w'=>∃ p:BW wr,w'=p.w) (by kernel_rfl) (by kernel_rfl) ?_ ?_
   ·exact ⟨⟨_,I.out⟩,rfl⟩
   iterate 4 (refine RY.walkR_read ?_; simp only [dsc_,dz_,tsc_,tz_]; go_big_quiet_step (fail); refine wpQuiet_nil ?_)
   iterate 3 (refine RY.walkR_any ?_; simp only [dsc_,dz_,tsc_,tz_]; go_big_quiet_step (fail); refine wpQuiet_nil ?_)
   refine RY.walkR_read ?_
   simp only [dsc_,dz_,tsc_,tz_]
   go_big_quiet_step (fail)
   refine wpQuiet_nil ?_
   clear hnon q0 q4
   have eg:=enter_of Tryz.func115 (by kernel_rfl) rfl
   refine RY.walkR_move ?_
   simp only [dsc_,dz_,tsc_,tz_]
   go_wp2_with fail
   refine cm_ (HN.out _ i _ _ (Bw.out.trans (I.out.mono Bw.out.size)) (heap_kept K0w.out I.out nr_) (heap_kept K1w.out I.out nr_) hlt (R3.out.below I.out nr_)) ?_
   rintro e_ W1 ⟨a5,c5,rfl,hr_,hb_⟩
   have D1:Hid (Below wr.heap.size wr W1):=I.out.trans (hb_.mono I.out.size)
   have R5:=hd_ hr_
   clear hr_ hb_ R3 I
   go_wp2_with fail
   refine ⟨⟨⟨_,D1.out⟩,rfl⟩,?_⟩
   refine RY.walkR_move ?_
   simp only [dsc_,dz_,tsc_,tz_]
   go_wp2_with fail
   refine cm_ (HN.out _ q _ _ (Bw.out.trans (D1.out.mono Bw.out.size)) (heap_kept K0w.out D1.out nr_) (heap_kept K1w.out D1.out nr_) hqm (R4.out.below D1.out nr_)) ?_
   rintro e_ W2 ⟨a6,c6,rfl,hr_,hb_⟩
   have D2:Hid (Below wr.heap.size wr W2):=D1.out.trans (hb_.mono D1.out.size)
   have R6:=hd_ hr_
   have R5:=hd_ (R5.out.below hb_ nr_)
   clear hr_ hb_ R4 D1
   go_wp2_with fail
   refine ⟨⟨⟨_,D2.out⟩,rfl⟩,?_⟩
   refine RY.walkR_move ?_
   simp only [dsc_,dz_,tsc_,tz_]
   have HC1:=hd_ (HC.out W2 i q a5 a6 c5 c6 (Bw.out.trans (D2.out.mono Bw.out.size)) hlt hqm R5.out R6.out)
   generalize hv:cN i q=v at *
   clear hv
   go_wp2_with fail
   refine cm_ HC1.out ?_
   rintro e_ W3 ⟨rfl,hb_⟩
   have D3:Hid (Below wr.heap.size wr W3):=D2.out.trans (hb_.mono D2.out.size)
   clear hb_ R5 R6 HC1 D2
   go_wp2_with fail
   refine RY.walkR_move ?_
   simp only [dsc_,dz_,tsc_,tz_]
   go_wp2_with fail
   iterate 2 (refine RY.walkR_any ?_; simp only [dsc_,dz_,tsc_,tz_]; go_big_quiet_step (fail); refine wpQuiet_nil ?_)
   iterate 2 (refine RY.walkR_move ?_; simp only [dsc_,dz_,tsc_,tz_]; go_wp2_with fail)
   simp only [RY.walkR]
   have B3:=hd_ (HB.out.trans (D3.out.mono HB.out.size))
   clear D3 HB Bw K0w K1w
   by_cases hv:v < 0
   ·rw [if_pos hv] at Hs
    go_wp2_with fail
    go_roundw
    case rel=>exact ⟨i + 1,by omega,by go_num,by rw [Hs.out],B3⟩
    case measure=>simp [intOf]; omega
   ·rw [if_neg hv] at Hs
    go_wp2_with fail
    go_roundw
    case rel=>exact ⟨i + 1,by omega,by go_num,by rw [Hs.out],B3⟩
    case measure=>simp [intOf]; omega
  ·have hlt':¬ (i:Int) < m:=by omega
   obtain rfl:i=m:=by omega
   go_wp2_with fail
   go_ret
   exact ⟨rfl,Bw.out⟩
end Go.Proofs.YtkoicfghplmghaaGreatDoor

namespace Go.Proofs.YtkoicfghplmghaaGreatDoor
open Go.RowKit Go.Shelf
theorem mx_far (l:List Int):(mx l=0↔l.any farX=false):=by rw [mx_zero,farX_iff]
def farB (l:List (List Int)) (F:Nat→Nat) (j:Nat):Bool:=(List.range j).any fun k=>(gapF l F k).any farX
theorem farB_succ (l:List (List Int)) (F:Nat→Nat) (j:Nat):farB l F (j + 1)=(farB l F j || (gapF l F j).any farX):=by
 unfold farB
 rw [List.range_succ,List.any_append]
 simp
theorem farB_false {l:List (List Int)} {F:Nat→Nat} {j:Nat}:farB l F j=false↔∀ k,k < j→mx (gapF l F k)=0:=by
 unfold farB
 rw [List.any_eq_false]
 constructor
 ·intro h k hk
  have:=h k (List.mem_range.2 hk)
  exact (mx_far _).2 (by simpa using this)
 ·intro h k hk
  have:=(mx_far _).1 (h k (List.mem_range.1 hk))
  simp [this]
theorem gapF_congr {l:List (List Int)} {F G:Nat→Nat} {k:Nat} (h1:F k=G k) (h2:F (k + 1)=G (k + 1)):gapF l F k=gapF l G k:=by unfold gapF; rw [h1,h2]
theorem gapsL_congr {l:List (List Int)} {F G:Nat→Nat} {j:Nat} (h:∀ k,k≤j→0 < j→F k=G k):gapsL l F j=gapsL l G j:=by
 unfold gapsL
 refine List.map_congr_left fun k hk=>?_
 have:=List.mem_range.1 hk
 exact gapF_congr (h k (by omega) (by omega)) (h (k + 1) (by omega) (by omega))
theorem GapP.at {ps:List Int} {l:List (List Int)} {w':World} {e:Ending} {F:Nat→Nat} (hF:Fin' (cS ps (l.map rq)) l.length F) (pc:Pre (cS ps (l.map rq)) l.length) (h:GapP ps l w' e) :
  (farB l F (l.length - 1)=false∧∃ a c,e = .returned (.tuple #[.slice a (l.length - 1) c,.int .i64 0])∧RdI w' a (gapsL l F (l.length - 1)))∨(farB l F (l.length - 1)=true∧e = .returned (.tuple #[.slice none 0 0,.int .i64 4])):=by
 obtain ⟨G,hG,h⟩:=h
 have hu:∀ k,k < l.length→G k=F k:=fun k hk=>hG.unique hF pc k hk
 rcases h with ⟨hz,a,c,he,hr⟩ | ⟨⟨k,hk,hne⟩,he⟩
 ·refine .inl ⟨farB_false.2 fun k hk=>?_,a,c,he,?_⟩
  ·rw [gapF_congr (hu k (by omega)).symm (hu (k + 1) (by omega)).symm]
   exact hz k (by omega)
  ·rw [gapsL_congr (G:=G) fun k hk h0=>(hu k (by omega)).symm]
   exact hr
 ·refine .inr ⟨?_,he⟩
  cases hb:farB l F (l.length - 1) with
  | true=>rfl
  | false =>
   have:=farB_false.1 hb k (by omega)
   rw [gapF_congr (hu k (by omega)).symm (hu (k + 1) (by omega)).symm] at this
   exact absurd this hne
theorem srs1_any (w:World) (a b:Option Addr) (c d:Nat) (x y:List Int) (rx:Rd w a (ints x)) (ry:Rd w b (ints y)) (hx:x.length≤1000000) :
  Gives Tryz.prog 61 #[.slice a x.length c,.slice b y.length d] w (.bool (decide (x=y))):=by
 unfold Gives
 have HE:=hd_ (islEq_any w a b c d x y rx ry hx)
 unfold Gives at HE
 clear rx ry
 generalize decide (x=y)=z at *
 generalize x.length=m at *
 generalize y.length=n at *
 go_enter Tryz.func61,Tryz.ntmps61
 go_wp2_with fail
 refine cm_ HE.out ?_
 rintro e_ w2 ⟨rfl,hb_⟩
 go_wp2_with fail
 go_ret
 exact ⟨rfl,hb_⟩
theorem eqfR_true (w:World) (a b:Option Addr) (c d:Nat) (l:List (List Int)) (hr:RdI w a l) (ho:RdI w b l) (hl:l.length≤1000000) (f:FuncId) (lb:Array Value) (eg:∀ args w,(callFunc f args).run Tryz.prog w = .ok (.enter f args) w)
  (hcl:∀ W,Below w.heap.size w W→∀ k,k < l.length→∀ a' c' a2 c2,Rd W a' (ints (l.getD k []))→Rd W a2 (ints (l.getD k []))→Gives Tryz.prog f (#[.slice a' (l.getD k []).length c',.slice a2 (l.getD k []).length c2] ++ lb) W (.bool true)) :
  Gives Tryz.prog 60 #[.slice a l.length c,.slice b l.length d,.func (.func f) #[] lb] w (.bool true):=by
 unfold Gives
 have Hr:=hd_ hr
 have Ho:=hd_ ho
 have Hcl:=hd_ hcl
 clear hr ho hcl
 generalize hm:l.length=m at *
 have Hm:=hd_ hm
 clear hm
 go_enter Tryz.func60,Tryz.ntmps60
 go_wp2_with fail
 go_loopw [17] (fun i wr=>∃ k:Nat,k≤m∧i = .int .i64 k∧Hid (Below w.heap.size w wr)) (fun i _=>m - (intOf i).toNat)
 case atStart=>exact ⟨0,Nat.zero_le _,rfl,Below.refl _ _⟩
 case round =>
  obtain ⟨k,hk,rfl,B⟩:=hrel
  by_cases hlt:k < m
  ·have hlt':(k:Int) < m:=by omega
   obtain ⟨b0,off,rfl,hb0,a',c',k1,k2⟩:∃ b0 off,a=some ⟨b0,off,none⟩∧b0 < w.heap.size∧∃ a' c',w.cell? ⟨b0,off + k,none⟩=some (.slice a' (l.getD k []).length c')∧Rd w a' (ints (l.getD k [])):=by
    rcases Hr.out with h | ⟨b0,off,h1,h2,h3⟩
    ·have:=Hm.out; rw [h] at this; simp at this; omega
    ·obtain ⟨a',c',x1,x2⟩:=h3 k (by rw [Hm.out]; exact hlt)
     exact ⟨b0,off,h1,h2,a',c',x1,x2⟩
   obtain ⟨b1,off1,rfl,hb1,a2,c2,k3,k4⟩:∃ b0 off,b=some ⟨b0,off,none⟩∧b0 < w.heap.size∧∃ a' c',w.cell? ⟨b0,off + k,none⟩=some (.slice a' (l.getD k []).length c')∧Rd w a' (ints (l.getD k [])):=by
    rcases Ho.out with h | ⟨b0,off,h1,h2,h3⟩
    ·have:=Hm.out; rw [h] at this; simp at this; omega
    ·obtain ⟨a',c',x1,x2⟩:=h3 k (by rw [Hm.out]; exact hlt)
     exact ⟨b0,off,h1,h2,a',c',x1,x2⟩
   rw [← B.out.cell (p:=⟨b0,off + k,none⟩) hb0] at k1
   rw [← B.out.cell (p:=⟨b1,off1 + k,none⟩) hb1] at k3
   have HC:=hd_ (Hcl.out wr B.out k hlt a' c' a2 c2 (k2.below B.out nr_) (k4.below B.out nr_))
   unfold Gives at HC
   clear k2 k4
   generalize (l.getD k []).length=x at *
   go_wp2_with fail
   refine cm_ HC.out ?_
   rintro e_ w2 ⟨rfl,hb_⟩
   have B2:=hd_ (B.out.trans (hb_.mono B.out.size))
   clear hb_ HC k1 k3 B
   go_wp2_with fail
   go_roundw
   case rel=>exact ⟨k + 1,by omega,by go_num,B2⟩
   case measure=>simp [intOf]; omega
  ·have hlt':¬ (k:Int) < m:=by omega
   go_wp2_with fail
   go_ret
   exact ⟨rfl,B.out⟩
theorem eqR_true (w:World) (a b:Option Addr) (c d:Nat) (l:List (List Int)) (hr:RdI w a l) (ho:RdI w b l) (hl:l.length≤1000000) (hx:∀ x∈l,x.length≤1000000) :
  Gives Tryz.prog 60 #[.slice a l.length c,.slice b l.length d,.func (.func 61) #[] #[]] w (.bool true):=by
 refine eqfR_true w a b c d l hr ho hl _ _ (enter_of Tryz.func61 (by kernel_rfl) rfl) fun W hW k hk a' c' a2 c2 r1 r2=>?_
 have:=srs1_any W a' a2 c' c2 (l.getD k []) (l.getD k []) r1 r2 (hx _ (getD_memI hk))
 rw [decide_eq_true rfl] at this
 exact this
theorem iGaps_err (w:World) (a0 al:Option Addr) (c0 cl:Nat) (ps:List Int) (l:List (List Int)) (rp:Rd w a0 (ints ps)) (hi:I64s ps) (hl0:ps.length≤1000000) (rl:RdI w al l) (hn:Nil0 al l.length cl) (hl:l.length≤1000) (hl2:∀ x∈l,x.length≤1000000) (hc:ocode ps l []≠0) :
  Gives Tryz.prog 58 #[.slice a0 ps.length c0,.slice al l.length cl] w (.tuple #[.slice none 0 0,.int .i64 (ocode ps l [])]):=by
 unfold Gives
 have HSo:=hd_ (iSort_err w a0 al c0 cl ps l rp hi hl0 rl hn hl hl2 hc)
 unfold Gives at HSo
 have hp0:(ocode ps l [] == 0)=false:=by rw [beq_eq_false_iff_ne]; exact hc
 clear rp hi rl hn hl2 hc
 generalize ocode ps l []=p at *
 generalize l.length=m at *
 generalize ps.length=n at *
 go_enter Tryz.func58,Tryz.ntmps58
 go_wp2_with fail
 refine cm_ HSo.out ?_
 rintro e_ w1 ⟨rfl,hb_⟩
 have B1:=hd_ hb_
 clear hb_ HSo
 go_wp2_with fail
 go_ret2
 exact ⟨rfl,B1.out⟩
end Go.Proofs.YtkoicfghplmghaaGreatDoor

namespace Go.Proofs.YtkoicfghplmghaaGreatDoor
open Go.RowKit Go.Shelf
theorem ocode_app (ps:List Int) (l:List (List Int)) (x:List Int) (h:ocode ps l []≠0):ocode ps l [x]=ocode ps l []:=by
 unfold ocode at *
 split
 ·rename_i h0
  rw [if_pos h0] at h
  split
  ·rfl
  ·rename_i h6
   rw [if_neg h6,List.append_nil] at h
   rw [List.append_nil]
   have:∀ (l:List (List Int)),mgo ps.length l≠0→mgo ps.length (l ++ [x])=mgo ps.length l:=by
    intro l
    induction l with
    | nil=>intro h; exact absurd rfl h
    | cons y l ih =>
     intro h
     rw [List.cons_append,mgo,mgo]
     rw [mgo] at h
     by_cases hy:mrow ps.length y=0
     ·rw [if_pos hy] at h ⊢
      rw [if_pos hy]
      exact ih h
     ·rw [if_neg hy,if_neg hy]
   exact this l h
 ·rfl
theorem ocode_last (ps:List Int) (l:List (List Int)) (x:List Int) (h:l.length < 600):ocode ps (l ++ [x]) []=ocode ps l [x]:=by
 unfold ocode
 rw [List.append_nil,if_neg (show ¬ 600 < (l ++ [x]).length by simp; omega),if_neg (show ¬ 600 < l.length by omega)]
def fewB (l:List (List Int)):Bool:=decide (l.length≤6) && !l.any wideX
theorem lawSrs_many1 (w:World) (a0 al:Option Addr) (c0 cl n:Nat) (l:List (List Int)) (h:9 < n) (L:Laid w) :
  Gives Tryz.prog 11 #[.slice a0 n c0,.slice al l.length cl] w (.bool true):=by
 unfold Gives
 have HK:Hid (∀ W,Below w.heap.size w W→Gives Tryz.prog 12 #[] W (.bool true)):=fun W hW=>known15_ok W (L.below hW)
 have h1':(9:Int) < n:=by omega
 clear L h
 generalize l.length=m at *
 have B0:=hd_ (Below.refl w.heap.size w)
 go_enter Tryz.func11,Tryz.ntmps11
 go_wp2_with fail
 refine cm_ (HK.out _ B0.out) ?_
 rintro e_ w1 ⟨rfl,hb⟩
 have B1:=hd_ (B0.out.trans (hb.mono B0.out.size))
 clear hb B0
 go_wp2_with fail
 refine cm_ (HK.out _ B1.out) ?_
 rintro e_ w2 ⟨rfl,hb⟩
 have B2:=hd_ (B1.out.trans (hb.mono B1.out.size))
 clear hb HK B1
 go_wp2_with fail
 go_ret
 exact ⟨rfl,B2.out⟩
theorem lawSrs_many2 (w:World) (a0 al:Option Addr) (c0 cl n:Nat) (l:List (List Int)) (h:n≤9) (h2:l.length=0) (L:Laid w) :
  Gives Tryz.prog 11 #[.slice a0 n c0,.slice al l.length cl] w (.bool true):=by
 unfold Gives
 have HK:Hid (∀ W,Below w.heap.size w W→Gives Tryz.prog 12 #[] W (.bool true)):=fun W hW=>known15_ok W (L.below hW)
 have h1':decide ((9:Int) < n)=false:=decide_eq_false (by omega)
 clear L h
 rw [h2]
 clear h2
 have B0:=hd_ (Below.refl w.heap.size w)
 go_enter Tryz.func11,Tryz.ntmps11
 go_wp2_with fail
 refine cm_ (HK.out _ B0.out) ?_
 rintro e_ w1 ⟨rfl,hb⟩
 have B1:=hd_ (B0.out.trans (hb.mono B0.out.size))
 clear hb B0
 go_wp2_with fail
 refine cm_ (HK.out _ B1.out) ?_
 rintro e_ w2 ⟨rfl,hb⟩
 have B2:=hd_ (B1.out.trans (hb.mono B1.out.size))
 clear hb HK B1
 go_wp2_with fail
 go_ret
 exact ⟨rfl,B2.out⟩
theorem lawSrs_many3 (w:World) (a0 al:Option Addr) (c0 cl n:Nat) (l:List (List Int)) (rl:RdI w al l) (h:n≤9) (h2:0 < l.length) (h3:fewB l=false) (L:Laid w) :
  Gives Tryz.prog 11 #[.slice a0 n c0,.slice al l.length cl] w (.bool true):=by
 unfold Gives
 have HK:Hid (∀ W,Below w.heap.size w W→Gives Tryz.prog 12 #[] W (.bool true)):=fun W hW=>known15_ok W (L.below hW)
 have HF:Hid (∀ W,Below w.heap.size w W→Gives Tryz.prog 33 #[.slice al l.length cl] W (.bool false)):=fun W hW=>by
  have:=lfew_ok W al cl l (rl.below hW nr_)
  unfold fewB at h3
  rw [h3] at this
  exact this
 have h1':decide ((9:Int) < n)=false:=decide_eq_false (by omega)
 have h2':((l.length:Int) == 0)=false:=by rw [beq_eq_false_iff_ne]; omega
 clear L rl h h2 h3
 generalize l.length=m at *
 have B0:=hd_ (Below.refl w.heap.size w)
 go_enter Tryz.func11,Tryz.ntmps11
 go_wp2_with fail
 refine cm_ (HK.out _ B0.out) ?_
 rintro e_ w1 ⟨rfl,hb⟩
 have B1:=hd_ (B0.out.trans (hb.mono B0.out.size))
 clear hb B0
 go_wp2_with fail
 refine cm_ (HF.out _ B1.out) ?_
 rintro e_ w2 ⟨rfl,hb⟩
 have B2:=hd_ (B1.out.trans (hb.mono B1.out.size))
 clear hb HF B1
 go_wp2_with fail
 refine cm_ (HK.out _ B2.out) ?_
 rintro e_ w3 ⟨rfl,hb⟩
 have B3:=hd_ (B2.out.trans (hb.mono B2.out.size))
 clear hb HK B2
 go_wp2_with fail
 go_ret
 exact ⟨rfl,B3.out⟩
structure SrsA (w:World) (ps:List Int) (a0 al:Option Addr) (c0 cl:Nat) (r:List (List Int)) (x:List Int):Prop where
 rp:Rd w a0 (ints ps)
 hi:I64s ps
 h9:ps.length≤9
 rl:RdI w al (r ++ [x])
 hn:al≠none
 hcl:r.length + 1≤cl
 hr6:r.length≤5
 h8:∀ y∈r ++ [x],y.length≤8
 L:Laid w
theorem rdi_front {w:World} {al:Option Addr} {r:List (List Int)} {x:List Int} (h:RdI w al (r ++ [x])):RdI w al r:=by
 rcases h with h | ⟨b,off,h1,h2,h3⟩
 ·simp at h
 ·refine .inr ⟨b,off,h1,h2,fun i hi=>?_⟩
  obtain ⟨a',c',k1,k2⟩:=h3 i (by simp; omega)
  have e:(r ++ [x]).getD i []=r.getD i []:=by rw [List.getD_eq_getElem?_getD,List.getD_eq_getElem?_getD,List.getElem?_append_left hi]
  rw [e] at k1 k2
  exact ⟨a',c',k1,k2⟩
theorem rdi_back {w:World} {al:Option Addr} {r:List (List Int)} {x:List Int} (h:RdI w al (r ++ [x])):∃ b off a' c',al=some ⟨b,off,none⟩∧b < w.heap.size∧w.cell? ⟨b,off + r.length,none⟩=some (.slice a' x.length c')∧Rd w a' (ints x):=by
 rcases h with h | ⟨b,off,h1,h2,h3⟩
 ·simp at h
 ·obtain ⟨a',c',k1,k2⟩:=h3 r.length (by simp)
  have e:(r ++ [x]).getD r.length []=x:=by simp
  rw [e] at k1 k2
  exact ⟨b,off,a',c',h1,h2,k1,k2⟩
theorem lawSrs_err (w:World) (ps:List Int) (a0 al:Option Addr) (c0 cl:Nat) (r:List (List Int)) (x:List Int) (m:Nat) (hm:m=r.length + 1) (A:SrsA w ps a0 al c0 cl r x) (hf:fewB (r ++ [x])=true) (hc:ocode ps r []≠0) :
  Gives Tryz.prog 11 #[.slice a0 ps.length c0,.slice al m cl] w (.bool true):=by
 unfold Gives
 have HK:Hid (∀ W,Below w.heap.size w W→Gives Tryz.prog 12 #[] W (.bool true)):=fun W hW=>known15_ok W (A.L.below hW)
 have HF:Hid (∀ W,Below w.heap.size w W→Gives Tryz.prog 33 #[.slice al m cl] W (.bool true)):=fun W hW=>by
  have:=lfew_ok W al cl (r ++ [x]) (A.rl.below hW nr_)
  rw [show (decide ((r ++ [x]).length≤6) && !(r ++ [x]).any wideX)=true from hf,List.length_append,List.length_singleton,← hm] at this
  exact this
 have hrr:=rdi_front A.rl
 obtain ⟨b,off,ax,cx,rfl,hb,kx,rx⟩:=rdi_back A.rl
 have h9:=A.h9
 have h6:=A.hr6
 have hcl:=A.hcl
 have hn:Nil0 (some ⟨b,off,none⟩) r.length cl:=fun h=>by cases h
 have h8:∀ y∈r,y.length≤1000000:=fun y hy=>by have:=A.h8 y (List.mem_append_left _ hy); omega
 have hx8:x.length≤1000000:=by have:=A.h8 x (by simp); omega
 have HS:Hid (∀ W,Below w.heap.size w W→Gives Tryz.prog 57 #[.slice a0 ps.length c0,.slice (some ⟨b,off,none⟩) r.length cl] W (.tuple #[.slice none 0 0,.int .i64 (ocode ps r [])])):=fun W hW =>
  iSort_err W a0 _ c0 cl ps r (A.rp.below hW nr_) A.hi (by omega) (hrr.below hW nr_) hn (by omega) h8 hc
 have HG:Hid (∀ W,Below w.heap.size w W→Gives Tryz.prog 58 #[.slice a0 ps.length c0,.slice (some ⟨b,off,none⟩) r.length cl] W (.tuple #[.slice none 0 0,.int .i64 (ocode ps r [])])):=fun W hW =>
  iGaps_err W a0 _ c0 cl ps r (A.rp.below hW nr_) A.hi (by omega) (hrr.below hW nr_) hn (by omega) h8 hc
 have HN:Hid (∀ W,Below w.heap.size w W→Gives Tryz.prog 59 #[.slice a0 ps.length c0,.slice (some ⟨b,off,none⟩) r.length cl,.slice ax x.length cx] W (.tuple #[.int .i64 0,.int .i64 (ocode ps r [])])):=fun W hW=>by
  have e:=ocode_app ps r x hc
  have:=iNearest_err W a0 (some ⟨b,off,none⟩) ax c0 cl cx ps r x (A.rp.below hW nr_) A.hi (by omega) (hrr.below hW nr_) (rx.below hW nr_) hn (by omega) h8 hx8 (by rw [e]; exact hc)
  rw [e] at this
  exact this
 have H1:Hid (∀ W,Below w.heap.size w W→Gives Tryz.prog 35 #[.slice a0 ps.length c0,.slice (some ⟨b,off,none⟩) r.length cl] W (.int .i64 (ocode ps r []))):=fun W hW =>
  lfirst_any W a0 _ c0 cl ps r (A.rp.below hW nr_) A.hi (by omega) (hrr.below hW nr_) h8
 have h9':(ps.length:Int)≤9:=by omega
 have hz:(ocode ps r [] == 0)=false:=by rw [beq_eq_false_iff_ne]; exact hc
 clear A hf hrr rx hn h8 hx8 hc
 generalize ocode ps r []=z at *
 generalize ps.length=n at *
 generalize x.length=nx at *
 obtain ⟨k,hk⟩:∃ k,r.length=k:=⟨_,rfl⟩
 simp only [hk] at HS HG HN H1 kx hcl h6 hm
 have hmk:IntKind.i64.wrap ((m:Int) - 1)=(k:Nat):=by rw [show (m:Int) - 1=(k:Nat) by omega]; exact iw_ _ (by omega)
 have hm0:((m:Int) == 0)=false:=by rw [beq_eq_false_iff_ne]; omega
 have hkm:(k:Int) < m:=by omega
 have hkm2:(k:Int)≤cl:=by omega
 clear hm hk
 have B0:=hd_ (Below.refl w.heap.size w)
 go_enter Tryz.func11,Tryz.ntmps11
 go_wp2_with fail
 refine cm_ (HK.out _ B0.out) ?_
 rintro e_ w1 ⟨rfl,hb⟩
 have B1:=hd_ (B0.out.trans (hb.mono B0.out.size))
 clear hb HK B0
 go_wp2_with fail
 refine cm_ (HF.out _ B1.out) ?_
 rintro e_ w2 ⟨rfl,hb⟩
 have B2:=hd_ (B1.out.trans (hb.mono B1.out.size))
 clear hb HF B1
 have kx2:=(B2.out.cell (p:=⟨b,off + k,none⟩) hb).trans kx
 clear kx
 go_wp2_with fail
 go_quiet (fail)
 replace B2:Hid (Below w.heap.size w (w2.drewN nq)):=below_dn B2.out _
 generalize w2.drewN nq=w3 at *
 clear kx2
 go_wp2_with fail
 refine cm_ (HS.out _ B2.out) ?_
 rintro e_ w4 ⟨rfl,hb⟩
 have B4:=hd_ (B2.out.trans (hb.mono B2.out.size))
 clear hb HS B2
 go_wp2_with fail
 refine cm_ (HG.out _ B4.out) ?_
 rintro e_ w5 ⟨rfl,hb⟩
 have B5:=hd_ (B4.out.trans (hb.mono B4.out.size))
 clear hb HG B4
 go_wp2_with fail
 refine cm_ (HN.out _ B5.out) ?_
 rintro e_ w6 ⟨rfl,hb⟩
 have B6:=hd_ (B5.out.trans (hb.mono B5.out.size))
 clear hb HN B5
 go_wp2_with fail
 refine cm_ (H1.out _ B6.out) ?_
 rintro e_ w7 ⟨rfl,hb⟩
 have B7:=hd_ (B6.out.trans (hb.mono B6.out.size))
 clear hb H1 B6
 go_wp2_with fail
 go_ret
 exact ⟨by simp,B7.out⟩
def NeaQ (ps:List Int) (r:List (List Int)) (x:List Int) (oc kN hN:Int):Prop :=
 (oc≠0∧hN=oc∧kN=0)∨(oc=0∧r.length=0∧hN=13∧kN=0)∨(oc=0∧0 < r.length∧hN=0∧kN=((nrB (cNr ps x r) r.length:Nat):Int)∧x.length=ps.length∧Xs x)
theorem nea_any (w:World) (ps:List Int) (a0:Option Addr) (b off c0 cl:Nat) (ax:Option Addr) (cx:Nat) (r:List (List Int)) (x:List Int) (A:SrsA w ps a0 (some ⟨b,off,none⟩) c0 cl r x) (P:PrOk ps) (hr:Iv ps.length r) (rx:Rd w ax (ints x)) :
  ∃ kN hN,NeaQ ps r x (ocode ps r [x]) kN hN∧∀ W,Below w.heap.size w W→Gives Tryz.prog 59 #[.slice a0 ps.length c0,.slice (some ⟨b,off,none⟩) r.length cl,.slice ax x.length cx] W (.tuple #[.int .i64 kN,.int .i64 hN]):=by
 have hrr:=rdi_front A.rl
 have h9:=A.h9
 have h6:=A.hr6
 have hn:Nil0 (some ⟨b,off,none⟩) r.length cl:=fun h=>by cases h
 have h8:∀ y∈r,y.length≤1000000:=fun y hy=>by have:=A.h8 y (List.mem_append_left _ hy); omega
 have hx8:x.length≤1000000:=by have:=A.h8 x (by simp); omega
 by_cases hc:ocode ps r [x]=0
 ·have hx:x.length=ps.length∧Xs x:=by
   unfold ocode at hc
   rw [if_pos P.p0,if_neg (by omega)] at hc
   exact mgo_iv.1 hc x (by simp)
  rcases Nat.eq_zero_or_pos r.length with h0 | h0
  ·refine ⟨0,13,.inr (.inl ⟨hc,h0,rfl,rfl⟩),fun W hW=>?_⟩
   have e:r=[]:=List.eq_nil_of_length_eq_zero h0
   subst e
   exact iNearest_nil W a0 _ ax c0 cl cx ps x (A.rp.below hW nr_) A.hi (by omega) (rx.below hW nr_) hn hx8 hc
  ·refine ⟨_,0,.inr (.inr ⟨hc,h0,rfl,rfl,hx.1,hx.2⟩),fun W hW=>?_⟩
   have:=iNearest_ok W ps P a0 (some ⟨b,off,none⟩) ax c0 cl cx r x (A.rp.below hW nr_) (hrr.below hW nr_) (rx.below hW nr_) hn (by omega) h0 hr hx.1 hx.2 (A.L.below hW)
   rw [← hx.1] at this
   rw [← hx.1]
   exact this
 ·refine ⟨0,_,.inl ⟨hc,rfl,rfl⟩,fun W hW=>?_⟩
  exact iNearest_err W a0 (some ⟨b,off,none⟩) ax c0 cl cx ps r x (A.rp.below hW nr_) A.hi (by omega) (hrr.below hW nr_) (rx.below hW nr_) hn (by omega) h8 hx8 hc
theorem lawSrs_ok (w:World) (ps:List Int) (a0 al:Option Addr) (c0 cl:Nat) (r:List (List Int)) (x:List Int) (m:Nat) (hm:m=r.length + 1) (A:SrsA w ps a0 al c0 cl r x) (hf:fewB (r ++ [x])=true) (P:PrOk ps) (hr:Iv ps.length r) :
  Gives Tryz.prog 11 #[.slice a0 ps.length c0,.slice al m cl] w (.bool true):=by
 unfold Gives
 have HK:Hid (∀ W,Below w.heap.size w W→Gives Tryz.prog 12 #[] W (.bool true)):=fun W hW=>known15_ok W (A.L.below hW)
 have HF:Hid (∀ W,Below w.heap.size w W→Gives Tryz.prog 33 #[.slice al m cl] W (.bool true)):=fun W hW=>by
  have:=lfew_ok W al cl (r ++ [x]) (A.rl.below hW nr_)
  rw [show (decide ((r ++ [x]).length≤6) && !(r ++ [x]).any wideX)=true from hf,List.length_append,List.length_singleton,← hm] at this
  exact this
 have hrr:=rdi_front A.rl
 obtain ⟨b,off,ax,cx,rfl,hb,kx,rx⟩:=rdi_back A.rl
 obtain ⟨kN,hN,hQ,hNE⟩:=nea_any w ps a0 b off c0 cl ax cx r x A P hr rx
 have HN:=hd_ hNE
 have HNQ:=hd_ hQ
 have h9:=A.h9
 have h6:=A.hr6
 have hcl:=A.hcl
 have hn0:=P.n0
 have hn6:=P.n6
 have hn:Nil0 (some ⟨b,off,none⟩) r.length cl:=fun h=>by cases h
 have HS:Hid (∀ W,Below w.heap.size w W→Calls Tryz.prog 57 #[.slice a0 ps.length c0,.slice (some ⟨b,off,none⟩) r.length cl] W fun e w'=>∃ a c F,e = .returned (.tuple #[.slice a r.length c,.int .i64 0])∧Fin' (cS ps (r.map rq)) r.length F∧Rd w' a (ints ((List.range r.length).map fun (k:Nat)=>((F k:Nat):Int)))∧Below W.heap.size W w'):=fun W hW =>
  iSort_ok W ps P a0 _ c0 cl r (A.rp.below hW nr_) (hrr.below hW nr_) hn (by omega) hr (A.L.below hW)
 have HG:Hid (∀ W,Below w.heap.size w W→Calls Tryz.prog 58 #[.slice a0 ps.length c0,.slice (some ⟨b,off,none⟩) r.length cl] W fun e w'=>Below W.heap.size W w'∧GapP ps r w' e):=fun W hW =>
  iGaps_ok W ps P a0 _ c0 cl r (A.rp.below hW nr_) (hrr.below hW nr_) hn (by omega) hr (A.L.below hW)
 have H1:Hid (∀ W,Below w.heap.size w W→Gives Tryz.prog 35 #[.slice a0 ps.length c0,.slice (some ⟨b,off,none⟩) r.length cl] W (.int .i64 0)):=fun W hW=>by
  have:=lfirst_any W a0 (some ⟨b,off,none⟩) c0 cl ps r (A.rp.below hW nr_) P.i64 (by omega) (hrr.below hW nr_) (fun x hx=>by have:=(hr x hx).1; omega)
  unfold ocode at this
  rw [if_pos P.p0,if_neg (by omega),List.append_nil,mgo_iv.2 hr] at this
  exact this
 have H2:Hid (∀ W,Below w.heap.size w W→Gives Tryz.prog 35 #[.slice a0 ps.length c0,.slice (some ⟨b,off,none⟩) m cl] W (.int .i64 (ocode ps r [x]))):=fun W hW=>by
  have:=lfirst_any W a0 (some ⟨b,off,none⟩) c0 cl ps (r ++ [x]) (A.rp.below hW nr_) P.i64 (by omega) (A.rl.below hW nr_) (fun x hx=>by have:=A.h8 x hx; omega)
  rw [ocode_last ps r x (by omega),List.length_append,List.length_singleton,← hm] at this
  exact this
 have HO:Hid (∀ W,Below w.heap.size w W→Calls Tryz.prog 29 #[.slice a0 ps.length c0,.slice (some ⟨b,off,none⟩) r.length cl] W fun e w'=>∃ a c F,e = .returned (.slice a r.length c)∧Fin' (cS ps (r.map rq)) r.length F∧Rd w' a (ints ((List.range r.length).map fun (k:Nat)=>((F k:Nat):Int)))∧Below W.heap.size W w'):=fun W hW =>
  lorder_iv W ps P a0 _ c0 cl r (A.rp.below hW nr_) (hrr.below hW nr_) hr (by omega) (A.L.below hW)
 have HE:Hid (∀ W a a' c c' (z:List Int),Rd W a (ints z)→Rd W a' (ints z)→z.length=r.length→Gives Tryz.prog 39 #[.slice a r.length c,.slice a' r.length c'] W (.bool true)):=fun W a a' c c' z r1 r2 hz=>by
  have:=islEqI_any W a a' c c' z z r1 r2 (by omega)
  rw [decide_eq_true rfl,hz] at this
  exact this
 have HSub:Hid (∀ W a1 a2 c1 c2 y z,Rd W a1 (ints y)→Rd W a2 (ints z)→y∈r→z∈r→Calls Tryz.prog 48 #[.slice a1 ps.length c1,.slice a2 ps.length c2] W fun e w'=>∃ a c,e = .returned (.slice a ps.length c)∧w'.ownsRow W.heap.size 3 1 (.slice a ps.length c) ps.length (ints (subI y z))∧Below W.heap.size W w'):=fun W a1 a2 c1 c2 y z h1 h2 m1 m2 =>
  lsub2 W a1 a2 c1 c2 ps.length y z h1 h2 (hr y m1).1 (hr z m2).1 (by omega) ((hr y m1).2.bd.le (by decide)) ((hr z m2).2.bd.le (by decide))
 have HLo:Hid (∀ W a c (z:List Int),Rd W a (ints z)→z.length=ps.length→Gives Tryz.prog 44 #[.slice a ps.length c] W (.bool (z.any farX))):=fun W a c z h1 h2=>by
  have:=llong_ok W a c z h1 (by omega)
  rw [h2] at this
  exact this
 have HEQ:Hid (∀ W a a' c c' (l:List (List Int)) (q:Nat),RdI W a l→RdI W a' l→l.length=q→q≤100→(∀ y∈l,y.length≤1000000)→Gives Tryz.prog 60 #[.slice a q c,.slice a' q c',.func (.func 61) #[] #[]] W (.bool true)):=fun W a a' c c' l q h1 h2 h3 h4 h5=>by
  subst h3
  exact eqR_true W a a' c c' l h1 h2 (by omega) h5
 have HNR:Hid (∀ W,Below w.heap.size w W→0 < r.length→x.length=ps.length→Xs x→Gives Tryz.prog 62 #[.slice a0 ps.length c0,.slice (some ⟨b,off,none⟩) r.length cl,.slice ax x.length cx] W (.int .i64 (nrB (cNr ps x r) r.length:Nat))):=fun W hW h0 lx sx=>by
  have:=lnearest_ok W ps P a0 (some ⟨b,off,none⟩) ax c0 cl cx r x (A.rp.below hW nr_) (hrr.below hW nr_) (rx.below hW nr_) (by omega) h0 hr lx sx (A.L.below hW)
  rw [← lx] at this ⊢
  exact this
 have hpre:=cS_pre (sortOk_iv P hr)
 rw [List.length_map] at hpre
 have HU:Hid (∀ F G,Fin' (cS ps (r.map rq)) r.length F→Fin' (cS ps (r.map rq)) r.length G→((List.range r.length).map fun (k:Nat)=>((G k:Nat):Int))=(List.range r.length).map fun (k:Nat)=>((F k:Nat):Int)):=fun F G h1 h2 =>
  List.map_congr_left fun k hk=>by rw [h2.unique h1 hpre k (List.mem_range.1 hk)]
 have HAt:Hid (∀ F w' e,Fin' (cS ps (r.map rq)) r.length F→GapP ps r w' e→(farB r F (r.length - 1)=false∧∃ a c,e = .returned (.tuple #[.slice a (r.length - 1) c,.int .i64 0])∧RdI w' a (gapsL r F (r.length - 1)))∨(farB r F (r.length - 1)=true∧e = .returned (.tuple #[.slice none 0 0,.int .i64 4]))):=fun F w' e h1 h2=>h2.at h1 hpre
 have Hrl:Hid (∀ i,i < r.length→∃ a' c',w.cell? ⟨b,off + i,none⟩=some (.slice a' ps.length c')∧Rd w a' (ints (r.getD i []))):=fun i hi=>by
  rcases hrr with h | ⟨b',off',h1,h2,h3⟩
  ·rw [h] at hi; exact absurd hi (Nat.not_lt_zero _)
  ·simp only [Option.some.injEq,Addr.mk.injEq,and_true] at h1
   obtain ⟨rfl,rfl⟩:=h1
   obtain ⟨a',c',k1,k2⟩:=h3 i hi
   rw [(hr _ (getD_memI hi)).1] at k1
   exact ⟨a',c',k1,k2⟩
 have Hmem:Hid (∀ i,i < r.length→r.getD i []∈r):=fun i hi=>getD_memI hi
 have Hlsg:Hid (∀ F:Nat→Nat,(∀ k,k < r.length→F k < r.length)→∀ i,(lsG ps.length r.length r F i).length=ps.length):=fun F h i=>lsG_len hr rfl h i
 have h9':(ps.length:Int)≤9:=by omega
 clear A hf hrr rx hn hr P hNE hQ hpre
 unfold NeaQ at HNQ
 generalize ocode ps r [x]=oc at *
 generalize cS ps (r.map rq)=cs at *
 generalize hGP:GapP ps r=GP at *
 clear hGP
 obtain ⟨n,hnn⟩:∃ n,ps.length=n:=⟨_,rfl⟩
 obtain ⟨nx,hnx⟩:∃ nx,x.length=nx:=⟨_,rfl⟩
 obtain ⟨k,hk⟩:∃ k,r.length=k:=⟨_,rfl⟩
 simp only [hk,hnn,hnx] at HS HG HN H1 H2 HO HE HSub HLo HNR HU HAt Hrl Hmem Hlsg HNQ kx hcl h6 hm hn0 hn6 h9 h9' ⊢
 have Hkk:=hd_ hk
 have Hn0:=hd_ hn0
 have hmk:IntKind.i64.wrap ((m:Int) - 1)=(k:Nat):=by rw [show (m:Int) - 1=(k:Nat) by omega]; exact iw_ _ (by omega)
 have hm0:((m:Int) == 0)=false:=by rw [beq_eq_false_iff_ne]; omega
 have hkm:(k:Int) < m:=by omega
 have hkm2:(k:Int)≤cl:=by omega
 clear hm hk hnn hnx hn0
 have B0:=hd_ (Below.refl w.heap.size w)
 go_enter Tryz.func11,Tryz.ntmps11
 go_wp2_with fail
 refine cm_ (HK.out _ B0.out) ?_
 rintro e_ w1 ⟨rfl,hb⟩
 have B1:=hd_ (B0.out.trans (hb.mono B0.out.size))
 clear hb HK B0
 go_wp2_with fail
 refine cm_ (HF.out _ B1.out) ?_
 rintro e_ w2 ⟨rfl,hb⟩
 have B2:=hd_ (B1.out.trans (hb.mono B1.out.size))
 clear hb HF B1
 have kx2:=(B2.out.cell (p:=⟨b,off + k,none⟩) hb).trans kx
 clear kx
 go_wp2_with fail
 go_quiet (fail)
 replace B2:Hid (Below w.heap.size w (w2.drewN nq)):=below_dn B2.out _
 generalize w2.drewN nq=w3 at *
 clear kx2
 go_wp2_with fail
 refine cm_ (HS.out _ B2.out) ?_
 rintro e_ w4 ⟨ao,co,F,rfl,hF,hro,hb_⟩
 have HFi:=hd_ hF
 have HRo:=hd_ hro
 have B4:=hd_ (B2.out.trans (hb_.mono B2.out.size))
 clear hF hro hb_ HS B2
 go_wp2_with fail
 refine cm_ (HG.out _ B4.out) ?_
 rintro e_ w5 ⟨hb_,hgp⟩
 have HGa:=hd_ (HAt.out F w5 e_ HFi.out hgp)
 have HRo5:=hd_ (HRo.out.below hb_ nr_)
 have B5:=hd_ (B4.out.trans (hb_.mono B4.out.size))
 clear hb_ hgp HG HAt HRo B4
 obtain ⟨v1,v2,rfl⟩:∃ v1 v2,e_ = .returned (.tuple #[v1,v2]):=by
  rcases HGa.out with ⟨-,a,c,h,-⟩ | ⟨-,h⟩
  ·exact ⟨_,_,h⟩
  ·exact ⟨_,_,h⟩
 go_wp2_with fail
 refine cm_ (HN.out _ B5.out) ?_
 rintro e_ w6 ⟨rfl,hb_⟩
 have B56:=hd_ hb_
 have B6:=hd_ (B5.out.trans (hb_.mono B5.out.size))
 clear hb_ HN B5
 go_wp2_with fail
 refine cm_ (H1.out _ B6.out) ?_
 rintro e_ w7 ⟨rfl,hb_⟩
 have B57:=hd_ (B56.out.trans (hb_.mono B56.out.size))
 have B7:=hd_ (B6.out.trans (hb_.mono B6.out.size))
 clear hb_ H1 B6 B56
 go_wp2_with fail
 refine cm_ (HO.out _ B7.out) ?_
 rintro e_ w8 ⟨a8,c8,F2,rfl,hF2,hr8,hb_⟩
 have e8:=HU.out F F2 HFi.out hF2
 rw [e8] at hr8
 have HR8:=hd_ hr8
 have B58:=hd_ (B57.out.trans (hb_.mono B57.out.size))
 have B8:=hd_ (B7.out.trans (hb_.mono B7.out.size))
 have HE1:=hd_ (HE.out w8 ao a8 co c8 _ (HRo5.out.below B58.out nr_) HR8.out (by rw [List.length_map,List.length_range]))
 clear hb_ HO B7 B57 e8 hF2 hr8 HU HE HRo5 F2
 unfold Gives at HE1
 go_wp2_with fail
 refine cm_ HE1.out ?_
 rintro e_ w9 ⟨rfl,hb_⟩
 have HR9:=hd_ (HR8.out.below hb_ nr_)
 have B59:=hd_ (B58.out.trans (hb_.mono B58.out.size))
 have B9:=hd_ (B8.out.trans (hb_.mono B8.out.size))
 have Hls:=hd_ (Hlsg.out F HFi.out.lt)
 have HFlt:=hd_ HFi.out.lt
 clear hb_ HE1 B8 B58 HR8 Hlsg HFi
 go_wp2_with fail
 go_loopw [15,16,17] (fun fa ga z wr=>∃ (i:Nat) (bg:Option Addr) (dg:Nat) (LL:List (Nat×Nat)),1≤i∧(i≤k∨i=1)∧z = .int .i64 i∧fa = .bool (farB r F (i - 1))∧ga = .slice bg LL.length dg∧Hid (LL.length=i - 1)∧Hid (OwnW wr w9.heap.size bg dg n LL (lsG n k r F))∧Hid (Below w9.heap.size w9 wr)) (fun _ _ z _=>k + 1 - (intOf z).toNat)
 case atStart=>exact ⟨1,none,0,[],Nat.le_refl _,.inr rfl,rfl,rfl,rfl,rfl,OwnW.nil _ _ _ _ Hls.out,Below.refl _ _⟩
 case round =>
  obtain ⟨i,bg,dg,LL,hi1,hi2,rfl,rfl,rfl,HL,HO5,HB⟩:=hrel
  have Bw:=hd_ (B9.out.trans (HB.out.mono B9.out.size))
  by_cases hlt:i < k
  ·have hlt':(i:Int) < k:=by omega
   clear HGa HEQ HNR HNQ H2
   obtain ⟨j,hj⟩:∃ j,j + 1=i:=⟨i - 1,by omega⟩
   have ej:i - 1=j:=by omega
   rw [ej] at HL
   rw [ej]
   have hwj:IntKind.i64.wrap ((i:Int) - 1)=(j:Nat):=by rw [show (i:Int) - 1=(j:Nat) by omega]; exact iw_ _ (by omega)
   have hjm:j < k:=by omega
   have hjm':(j:Int) < k:=by omega
   have hFi:=HFlt.out i hlt
   have hFi':((F i:Nat):Int) < k:=by omega
   have hFj:=HFlt.out j hjm
   have hFj':((F j:Nat):Int) < k:=by omega
   obtain ⟨ba,oa,rfl,hba,hca⟩:=HR9.out.open (by rw [ints_length,List.length_map,List.length_range]; omega)
   have ko:=(HB.out.cell (p:=⟨ba,oa + i,none⟩) hba).trans (hca i (.int .i64 (F i:Nat)) (by
    unfold ints
    rw [List.getElem?_map,List.getElem?_map,List.getElem?_range hlt]; rfl))
   have kp:=(HB.out.cell (p:=⟨ba,oa + j,none⟩) hba).trans (hca j (.int .i64 (F j:Nat)) (by
    unfold ints
    rw [List.getElem?_map,List.getElem?_map,List.getElem?_range hjm]; rfl))
   obtain ⟨a3,c3,k3,r3⟩:=Hrl.out (F i) hFi
   obtain ⟨a4,c4,k4,r4⟩:=Hrl.out (F j) hFj
   have k3':=(Bw.out.cell (p:=⟨b,off + F i,none⟩) hb).trans k3
   have k4':=(Bw.out.cell (p:=⟨b,off + F j,none⟩) hb).trans k4
   have I:Hid (Below wr.heap.size wr wr.drew):=(Below.refl _ _).drew
   have HS1:=hd_ (HSub.out wr.drew a3 a4 c3 c4 _ _ ((r3.below Bw.out nr_).below I.out nr_) ((r4.below Bw.out nr_).below I.out nr_) (Hmem.out _ hFi) (Hmem.out _ hFj))
   have HGf:Hid (subI (r.getD (F i) []) (r.getD (F j) [])=gapF r F j):=by show _=_; unfold gapF; rw [hj]
   rw [HGf.out] at HS1
   have Hj:=hd_ hj
   have Hej:=hd_ ej
   clear hca k3 k4 r3 r4 HGf hj ej HSub
   generalize F i=fi at *
   generalize F j=fj at *
   have q1:=BW.cell ko
   have q2:=BW.cell kp
   have q3:=BW.cell k3'
   have q4:=BW.cell k4'
   have hnon:Nonempty (BW wr):=⟨⟨wr,Below.refl _ _⟩⟩
   have Hfs:=hd_ (farB_succ r F j)
   generalize hfb:farB r F j=fb at *
   clear hfb
   go_wp2_with fail
   clear ko kp k3' k4'
   refine RY.wp_region_readers 15 [(2,0),(2,1),(2,2),(2,3),(1,4),(2,5),(1,6),(2,7),(2,8),(2,9),(2,10),(2,11),(1,12),(2,13),(1,14),(0,15),(0,16)] (fun w'=>∃ p:BW wr,w'=p.w) (by kernel_rfl) (by kernel_rfl) ?_ ?_
   ·exact ⟨⟨_,I.out⟩,rfl⟩
   iterate 4 (refine RY.walkR_any ?_; simp only [dsc_,dz_,tsc_,tz_]; go_big_quiet_step (fail); refine wpQuiet_nil ?_)
   iterate 1 (refine RY.walkR_read ?_; simp only [dsc_,dz_,tsc_,tz_]; go_big_quiet_step (fail); refine wpQuiet_nil ?_)
   iterate 1 (refine RY.walkR_any ?_; simp only [dsc_,dz_,tsc_,tz_]; go_big_quiet_step (fail); refine wpQuiet_nil ?_)
   iterate 1 (refine RY.walkR_read ?_; simp only [dsc_,dz_,tsc_,tz_]; go_big_quiet_step (fail); refine wpQuiet_nil ?_)
   iterate 5 (refine RY.walkR_any ?_; simp only [dsc_,dz_,tsc_,tz_]; go_big_quiet_step (fail); refine wpQuiet_nil ?_)
   iterate 1 (refine RY.walkR_read ?_; simp only [dsc_,dz_,tsc_,tz_]; go_big_quiet_step (fail); refine wpQuiet_nil ?_)
   iterate 1 (refine RY.walkR_any ?_; simp only [dsc_,dz_,tsc_,tz_]; go_big_quiet_step (fail); refine wpQuiet_nil ?_)
   iterate 1 (refine RY.walkR_read ?_; simp only [dsc_,dz_,tsc_,tz_]; go_big_quiet_step (fail); refine wpQuiet_nil ?_)
   clear hnon q1 q2 q3 q4
   refine RY.walkR_move ?_
   simp only [dsc_,dz_,tsc_,tz_]
   go_wp2_with fail
   refine cm_ HS1.out ?_
   rintro e_ wx ⟨ag,cg,rfl,ho,hb_⟩
   have D1:Hid (Below wr.heap.size wr wx):=I.out.trans (hb_.mono I.out.size)
   have hszd:wr.heap.size≤wr.drew.heap.size:=I.out.size
   obtain ⟨g,cap,hv,hg1,-,-,-,-⟩:=own_open ho Hn0.out
   obtain ⟨rfl,rfl⟩:ag=some ⟨g,0,none⟩∧cg=cap:=by
    simp only [Value.slice.injEq] at hv
    exact ⟨hv.1,hv.2.2⟩
   have hls:lsG n k r F LL.length=gapF r F j:=by unfold lsG; rw [HL.out,if_pos (by have:=Hj.out; omega)]
   have hlen:(gapF r F j).length=n:=by rw [← hls]; exact Hls.out _
   have HO6:Hid (OwnI wx w9.heap.size (some ⟨g,0,none⟩) cg (lsG n k r F LL.length)):=by
    rw [hls]
    refine OwnI.lower15 (l:=gapF r F j) ?_ (Nat.le_trans HB.out.size hszd)
    unfold OwnI
    rw [hlen]
    exact ho
   have Hlo:=hd_ (fun W hW=>HLo.out W (some ⟨g,0,none⟩) cg (gapF r F j) ((own_rd ho).below (B:=wx.heap.size) hW nr_) hlen)
   clear ho hb_ hv hg1 hls hlen HS1 I HLo
   go_wp2_with fail
   refine RY.walkR_move ?_
   simp only [dsc_,dz_,tsc_,tz_]
   go_wp2_with fail
   simp only [RY.walkR]
   have B5:=hd_ (HB.out.trans (D1.out.mono HB.out.size))
   have O5:=hd_ (HO5.out.below D1.out nr_)
   clear HO5 HB D1 Bw hszd
   have hbd:LL.length < 19:=by have:=HL.out; omega
   generalize hzb:(gapF r F j).any farX=zb at *
   clear hzb
   cases fb with
   | true =>
    have Hfn:Hid (farB r F i=true):=by show _=_; rw [← Hj.out,Hfs.out]; rfl
    have hsz5:=B5.out.size
    clear Hlo Hfs
    go_wp2_with (at_builtin; refine wpList_append_new rfl (.tmp 136) (.tmp 138) 26 rfl elRw _ 1 [.slice (some ⟨g,0,none⟩) n cg] rfl rfl O5.out.row hsz5 rfl ?c1 (by omega) (by omega) ?_)
    case c1=>first | rfl | (intro u hu; obtain rfl:=List.mem_singleton.1 hu; rfl)
    intro v' w8x hown hg hnl
    obtain ⟨b',d',rfl,OW⟩:=OwnW.put O5.out HO6.out hown hg
    have W8:=hd_ OW
    have B8:Hid (Below w9.heap.size w9 w8x):=(B5.out.alloc B5.out.size _).grown hg (by have:=B5.out.size; simp; omega) (fun t ht=>(O5.out.row.lt t ht).1)
    have Hl8:Hid ((LL ++ [(g,cg)]).length=(i + 1) - 1):=by show (LL ++ [(g,cg)]).length=_; rw [List.length_append,HL.out]; have:=Hj.out; simp; omega
    have e8:LL.length + 1=(LL ++ [(g,cg)]).length:=by simp
    clear hown hg hnl OW O5 HO6 B5
    rw [e8]
    go_wp2_with fail
    go_roundw
    case rel=>exact ⟨i + 1,b',d',LL ++ [(g,cg)],by omega,.inl (by omega),by go_num,by rw [show i + 1 - 1=i from rfl,Hfn.out],rfl,Hl8,W8,B8⟩
    case measure=>simp [intOf]; omega
   | false =>
    have HL1:=hd_ (Hlo.out wx (Below.refl _ _))
    unfold Gives at HL1
    clear Hlo
    go_wp2_with fail
    refine cm_ HL1.out ?_
    rintro e_ wy ⟨rfl,hb_⟩
    have Hfn:Hid (farB r F i=zb):=by show _=_; rw [← Hj.out,Hfs.out,Bool.false_or]
    replace B5:=hd_ (B5.out.trans (hb_.mono B5.out.size))
    replace O5:=hd_ (O5.out.below hb_ nr_)
    replace HO6:=hd_ (HO6.out.below hb_ nr_)
    have hsz5:=B5.out.size
    clear hb_ HL1 Hfs
    go_wp2_with (at_builtin; refine wpList_append_new rfl (.tmp 136) (.tmp 138) 26 rfl elRw _ 1 [.slice (some ⟨g,0,none⟩) n cg] rfl rfl O5.out.row hsz5 rfl ?c1 (by omega) (by omega) ?_)
    case c1=>first | rfl | (intro u hu; obtain rfl:=List.mem_singleton.1 hu; rfl)
    intro v' w8x hown hg hnl
    obtain ⟨b',d',rfl,OW⟩:=OwnW.put O5.out HO6.out hown hg
    have W8:=hd_ OW
    have B8:Hid (Below w9.heap.size w9 w8x):=(B5.out.alloc B5.out.size _).grown hg (by have:=B5.out.size; simp; omega) (fun t ht=>(O5.out.row.lt t ht).1)
    have Hl8:Hid ((LL ++ [(g,cg)]).length=(i + 1) - 1):=by show (LL ++ [(g,cg)]).length=_; rw [List.length_append,HL.out]; have:=Hj.out; simp; omega
    have e8:LL.length + 1=(LL ++ [(g,cg)]).length:=by simp
    clear hown hg hnl OW O5 HO6 B5
    rw [e8]
    go_wp2_with fail
    go_roundw
    case rel=>exact ⟨i + 1,b',d',LL ++ [(g,cg)],by omega,.inl (by omega),by go_num,by rw [show i + 1 - 1=i from rfl,Hfn.out],rfl,Hl8,W8,B8⟩
    case measure=>simp [intOf]; omega
  ·have hlt':¬ (i:Int) < k:=by omega
   have ei:i - 1=k - 1:=by omega
   have B5w:=hd_ (B59.out.trans (HB.out.mono B59.out.size))
   rw [ei] at HL
   rw [ei,HL.out]
   have Hfin:Hid (RdI wr bg (gapsL r F (k - 1))):=by
    refine HO5.out.rdi (by rw [gapsL_length,HL.out]) fun t ht=>?_
    rw [gapsL_length] at ht
    unfold gapsL lsG
    rw [List.getD_eq_getElem?_getD,List.getElem?_map,List.getElem?_range ht,if_pos (by omega)]
    rfl
   have Hgl:Hid (∀ y∈gapsL r F (k - 1),y.length≤1000000):=fun y hy=>by
    obtain ⟨t,ht,rfl⟩:=List.mem_map.1 hy
    have ht':=List.mem_range.1 ht
    have h:=Hls.out t
    unfold lsG at h
    rw [if_pos (by omega)] at h
    omega
   clear HO5 HL HB Hls HR9 HSub HLo Hrl Hmem hi1 hi2
   rcases HGa.out with ⟨hfb,ag,cg,he,hrg⟩ | ⟨hfb,he⟩
   ·obtain ⟨rfl,rfl⟩:v1 = .slice ag (k - 1) cg∧v2 = .int .i64 0:=by simpa using he
    have HEQ1:=hd_ (HEQ.out wr ag bg cg dg (gapsL r F (k - 1)) (k - 1) (hrg.below B5w.out nr_) Hfin.out (gapsL_length _ _ _) (by omega) Hgl.out)
    unfold Gives at HEQ1
    rw [hfb]
    clear hfb he hrg HGa HEQ Hfin Hgl B5w
    generalize k - 1=k1 at *
    go_wp2_with fail
    refine cm_ HEQ1.out ?_
    rintro e_ wz ⟨rfl,hb_⟩
    have Bz:=hd_ (Bw.out.trans (hb_.mono Bw.out.size))
    clear hb_ HEQ1 Bw
    go_wp2_with fail
    refine cm_ (H2.out _ Bz.out) ?_
    rintro e_ wq ⟨rfl,hb_⟩
    have Bq:=hd_ (Bz.out.trans (hb_.mono Bz.out.size))
    clear hb_ H2 Bz
    rcases HNQ.out with ⟨ho,h1,h2⟩ | ⟨ho,h0,h1,h2⟩ | ⟨ho,h0,h1,h2,h3,h4⟩
    ·subst h1 h2
     have hoz:(hN == 0)=false:=by rw [beq_eq_false_iff_ne]; exact ho
     clear HNQ HNR ho
     go_wp2_with fail
     go_ret
     exact ⟨by simp,Bq.out⟩
    ·subst ho h1 h2
     have hkz:((k:Int) == 0)=true:=by rw [beq_iff_eq]; omega
     clear HNQ HNR
     go_wp2_with fail
     go_ret
     exact ⟨by first | rfl | simp,Bq.out⟩
    ·subst ho h1
     have hkz:((k:Int) == 0)=false:=by rw [beq_eq_false_iff_ne]; omega
     have HNR1:=hd_ (HNR.out wq Bq.out h0 h3 h4)
     rw [← h2] at HNR1
     unfold Gives at HNR1
     clear HNQ HNR h2 h3 h4 h0
     go_wp2_with fail
     refine cm_ HNR1.out ?_
     rintro e_ wt ⟨rfl,hb_⟩
     have Bt:=hd_ (Bq.out.trans (hb_.mono Bq.out.size))
     clear hb_ HNR1 Bq
     go_wp2_with fail
     go_ret
     exact ⟨by simp,Bt.out⟩
   ·obtain ⟨rfl,rfl⟩:v1 = .slice none 0 0∧v2 = .int .i64 4:=by simpa using he
    rw [hfb]
    have Bz:=Bw
    clear hfb he HGa HEQ Hfin Hgl B5w Bw
    generalize k - 1=k1 at *
    go_wp2_with fail
    refine cm_ (H2.out _ Bz.out) ?_
    rintro e_ wq ⟨rfl,hb_⟩
    have Bq:=hd_ (Bz.out.trans (hb_.mono Bz.out.size))
    clear hb_ H2 Bz
    rcases HNQ.out with ⟨ho,h1,h2⟩ | ⟨ho,h0,h1,h2⟩ | ⟨ho,h0,h1,h2,h3,h4⟩
    ·subst h1 h2
     have hoz:(hN == 0)=false:=by rw [beq_eq_false_iff_ne]; exact ho
     clear HNQ HNR ho
     go_wp2_with fail
     go_ret
     exact ⟨by simp,Bq.out⟩
    ·subst ho h1 h2
     have hkz:((k:Int) == 0)=true:=by rw [beq_iff_eq]; omega
     clear HNQ HNR
     go_wp2_with fail
     go_ret
     exact ⟨by first | rfl | simp,Bq.out⟩
    ·subst ho h1
     have hkz:((k:Int) == 0)=false:=by rw [beq_eq_false_iff_ne]; omega
     have HNR1:=hd_ (HNR.out wq Bq.out h0 h3 h4)
     rw [← h2] at HNR1
     unfold Gives at HNR1
     clear HNQ HNR h2 h3 h4 h0
     go_wp2_with fail
     refine cm_ HNR1.out ?_
     rintro e_ wt ⟨rfl,hb_⟩
     have Bt:=hd_ (Bq.out.trans (hb_.mono Bq.out.size))
     clear hb_ HNR1 Bq
     go_wp2_with fail
     go_ret
     exact ⟨by simp,Bt.out⟩
theorem lawSrs (w:World) (a0 al:Option Addr) (c0 cl:Nat) (ps:List Int) (l:List (List Int)) (rp:Rd w a0 (ints ps)) (hi:I64s ps) (rl:RdC w al l) (hn:Nil0 al l.length cl) (hcl:l.length≤cl) (L:Laid w) :
  Gives Tryz.prog 11 #[.slice a0 ps.length c0,.slice al l.length cl] w (.bool true):=by
 by_cases h1:9 < ps.length
 ·exact lawSrs_many1 w a0 al c0 cl _ l h1 L
 ·by_cases h2:l.length=0
  ·exact lawSrs_many2 w a0 al c0 cl _ l (by omega) h2 L
  ·cases hf:fewB l with
   | false=>exact lawSrs_many3 w a0 al c0 cl _ l rl.rdi (by omega) (by omega) hf L
   | true =>
    have hne:l≠[]:=fun e=>h2 (by rw [e]; rfl)
    obtain ⟨r,x,rfl⟩:∃ r x,l=r ++ [x]:=⟨l.dropLast,l.getLast hne,(List.dropLast_concat_getLast hne).symm⟩
    have hf':=hf
    unfold fewB at hf'
    rw [Bool.and_eq_true,Bool.not_eq_true',List.any_eq_false] at hf'
    obtain ⟨q1,q2⟩:=hf'
    have q1':=of_decide_eq_true q1
    rw [List.length_append,List.length_singleton] at q1' hcl
    have A:SrsA w ps a0 al c0 cl r x:=⟨rp,hi,by omega,rl.rdi,fun e=>by have:=(hn e).1; simp at this,hcl,by omega,fun y hy=>by have:=q2 y hy; unfold wideX at this; simp at this; omega,L⟩
    have hm:(r ++ [x]).length=r.length + 1:=by simp
    by_cases hc:ocode ps r []=0
    ·have hp:pcode ps=0:=by
      unfold ocode at hc
      by_cases hp:pcode ps=0
      ·exact hp
      ·rw [if_neg hp] at hc; exact absurd hc hp
     have hr:Iv ps.length r:=by
      unfold ocode at hc
      rw [if_pos hp,if_neg (by omega),List.append_nil] at hc
      exact mgo_iv.1 hc
     exact lawSrs_ok w ps a0 al c0 cl r x _ hm A hf (prOk_of hp) hr
    ·exact lawSrs_err w ps a0 al c0 cl r x _ hm A hf hc
end Go.Proofs.YtkoicfghplmghaaGreatDoor
