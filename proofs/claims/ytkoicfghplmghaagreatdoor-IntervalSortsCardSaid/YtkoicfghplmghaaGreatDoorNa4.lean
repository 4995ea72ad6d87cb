/- Lemmas for the laws of this seat, part 4. -/
import Derived.Laws.AppendOwnNone
import Derived.BigQuiet
import Derived.Deep.OwnRows
import Derived.Lib.SmallJoins
import Derived.Deep.LoopGhost
import Derived.Lib.Walk
import Derived.Lib.SliceRun
import Derived.RangeFuncNested
import Derived.RangeFuncBound
import Derived.RangeFuncCalls
import Derived.RangeFuncLeaves
import Derived.Shelf.Abstract
import Derived.Shelf.RegionOpen
import Derived.OwnWalkIn
import Derived.TacticsInMore
import Derived.LoopNIn
import Derived.LoopIn
import Derived.Sort.LoopGhostIn
import Derived.RangeFuncOwn
import Derived.Maps.OwnIn
import Derived.RangeFuncBox
import Derived.Test.YtkoicfghplmghaaGreatDoorNa3
set_option maxRecDepth 100000
set_option maxHeartbeats 16000000
namespace Go.Proofs.YtkoicfghplmghaaGreatDoor
open Go.RowKit
def RdI (w:World) (a:Option Addr) (ls:List (List Int)):Prop :=
 ls=[]∨∃ b off,a=some ⟨b,off,none⟩∧b < w.heap.size∧∀ i,i < ls.length→∃ a' c',w.cell? ⟨b,off + i,none⟩=some (.slice a' (ls.getD i []).length c')∧Rd w a' (ints (ls.getD i []))
theorem RdI.below {w w':World} {a:Option Addr} {ls:List (List Int)} {B:Nat} (h:RdI w a ls) (hb:Below B w w') (hB:w.heap.size≤B):RdI w' a ls:=by
 rcases h with h | ⟨b,off,h1,h2,h3⟩
 ·exact .inl h
 ·refine .inr ⟨b,off,h1,Nat.lt_of_lt_of_le h2 hb.size,fun i hi=>?_⟩
  obtain ⟨a',c',h4,h5⟩:=h3 i hi
  exact ⟨a',c',by rw [hb.cell (p:=⟨b,off + i,none⟩) (by show b < B; omega)]; exact h4,h5.below hb hB⟩
def mx:List Int→Int
 | []=>0
 | x :: l=>if 1000 < x∨x < -1000 then 4 else mx l
def mrow (n:Nat) (r:List Int):Int:=if r.length=n then mx r else 5
def mgo (n:Nat):List (List Int)→Int
 | []=>0
 | r :: rs=>if mrow n r=0 then mgo n rs else mrow n r
def mcode (ps:List Int) (rs:List (List Int)):Int:=if pcode ps=0 then mgo ps.length rs else pcode ps
theorem monCheckAll_any (w:World) (a1 a2:Option Addr) (c1 c2:Nat) (ps:List Int) (ls:List (List Int)) (hp:Rd w a1 (ints ps)) (hi:I64s ps) (hl1:ps.length≤1000000)
  (hr:RdI w a2 ls) (hl:ls.length≤1000000) (hl2:∀ l∈ls,l.length≤1000000) :
  Gives Tryz.prog 71 #[.slice a1 ps.length c1,.slice a2 ls.length c2] w (.int .i64 (mcode ps ls)):=by
 unfold Gives
 have H1:=hd_ (primeCheck_any w a1 c1 ps hp hi hl1)
 have Hv:Hid (mcode ps ls=if pcode ps=0 then mgo ps.length ls else pcode ps):=rfl
 have Hr:=hd_ hr
 have Hl2:=hd_ hl2
 clear hp hi hl2 hr
 generalize mcode ps ls=v at *
 generalize pcode ps=p at *
 generalize ps.length=n at *
 by_cases h0:p=0
 ·subst h0
  have Hvv:Hid (v=mgo n ls):=by show _=_; rw [Hv.out,if_pos rfl]
  clear Hv
  generalize hm:ls.length=m at *
  have Hm:=hd_ hm
  clear hm
  go_enter Tryz.func71,Tryz.ntmps71
  go_wp2_with fail
  refine cm_ H1.out ?_
  rintro e w1 ⟨rfl,hb1⟩
  have Hb1:=hd_ hb1
  clear hb1 H1
  go_wp2_with fail
  go_loopw [17] (fun i wr=>∃ k:Nat,k≤m∧i = .int .i64 k∧Hid (mgo n ls=mgo n (ls.drop k))∧Hid (Below w.heap.size w wr)) (fun i _=>m - (intOf i).toNat)
  case atStart=>exact ⟨0,Nat.zero_le _,rfl,rfl,Hb1⟩
  case round =>
   clear Hb1
   obtain ⟨k,hk,rfl,Hg,Hb⟩:=hrel
   by_cases hlt:k < m
   ·have hlt':(k:Int) < m:=by omega
    have hkl:k < ls.length:=by rw [Hm.out]; exact hlt
    rcases Hr.out with hnil | ⟨b,off,rfl,hb,hcells⟩
    ·rw [hnil] at hkl; exact absurd hkl (Nat.not_lt_zero _)
    obtain ⟨a',c',cx,hrd⟩:=hcells k hkl
    have hgl:ls.getD k []=ls[k]:=by rw [List.getD_eq_getElem?_getD,List.getElem?_eq_getElem hkl]; rfl
    rw [← Hb.out.cell (p:=⟨b,off + k,none⟩) hb,hgl] at cx
    rw [hgl] at hrd
    have Hd:Hid (ls.drop k=ls[k] :: ls.drop (k + 1)):=List.drop_eq_getElem_cons hkl
    have hlm:=Hl2.out _ (List.getElem_mem hkl)
    have Hrd:=hd_ hrd
    clear hgl hcells hrd
    generalize ls[k]=l at *
    generalize hq:l.length=q at *
    have Hq:=hd_ hq
    clear hq
    by_cases hs:q=n
    ·have Hmr:Hid (mrow n l=mx l):=by show _=_; unfold mrow; rw [if_pos (Hq.out.trans hs)]
     subst hs
     go_wp2_with fail
     obtain ⟨wo,hwo⟩:∃ wo:World,wo=wr:=⟨_,rfl⟩
     subst hwo
     go_loopw [28] (fun i wr=>∃ j:Nat,j≤q∧i = .int .i64 j∧Hid (mx l=mx (l.drop j))∧Hid (Below w.heap.size w wr)) (fun i _=>q - (intOf i).toNat)
     case atStart=>exact ⟨0,Nat.zero_le _,rfl,rfl,Hb⟩
     case round =>
      clear Hb cx
      obtain ⟨j,hj,rfl,Hx,Hb⟩:=hrel
      by_cases hjt:j < q
      ·have hjt':(j:Int) < q:=by omega
       have hjl:j < l.length:=by rw [Hq.out]; exact hjt
       obtain ⟨b2,o2,rfl,hb2,hc2⟩:=Hrd.out.open (by rw [ints_length]; omega)
       have cy:=hc2 j _ (ints_get l j hjl)
       rw [← Hb.out.cell (p:=⟨b2,o2 + j,none⟩) hb2] at cy
       have Hdj:Hid (l.drop j=l[j] :: l.drop (j + 1)):=List.drop_eq_getElem_cons hjl
       clear hc2
       generalize l[j]=x at *
       by_cases h3:1000 < x
       ·have Hxx:Hid (mx l=4):=by show _=_; rw [Hx.out,Hdj.out,mx,if_pos (.inl h3)]
        have Hgg:Hid (mgo q ls=4):=by show _=_; rw [Hg.out,Hd.out,mgo,Hmr.out,Hxx.out]; rfl
        go_wp2
        go_ret
        exact ⟨by rw [Hvv.out,Hgg.out]; rfl,Hb.out⟩
       ·by_cases h4:x < -1000
        ·have Hxx:Hid (mx l=4):=by show _=_; rw [Hx.out,Hdj.out,mx,if_pos (.inr h4)]
         have Hgg:Hid (mgo q ls=4):=by show _=_; rw [Hg.out,Hd.out,mgo,Hmr.out,Hxx.out]; rfl
         go_wp2
         go_ret
         exact ⟨by rw [Hvv.out,Hgg.out]; rfl,Hb.out⟩
        ·have Hxx:Hid (mx l=mx (l.drop (j + 1))):=by show _=_; rw [Hx.out,Hdj.out,mx,if_neg (by omega)]
         go_wp2
         go_roundw
         case rel=>exact ⟨j + 1,by omega,by go_num,Hxx,Hb⟩
         case measure=>simp [intOf]; omega
      ·have hjt':¬ (j:Int) < q:=by omega
       have Hxx:Hid (mx l=0):=by
        show _=_
        rw [Hx.out,List.drop_of_length_le (by rw [Hq.out]; omega)]
        rfl
       have Hgg:Hid (mgo q ls=mgo q (ls.drop (k + 1))):=by show _=_; rw [Hg.out,Hd.out,mgo,Hmr.out,Hxx.out]; rfl
       go_wp2
       go_roundw
       case rel=>exact ⟨k + 1,by omega,by go_num,Hgg,Hb⟩
       case measure=>simp [intOf]; omega
    ·have Hmr:Hid (mrow n l=5):=by show _=_; unfold mrow; rw [if_neg (fun h=>hs (Hq.out.symm.trans h))]
     have Hgg:Hid (mgo n ls=5):=by show _=_; rw [Hg.out,Hd.out,mgo,Hmr.out]; rfl
     have hs':((q:Int) == n)=false:=by rw [beq_eq_false_iff_ne]; omega
     go_wp2
     go_ret
     exact ⟨by rw [Hvv.out,Hgg.out]; rfl,Hb.out⟩
   ·have hlt':¬ (k:Int) < m:=by omega
    have Hgg:Hid (mgo n ls=0):=by
     show _=_
     rw [Hg.out,List.drop_of_length_le (by rw [Hm.out]; omega)]
     rfl
    go_wp2
    go_ret
    exact ⟨by rw [Hvv.out,Hgg.out]; rfl,Hb.out⟩
 ·have Hvv:Hid (v=p):=by show _=_; rw [Hv.out,if_neg h0]
  have hp0:(p == 0)=false:=by rw [beq_eq_false_iff_ne]; exact h0
  clear Hv h0
  generalize ls.length=m at *
  go_enter Tryz.func71,Tryz.ntmps71
  go_wp2_with fail
  refine cm_ H1.out ?_
  rintro e w1 ⟨rfl,hb1⟩
  have Hb1:=hd_ hb1
  clear hb1 H1
  go_wp2
  go_ret
  exact ⟨by rw [Hvv.out]; rfl,Hb1.out⟩
def mcode1 (ps:List Int) (r:List Int):Int:=mcode ps [r]
theorem rdi_one {w:World} {g:Nat} {a1:Option Addr} {c1:Nat} {r:List Int} {t:TypeId} (h:w.heap[g]?=some (.cells #[.slice a1 r.length c1] t (0,0))) (h1:Rd w a1 (ints r)):RdI w (some ⟨g,0,none⟩) [r]:=by
 refine .inr ⟨g,0,rfl,(Array.getElem?_eq_some_iff.1 h).1,fun i hi=>?_⟩
 have e:i=0:=by simp at hi; exact hi
 subst e
 exact ⟨a1,c1,by rw [cell_of_row w g 0 _ t (0,0) h]; rfl,h1⟩
theorem monCheck_any (w:World) (a1 a2:Option Addr) (c1 c2:Nat) (ps r:List Int) (hp:Rd w a1 (ints ps)) (hi:I64s ps) (hl1:ps.length≤1000000) (hr:Rd w a2 (ints r)) (hl:r.length≤1000000) :
  Gives Tryz.prog 17 #[.slice a1 ps.length c1,.slice a2 r.length c2] w (.int .i64 (mcode1 ps r)):=by
 unfold Gives
 have Hc:Hid (∀ W g,Below w.heap.size w W→W.heap[g]?=some (.cells #[.slice a2 r.length c2] 25 (0,0))→Gives Tryz.prog 71 #[.slice a1 ps.length c1,.slice (some ⟨g,0,none⟩) 1 1] W (.int .i64 (mcode1 ps r))):=fun W g hW hg =>
  monCheckAll_any W a1 _ c1 1 ps [r] (hp.below hW nr_) hi hl1 (rdi_one hg (hr.below hW nr_)) (by simp) (by intro l hl'; simp only [List.mem_cons,List.not_mem_nil,or_false] at hl'; subst hl'; exact hl)
 clear hp hi hr
 generalize mcode1 ps r=v at *
 generalize ps.length=n at *
 generalize r.length=m at *
 have B0:=hd_ ((Below.refl w.heap.size w).alloc nr_ (.cells #[.slice a2 m c2] 25))
 go_enter Tryz.func17,Tryz.ntmps17
 go_wp2_with fail
 refine cm_ (Hc.out _ _ B0.out (Go.heap_alloc_new _ _)) ?_
 rintro e w1 ⟨rfl,hb1⟩
 have Hb1:=hd_ (B0.out.trans (hb1.mono B0.out.size))
 clear hb1 Hc
 go_wp2
 go_ret
 exact ⟨rfl,Hb1.out⟩
end Go.Proofs.YtkoicfghplmghaaGreatDoor

namespace Go.Proofs.YtkoicfghplmghaaGreatDoor
open Go.RowKit
def GivesOk (f:FuncId) (args:Array Value) (w:World) (l:List Rat):Prop :=
 Calls Tryz.prog f args w fun e w'=>∃ a c,e = .returned (.tuple #[.slice a l.length c,.int .i64 0])∧OwnQ w' w.heap.size a c l∧Below w.heap.size w w'
def GivesErr (f:FuncId) (args:Array Value) (w:World) (code:Int):Prop:=Gives Tryz.prog f args w (.tuple #[.slice none 0 0,.int .i64 code])
theorem OwnQ.lower {w:World} {B B' c:Nat} {a:Option Addr} {l:List Rat} (h:OwnQ w B a c l) (hb:B'≤B):OwnQ w B' a c l:=by
 exact ⟨h.1,h.2.imp id fun ⟨g,cap,cur,h1,h2,h3⟩=>⟨g,cap,cur,h1,Nat.le_trans hb h2,h3⟩⟩
theorem pcode_pos {ps:List Int} (h:pcode ps=0):0 < ps.length∧ps.length≤6:=by
 unfold pcode at h
 split at h
 ·cases h
 ·split at h
  ·cases h
  ·omega
def ofMix (r:List Int) (n k:Nat):List Rat:=(r.take k).map (fun x:Int=>(x:Rat)) ++ List.replicate (n - k) 0
theorem ofMix_length (r:List Int) (n k:Nat) (h:k≤n) (hr:r.length=n):(ofMix r n k).length=n:=by simp [ofMix]; omega
theorem ofMix_set (r:List Int) (n k:Nat) (h:k < n) (hr:r.length=n):(ofMix r n k).set k (r[k]'(by omega):Int)=ofMix r n (k + 1):=by
 unfold ofMix
 have hk:((r.take k).map (fun x:Int=>(x:Rat))).length=k:=by simp; omega
 rw [List.set_append_right _ _ (by omega),hk,Nat.sub_self]
 obtain ⟨m,hm⟩:∃ m,n - k=m + 1:=⟨n - k - 1,by omega⟩
 rw [hm,show n - (k + 1)=m by omega,List.replicate_succ,List.set_cons_zero,List.take_add_one,List.getElem?_eq_getElem (by omega),List.map_append,List.append_assoc]
 rfl
theorem mcode1_zero {ps r:List Int} (h:mcode1 ps r=0):pcode ps=0∧r.length=ps.length:=by
 unfold mcode1 mcode at h
 split at h
 ·rename_i h0
  refine ⟨h0,?_⟩
  unfold mgo at h
  split at h
  ·rename_i h1
   unfold mrow at h1
   split at h1
   ·assumption
   ·cases h1
  ·rename_i h1; exact absurd h h1
 ·rename_i h0; exact absurd h h0
theorem of_ok (w:World) (a0 a1:Option Addr) (c0 c1:Nat) (ps r:List Int) (hp:Rd w a0 (ints ps)) (hi:I64s ps) (hr:Rd w a1 (ints r)) (hri:I64s r) (hc:mcode1 ps r=0) (L:Laid w) :
  GivesOk 104 #[.slice a0 ps.length c0,.slice a1 r.length c1] w (r.map fun x:Int=>(x:Rat)):=by
 obtain ⟨hc0,hlr⟩:=mcode1_zero hc
 have hpos:=pcode_pos hc0
 have H1:=hd_ (monCheck_any w a0 a1 c0 c1 ps r hp hi (by omega) hr (by omega))
 rw [hc] at H1
 have H2:Hid (∀ W,Below w.heap.size w W→GivesQ 111 #[.int .i64 ps.length] W (List.replicate ps.length 0)):=fun W hW=>zero_any W ps.length (by omega) (L.below hW)
 have H3:Hid (∀ W (z:Int),Below w.heap.size w W→z∈r→Gives Tryz.prog 79 #[.int .i64 z] W (fr (z:Rat))):=fun W z hW hz=>numberR W z (hri z hz).1 (hri z hz).2 (L.below hW)
 unfold GivesOk
 unfold GivesQ at H2
 unfold fr fv at H3
 simp only [List.length_replicate] at H2
 rw [List.length_map]
 have Hr:=hd_ hr
 have Hlr:=hd_ hlr
 clear hp hi hc L hr hri hc0
 rw [hlr] at H1 ⊢
 clear hlr
 generalize hn:ps.length=n at *
 clear hn
 go_enter Tryz.func104,Tryz.ntmps104
 go_wp2_with fail
 refine cm_ H1.out ?_
 rintro e w1 ⟨rfl,hb1⟩
 have Hb1:=hd_ hb1
 clear hb1 H1
 go_wp2_with fail
 refine cm_ (H2.out _ Hb1.out) ?_
 rintro e w2 ⟨a,c,rfl,ho,hb2⟩
 have Hb2:=hd_ (Hb1.out.trans (hb2.mono Hb1.out.size))
 have Ho:=hd_ (OwnQ.lower ho Hb1.out.size)
 clear hb2 ho H2 Hb1
 go_wp2_with fail
 go_loopw [21] (fun i wr=>∃ k:Nat,k≤n∧i = .int .i64 k∧Hid (OwnQ wr w.heap.size a c (ofMix r n k))∧Hid (Below w.heap.size w wr)) (fun i _=>n - (intOf i).toNat)
 case atStart =>
  refine ⟨0,Nat.zero_le _,rfl,?_,Hb2⟩
  show OwnQ ..
  rw [show ofMix r n 0=List.replicate n 0 by simp [ofMix]]
  exact Ho.out
 case round =>
  clear Ho Hb2
  obtain ⟨k,hk,rfl,Ho,Hb⟩:=hrel
  by_cases hlt:k < n
  ·have hlt':(k:Int) < n:=by omega
   have hkr:k < r.length:=by rw [Hlr.out]; exact hlt
   obtain ⟨b2,o2,rfl,hb2,hc2⟩:=Hr.out.open (by rw [ints_length]; omega)
   have cy:=hc2 k _ (ints_get r k hkr)
   rw [← Hb.out.cell (p:=⟨b2,o2 + k,none⟩) hb2] at cy
   have Hset:=hd_ (ofMix_set r n k hlt Hlr.out)
   have Hln:=hd_ (ofMix_length r n k hk Hlr.out)
   have hmem:r[k]∈r:=List.getElem_mem hkr
   have H3k:=hd_ (fun W hW=>H3.out W r[k] hW hmem)
   clear hc2 hmem
   generalize r[k]=x at *
   go_wp2_with fail
   refine cm_ (H3k.out _ Hb.out) ?_
   rintro e w3 ⟨rfl,hb3⟩
   have Hb3:=hd_ (Hb.out.trans (hb3.mono Hb.out.size))
   have Ho3:=hd_ (Ho.out.below hb3 nr_)
   clear hb3 Hb Ho H3k cy
   obtain ⟨g,rfl,hB,hg,hcap,hcells,hfr⟩:=Ho3.out.open (by rw [Hln.out]; omega)
   obtain ⟨x0,x1⟩:=hcells k (by rw [Hln.out]; exact hlt)
   have f0:=hfr (k * 2)
   have f1:=hfr (k * 2 + 1)
   clear hcells hfr hcap
   go_wp2
   go_roundw
   case rel =>
    refine ⟨k + 1,by omega,by go_num,?_,?_⟩
    ·have:=Ho3.out.store k (by rw [Hln.out]; exact hlt) (x:Rat)
     rw [Hset.out] at this
     exact this
    ·exact (Hb3.out.setCell (p:=⟨g,k * 2,none⟩) hB _).setCell (p:=⟨g,k * 2 + 1,none⟩) hB _
   case measure=>simp [intOf]; omega
  ·have hlt':¬ (k:Int) < n:=by omega
   have hkn:k=n:=by omega
   subst hkn
   have Hfull:Hid (ofMix r k k=r.map fun x:Int=>(x:Rat)):=by
    show _=_
    unfold ofMix
    rw [Nat.sub_self,List.replicate_zero,List.append_nil,List.take_of_length_le (by rw [Hlr.out]; exact Nat.le_refl _)]
   go_wp2
   go_ret2
   refine ⟨a,c,rfl,?_,Hb.out⟩
   rw [← Hfull.out]
   exact Ho.out
end Go.Proofs.YtkoicfghplmghaaGreatDoor

namespace Go.Proofs.YtkoicfghplmghaaGreatDoor
open Go.RowKit
theorem tooLongR (w:World) (a:Rat):Gives Tryz.prog 181 #[fr a] w (.bool (!decide (shortQ a))):=by
 unfold Gives
 have Hs:Hid (∀ W,Gives Tryz.prog 162 #[fr a] W (.bool (decide (shortQ a)))):=fun W=>shortR W a
 unfold fr fv at Hs ⊢
 have B1:=hd_ ((Below.refl w.heap.size w).alloc nr_ (.cells #[.string (itx a.num),.string (dec a.den)] 58))
 generalize decide (shortQ a)=z at *
 go_enter Tryz.func181,Tryz.ntmps181
 go_wp2_with fail
 refine cm_ (Hs.out _) ?_
 rintro e w1 ⟨rfl,hb⟩
 have B2:=hd_ (B1.out.trans (hb.mono B1.out.size))
 clear hb
 go_wp2_with fail
 go_ret
 exact ⟨rfl,B2.out⟩
def shortAll (l:List Rat):Bool:=l.all fun q=>decide (shortQ q)
theorem index_long (w:World) (a:Option Addr) (c:Nat) (l:List Rat) (hr:Rd w a (cellsQ l)) (hl:l.length≤1000) :
  Calls Tryz.prog 217 #[.slice a l.length c,.func (.func 181) #[] #[]] w fun e w'=>∃ i:Int,e = .returned (.int .i64 i) ∧ -1≤i∧decide (0≤i) = !shortAll l∧Below w.heap.size w w':=by
 have Hr:=hd_ hr
 clear hr
 have Hall:Hid (∀ k,k≤l.length→(∀ j (h:j < l.length),j < k→decide (shortQ l[j])=true)→k=l.length→shortAll l=true):=fun k hk h hkl=>by
  unfold shortAll
  rw [List.all_eq_true]
  intro q hq
  obtain ⟨j,hj,rfl⟩:=List.mem_iff_getElem.1 hq
  exact h j hj (by omega)
 have Hone:Hid (∀ k (h:k < l.length),decide (shortQ l[k])=false→shortAll l=false):=fun k h hf=>by
  unfold shortAll
  rw [List.all_eq_false]
  exact ⟨l[k],List.getElem_mem h,by rw [hf]; decide⟩
 obtain ⟨m,hm⟩:∃ m,l.length=m:=⟨_,rfl⟩
 rw [hm] at hl ⊢
 have Hm:=hd_ hm
 clear hm
 generalize shortAll l=z at *
 go_enter Tryz.func217,Tryz.ntmps217
 go_wp2_with fail
 go_loopw [8] (fun i wr=>∃ k:Nat,k≤m∧i = .int .i64 k∧Hid (∀ j (h:j < l.length),j < k→decide (shortQ l[j])=true)∧Hid (Below w.heap.size w wr)) (fun i _=>m - (intOf i).toNat)
 case atStart=>exact ⟨0,Nat.zero_le _,rfl,fun j _ hj=>absurd hj (Nat.not_lt_zero _),Below.refl _ _⟩
 case round =>
  obtain ⟨k,hk,rfl,Hp,B⟩:=hrel
  by_cases hlt:k < m
  ·have hlt':(k:Int) < m:=by omega
   have hkb:k < l.length:=by rw [Hm.out]; exact hlt
   obtain ⟨b,off,rfl,hb,hcells⟩:=Hr.out.open (by rw [cellsQ_length,Hm.out]; omega)
   obtain ⟨x0,x1⟩:=cellsS_rd hcells k (by rw [List.length_map]; exact hkb)
   rw [← B.out.cell (p:=⟨b,off + k * 2,none⟩) hb,qs_getD _ k hkb] at x0
   rw [← B.out.cell (p:=⟨b,off + k * 2 + 1,none⟩) hb,qs_getD _ k hkb] at x1
   have Hc:Hid (Gives Tryz.prog 181 #[fr l[k]] wr (.bool (!decide (shortQ l[k])))):=tooLongR wr _
   unfold fr fv at Hc
   simp only [qs] at x0 x1
   clear hcells
   by_cases hs:decide (shortQ l[k])=true
   ·have Hp':Hid (∀ j (h:j < l.length),j < k + 1→decide (shortQ l[j])=true):=fun j h hj=>by
     rcases Nat.lt_or_ge j k with hh | hh
     ·exact Hp.out j h hh
     ·have e:j=k:=by omega
      subst e
      exact hs
    rw [hs] at Hc
    clear hs Hp
    generalize l[k]=x at *
    go_wp2_with fail
    refine cm_ Hc.out ?_
    rintro e w1 ⟨rfl,hb1⟩
    have B1:=hd_ (B.out.trans (hb1.mono B.out.size))
    clear hb1 Hc B x0 x1
    go_wp2_with fail
    go_roundw
    case rel=>exact ⟨k + 1,by omega,by go_num,Hp',B1⟩
    case measure=>simp [intOf]; omega
   ·have hs':decide (shortQ l[k])=false:=by simpa using hs
    have Hz:=hd_ (Hone.out k hkb hs')
    rw [hs'] at Hc
    clear hs hs' Hp
    generalize l[k]=x at *
    go_wp2_with fail
    refine cm_ Hc.out ?_
    rintro e w1 ⟨rfl,hb1⟩
    have B1:=hd_ (B.out.trans (hb1.mono B.out.size))
    clear hb1 Hc B x0 x1
    go_wp2_with fail
    go_ret
    exact ⟨k,rfl,by omega,by rw [Hz.out]; exact decide_eq_true (by omega),B1.out⟩
  ·have hlt':¬ (k:Int) < m:=by omega
   have Hz:=hd_ (Hall.out k (by rw [Hm.out]; exact hk) Hp.out (by rw [Hm.out]; omega))
   clear Hp
   go_wp2_with fail
   go_ret
   exact ⟨-1,rfl,by decide,by rw [Hz.out]; rfl,B.out⟩
theorem contains_long (w:World) (a:Option Addr) (c:Nat) (l:List Rat) (hr:Rd w a (cellsQ l)) (hl:l.length≤1000) :
  Gives Tryz.prog 180 #[.slice a l.length c,.func (.func 181) #[] #[]] w (.bool (!shortAll l)):=by
 unfold Gives
 have Hi:=hd_ (index_long w a c l hr hl)
 clear hr hl
 generalize shortAll l=z at *
 go_enter Tryz.func180,Tryz.ntmps180
 go_wp2_with fail
 refine cm_ Hi.out ?_
 rintro e w1 ⟨i,rfl,hi1,hi2,hb⟩
 have B:=hd_ hb
 have Hz:=hd_ hi2
 clear hb Hi hi2
 go_wp2_with fail
 go_ret
 exact ⟨by rw [← Hz.out]; rfl,B.out⟩
theorem result_fine (w:World) (a:Option Addr) (c:Nat) (l:List Rat) (hr:Rd w a (cellsQ l)) (hl:l.length≤1000) (hs:shortAll l=true) :
  Gives Tryz.prog 143 #[.slice a l.length c] w (.tuple #[.slice a l.length c,.int .i64 0]):=by
 unfold Gives
 have Hi:=hd_ (contains_long w a c l hr hl)
 rw [hs] at Hi
 clear hr hl hs
 go_enter Tryz.func143,Tryz.ntmps143
 go_wp2_with fail
 refine cm_ Hi.out ?_
 rintro e w1 ⟨rfl,hb⟩
 have B:=hd_ hb
 clear hb Hi
 go_wp2_with fail
 go_ret2
 exact ⟨rfl,B.out⟩
theorem result_long (w:World) (a:Option Addr) (c:Nat) (l:List Rat) (hr:Rd w a (cellsQ l)) (hl:l.length≤1000) (hs:shortAll l=false) :
  GivesErr 143 #[.slice a l.length c] w 4:=by
 unfold GivesErr Gives
 have Hi:=hd_ (contains_long w a c l hr hl)
 rw [hs] at Hi
 clear hr hl hs
 go_enter Tryz.func143,Tryz.ntmps143
 go_wp2_with fail
 refine cm_ Hi.out ?_
 rintro e w1 ⟨rfl,hb⟩
 have B:=hd_ hb
 clear hb Hi
 go_wp2_with fail
 go_ret2
 exact ⟨rfl,B.out⟩
open Classical in
noncomputable def wrongB (x:ByteArray×ByteArray):Bool := !decide (IsQ x.1 x.2)
open Classical in
noncomputable def rightAll (l:List (ByteArray×ByteArray)):Bool:=l.all fun x=>decide (IsQ x.1 x.2)
open Classical in
theorem wrongR (w:World) (s t:ByteArray) (hs:s.size≤10000000) (ht:t.size≤10000000) (L:Laid w):Gives Tryz.prog 141 #[.agg #[.string s,.string t]] w (.bool (wrongB (s,t))):=by
 have Hs:Hid (∃ z:Int,∀ W,Below w.heap.size w W→Gives Tryz.prog 142 #[.agg #[.string s,.string t]] W (.int .i64 z))∧True:=by
  refine ⟨?_,trivial⟩
  by_cases h:IsQ s t
  ·obtain ⟨q,rfl,rfl,hq⟩:=h
   exact ⟨0,fun W hW=>checkR W q hq (L.below hW)⟩
  ·exact ⟨2,fun W hW=>checkS_no W s t hs ht h (L.below hW)⟩
 have Hz:∃ z:Int,(z == 0) = !(wrongB (s,t))∧∀ W,Below w.heap.size w W→Gives Tryz.prog 142 #[.agg #[.string s,.string t]] W (.int .i64 z):=by
  by_cases h:IsQ s t
  ·refine ⟨0,by unfold wrongB; rw [decide_eq_true h]; rfl,?_⟩
   obtain ⟨q,rfl,rfl,hq⟩:=h
   exact fun W hW=>checkR W q hq (L.below hW)
  ·exact ⟨2,by unfold wrongB; rw [decide_eq_false h]; rfl,fun W hW=>checkS_no W s t hs ht h (L.below hW)⟩
 obtain ⟨z,hz,hc⟩:=Hz
 have Hc:=hd_ hc
 clear Hs hc hs ht L
 unfold Gives
 generalize wrongB (s,t)=b at *
 have B1:=hd_ ((Below.refl w.heap.size w).alloc nr_ (.cells #[.string s,.string t] 58))
 go_enter Tryz.func141,Tryz.ntmps141
 go_wp2_with fail
 refine cm_ (Hc.out _ B1.out) ?_
 rintro e w1 ⟨rfl,hb⟩
 have B2:=hd_ (B1.out.trans (hb.mono B1.out.size))
 have Hz:=hd_ hz
 clear hb hz
 go_wp2_with fail
 go_ret
 refine ⟨?_,B2.out⟩
 have:=Hz.out
 cases b
 ·have h1:(z == 0)=true:=this
  have h2:z=0:=by simpa using h1
  subst h2; rfl
 ·have h1:(z == 0)=false:=this
  have h2:z≠0:=by simpa using h1
  show Ending.returned (Value.bool _)=_
  first | rfl | (simp [h2])
end Go.Proofs.YtkoicfghplmghaaGreatDoor

namespace Go.Proofs.YtkoicfghplmghaaGreatDoor
open Go.RowKit
theorem index_wrong (w:World) (a:Option Addr) (c:Nat) (l:Pairs) (hr:Rd w a (cellsS l)) (hl:l.length≤1000) (hs:Ssz l) (L:Laid w) :
  Calls Tryz.prog 178 #[.slice a l.length c,.func (.func 141) #[] #[]] w fun e w'=>∃ i:Int,e = .returned (.int .i64 i) ∧ -1≤i∧decide (0≤i) = !rightAll l∧Below w.heap.size w w':=by
 have Hr:=hd_ hr
 have Hs:=hd_ hs
 have HL:=hd_ L
 clear hr hs L
 have Hall:Hid (∀ k,k≤l.length→(∀ j (h:j < l.length),j < k→wrongB l[j]=false)→k=l.length→rightAll l=true):=fun k hk h hkl=>by
  unfold rightAll
  rw [List.all_eq_true]
  intro q hq
  obtain ⟨j,hj,rfl⟩:=List.mem_iff_getElem.1 hq
  have:=h j hj (by omega)
  unfold wrongB at this
  simpa using this
 have Hone:Hid (∀ k (h:k < l.length),wrongB l[k]=true→rightAll l=false):=fun k h hf=>by
  unfold rightAll
  rw [List.all_eq_false]
  unfold wrongB at hf
  exact ⟨l[k],List.getElem_mem h,by simpa using hf⟩
 obtain ⟨m,hm⟩:∃ m,l.length=m:=⟨_,rfl⟩
 rw [hm] at hl ⊢
 have Hm:=hd_ hm
 clear hm
 generalize rightAll l=z at *
 go_enter Tryz.func178,Tryz.ntmps178
 go_wp2_with fail
 go_loopw [8] (fun i wr=>∃ k:Nat,k≤m∧i = .int .i64 k∧Hid (∀ j (h:j < l.length),j < k→wrongB l[j]=false)∧Hid (Below w.heap.size w wr)) (fun i _=>m - (intOf i).toNat)
 case atStart=>exact ⟨0,Nat.zero_le _,rfl,fun j _ hj=>absurd hj (Nat.not_lt_zero _),Below.refl _ _⟩
 case round =>
  obtain ⟨k,hk,rfl,Hp,B⟩:=hrel
  by_cases hlt:k < m
  ·have hlt':(k:Int) < m:=by omega
   have hkb:k < l.length:=by rw [Hm.out]; exact hlt
   obtain ⟨b,off,rfl,hb,hcells⟩:=Hr.out.open (by rw [cellsS_length,Hm.out]; omega)
   obtain ⟨x0,x1⟩:=cellsS_rd hcells k hkb
   rw [← B.out.cell (p:=⟨b,off + k * 2,none⟩) hb,show l.getD k default=l[k] by rw [List.getD_eq_getElem?_getD,List.getElem?_eq_getElem hkb]; rfl] at x0
   rw [← B.out.cell (p:=⟨b,off + k * 2 + 1,none⟩) hb,show l.getD k default=l[k] by rw [List.getD_eq_getElem?_getD,List.getElem?_eq_getElem hkb]; rfl] at x1
   have hsz:=Hs.out _ (List.getElem_mem hkb)
   have Hc:Hid (Gives Tryz.prog 141 #[.agg #[.string l[k].1,.string l[k].2]] wr (.bool (wrongB l[k]))):=wrongR wr _ _ (by omega) (by omega) (HL.out.below B.out)
   clear hcells hsz
   by_cases hs:wrongB l[k]=false
   ·have Hp':Hid (∀ j (h:j < l.length),j < k + 1→wrongB l[j]=false):=fun j h hj=>by
     rcases Nat.lt_or_ge j k with hh | hh
     ·exact Hp.out j h hh
     ·have e:j=k:=by omega
      subst e
      exact hs
    rw [hs] at Hc
    clear hs Hp
    generalize l[k]=x at *
    go_wp2_with fail
    refine cm_ Hc.out ?_
    rintro e w1 ⟨rfl,hb1⟩
    have B1:=hd_ (B.out.trans (hb1.mono B.out.size))
    clear hb1 Hc B x0 x1
    go_wp2_with fail
    go_roundw
    case rel=>exact ⟨k + 1,by omega,by go_num,Hp',B1⟩
    case measure=>simp [intOf]; omega
   ·have hs':wrongB l[k]=true:=by simpa using hs
    have Hz:=hd_ (Hone.out k hkb hs')
    rw [hs'] at Hc
    clear hs hs' Hp
    generalize l[k]=x at *
    go_wp2_with fail
    refine cm_ Hc.out ?_
    rintro e w1 ⟨rfl,hb1⟩
    have B1:=hd_ (B.out.trans (hb1.mono B.out.size))
    clear hb1 Hc B x0 x1
    go_wp2_with fail
    go_ret
    exact ⟨k,rfl,by omega,by rw [Hz.out]; exact decide_eq_true (by omega),B1.out⟩
  ·have hlt':¬ (k:Int) < m:=by omega
   have Hz:=hd_ (Hall.out k (by rw [Hm.out]; exact hk) Hp.out (by rw [Hm.out]; omega))
   clear Hp
   go_wp2_with fail
   go_ret
   exact ⟨-1,rfl,by decide,by rw [Hz.out]; rfl,B.out⟩
theorem contains_wrong (w:World) (a:Option Addr) (c:Nat) (l:Pairs) (hr:Rd w a (cellsS l)) (hl:l.length≤1000) (hs:Ssz l) (L:Laid w) :
  Gives Tryz.prog 140 #[.slice a l.length c,.func (.func 141) #[] #[]] w (.bool (!rightAll l)):=by
 unfold Gives
 have Hi:=hd_ (index_wrong w a c l hr hl hs L)
 clear hr hl hs L
 generalize rightAll l=z at *
 go_enter Tryz.func140,Tryz.ntmps140
 go_wp2_with fail
 refine cm_ Hi.out ?_
 rintro e w1 ⟨i,rfl,hi1,hi2,hb⟩
 have B:=hd_ hb
 have Hz:=hd_ hi2
 clear hb Hi hi2
 go_wp2_with fail
 go_ret
 exact ⟨by rw [← Hz.out]; rfl,B.out⟩
theorem lgo_ok (n:Nat):∀ ls:List (List Rat),(∀ l∈ls,l.length=n∧∀ q∈l,Sm 30 q)→lgo n (ls.map (List.map qs))=0
 | [],_=>rfl
 | l :: ls,h=>by
  have h1:=h l List.mem_cons_self
  rw [List.map_cons,lgo,if_pos (scode_ok h1.2 h1.1)]
  exact lgo_ok n ls fun m hm=>h m (List.mem_cons_of_mem _ hm)
theorem lcode_ok {ps:List Int} (hp:pcode ps=0) {ls:List (List Rat)} (h:∀ l∈ls,l.length=ps.length∧∀ q∈l,Sm 30 q):lcode ps (ls.map (List.map qs))=0:=by
 unfold lcode
 rw [if_pos hp]
 exact lgo_ok _ ls h
open Classical in
theorem rightAll_qs (l:List Rat) (h:∀ q∈l,Sm 400 q):rightAll (l.map qs)=true:=by
 unfold rightAll
 rw [List.all_eq_true]
 intro x hx
 obtain ⟨q,hq,rfl⟩:=List.mem_map.1 hx
 exact decide_eq_true ⟨q,rfl,rfl,h q hq⟩
def GivesSum (f:FuncId) (args:Array Value) (w:World) (l:List Rat):Prop:=if shortAll l=true then
  Calls Tryz.prog f args w fun e w'=>∃ a c,e = .returned (.tuple #[.slice a l.length c,.int .i64 0])∧Rd w' a (cellsQ l)∧Below w.heap.size w w'
 else GivesErr f args w 4
theorem combine_fine (w:World) (a0 a1 a2:Option Addr) (c0 c1 c2:Nat) (ps:List Int) (ls:List (List Rat)) (fs:List Rat) (rp:Rd w a0 (ints ps)) (hi:I64s ps) (hp:pcode ps=0) (rl:RdL w a1 (ls.map (List.map qs))) (hl:ls.length≤100)
  (h:∀ l∈ls,l.length=ps.length∧∀ q∈l,Sm 30 q) (rf:Rd w a2 (cellsQ fs)) (hf:fs.length=ls.length) (hfs:∀ q∈fs,Sm 400 q) (L:Laid w) :
  GivesSum 86 #[.slice a0 ps.length c0,.slice a1 ls.length c1,.slice a2 fs.length c2] w (sumQ ps.length ls fs):=by
 have hn:=pcode_pos hp
 have H1:=hd_ (checkAll_any w a0 a1 c0 c1 ps (ls.map (List.map qs)) rp hi (by omega) rl (by rw [List.length_map]; omega) (by
  intro l hl'
  obtain ⟨m,hm,rfl⟩:=List.mem_map.1 hl'
  exact ⟨by rw [List.length_map,(h m hm).1]; omega,ssz_ok (h m hm).2⟩) L)
 rw [lcode_ok hp h,List.length_map] at H1
 have H2:Hid (∀ W,Below w.heap.size w W→Gives Tryz.prog 140 #[.slice a2 fs.length c2,.func (.func 141) #[] #[]] W (.bool false)):=fun W hW=>by
  have:=contains_wrong W a2 c2 (fs.map qs) (rf.below hW nr_) (by rw [List.length_map]; omega) (fun x hx=>by
   obtain ⟨q,hq,rfl⟩:=List.mem_map.1 hx
   have h1:=itx_size q.num 400 (by decide) (hfs q hq).1
   have h2:=(size_lt q.den 400 (by decide)).2 (hfs q hq).2
   exact ⟨by show (itx q.num).size≤_; omega,by show (dec q.den).size≤_; omega⟩) (L.below hW)
  rw [rightAll_qs fs hfs,List.length_map] at this
  exact this
 have H3:Hid (∀ W,Below w.heap.size w W→GivesQ 78 #[.int .i64 ps.length,.slice a1 ls.length c1,.slice a2 fs.length c2] W (sumQ ps.length ls fs)):=fun W hW =>
  sum_any W a1 a2 c1 c2 ps.length ls fs 30 400 (rl.below hW nr_) (rf.below hW nr_) (fun l hl'=>(h l hl').1) hf (fun l hl'=>(h l hl').2) hfs (by omega) (by omega) (by
   have:(ls.length + 1) * (30 + 400 + 1)≤101 * (30 + 400 + 1):=Nat.mul_le_mul_right _ (by omega)
   omega) (L.below hW)
 have hsl:=sumQ_length ps.length ls fs (fun l hl'=>(h l hl').1) hf
 have H4:Hid (∀ W a c,Rd W a (cellsQ (sumQ ps.length ls fs))→shortAll (sumQ ps.length ls fs)=true→Gives Tryz.prog 143 #[.slice a (sumQ ps.length ls fs).length c] W (.tuple #[.slice a (sumQ ps.length ls fs).length c,.int .i64 0])):=fun W a c hr hs=>result_fine W a c _ hr (by omega) hs
 have H5:Hid (∀ W a c,Rd W a (cellsQ (sumQ ps.length ls fs))→shortAll (sumQ ps.length ls fs)=false→Gives Tryz.prog 143 #[.slice a (sumQ ps.length ls fs).length c] W (.tuple #[.slice none 0 0,.int .i64 4])):=fun W a c hr hs=>result_long W a c _ hr (by omega) hs
 unfold GivesQ at H3
 clear rp hi hp rl hl h rf hfs L hn hsl
 rw [hf] at *
 generalize sumQ ps.length ls fs=S at *
 generalize ps.length=n at *
 generalize ls.length=k at *
 unfold GivesSum GivesErr Gives
 by_cases hs:shortAll S=true
 ·rw [if_pos hs]
  have Hs:=hd_ hs
  clear H5 hs
  go_enter Tryz.func86,Tryz.ntmps86
  go_wp2_with fail
  refine cm_ H1.out ?_
  rintro e w1 ⟨rfl,hb1⟩
  have Hb1:=hd_ hb1
  clear hb1 H1
  go_wp2_with fail
  refine cm_ (H2.out _ Hb1.out) ?_
  rintro e w2 ⟨rfl,hb2⟩
  have Hb2:=hd_ (Hb1.out.trans (hb2.mono Hb1.out.size))
  clear hb2 H2 Hb1
  go_wp2_with fail
  refine cm_ (H3.out _ Hb2.out) ?_
  rintro e w3 ⟨a,c,rfl,ho,hb3⟩
  have Hb3:=hd_ (Hb2.out.trans (hb3.mono Hb2.out.size))
  have Hr:=hd_ ho.rd
  clear hb3 H3 Hb2 ho
  go_wp2_with fail
  refine cm_ (H4.out _ _ _ Hr.out Hs.out) ?_
  rintro e w4 ⟨rfl,hb4⟩
  have Hb4:=hd_ (Hb3.out.trans (hb4.mono Hb3.out.size))
  have Hr4:=hd_ (Hr.out.below hb4 nr_)
  clear hb4 H4 Hb3 Hr
  go_wp2_with fail
  go_ret2
  exact ⟨a,c,rfl,Hr4.out,Hb4.out⟩
 ·rw [if_neg hs]
  have Hs:Hid (shortAll S=false):=by show _=_; simpa using hs
  clear H4 hs
  go_enter Tryz.func86,Tryz.ntmps86
  go_wp2_with fail
  refine cm_ H1.out ?_
  rintro e w1 ⟨rfl,hb1⟩
  have Hb1:=hd_ hb1
  clear hb1 H1
  go_wp2_with fail
  refine cm_ (H2.out _ Hb1.out) ?_
  rintro e w2 ⟨rfl,hb2⟩
  have Hb2:=hd_ (Hb1.out.trans (hb2.mono Hb1.out.size))
  clear hb2 H2 Hb1
  go_wp2_with fail
  refine cm_ (H3.out _ Hb2.out) ?_
  rintro e w3 ⟨a,c,rfl,ho,hb3⟩
  have Hb3:=hd_ (Hb2.out.trans (hb3.mono Hb2.out.size))
  have Hr:=hd_ ho.rd
  clear hb3 H3 Hb2 ho
  go_wp2_with fail
  refine cm_ (H5.out _ _ _ Hr.out Hs.out) ?_
  rintro e w4 ⟨rfl,hb4⟩
  have Hb4:=hd_ (Hb3.out.trans (hb4.mono Hb3.out.size))
  clear hb4 H5 Hb3 Hr
  go_wp2_with fail
  go_ret2
  exact ⟨rfl,Hb4.out⟩
end Go.Proofs.YtkoicfghplmghaaGreatDoor

namespace Go.Proofs.YtkoicfghplmghaaGreatDoor
open Go.RowKit
end Go.Proofs.YtkoicfghplmghaaGreatDoor

namespace Go.Proofs.YtkoicfghplmghaaGreatDoor
open Go.RowKit
theorem ownS_own {w:World} {B c:Nat} {a:Option Addr} {l:List Rat} (h:OwnQ w B a c l):w.ownsRow B 58 2 (.slice a l.length c) l.length (cellsQ l):=by
 have:w.ownsRow B 58 2 (.slice a (l.map qs).length c) (l.map qs).length (cellsS (l.map qs)):=h
 rw [List.length_map] at this
 exact this
theorem own_ownQ {w:World} {B c:Nat} {a:Option Addr} {l:List Rat} (h:w.ownsRow B 58 2 (.slice a l.length c) l.length (cellsQ l)):OwnQ w B a c l:=by
 show w.ownsRow B 58 2 (.slice a (l.map qs).length c) (l.map qs).length (cellsS (l.map qs))
 rw [List.length_map]
 exact h
end Go.Proofs.YtkoicfghplmghaaGreatDoor

namespace Go.Proofs.YtkoicfghplmghaaGreatDoor
open Go.RowKit
end Go.Proofs.YtkoicfghplmghaaGreatDoor

namespace Go.Proofs.YtkoicfghplmghaaGreatDoor
open Go.RowKit
end Go.Proofs.YtkoicfghplmghaaGreatDoor

namespace Go.Proofs.YtkoicfghplmghaaGreatDoor
open Go.RowKit Go.Proofs.YtkoicfghplmghaaGreatDoor.RY
def combineQ (la lb:List Rat) (k m:Rat):List Rat:=List.zipWith (fun x y=>x * k + y * m) la lb
theorem combineQ_length (la lb:List Rat) (k m:Rat) (h:la.length=lb.length):(combineQ la lb k m).length=la.length:=by simp [combineQ,h]
end Go.Proofs.YtkoicfghplmghaaGreatDoor

namespace Go.Proofs.YtkoicfghplmghaaGreatDoor
open Go.RowKit
def smallP:List Int:=[2,3,5,7,11,13]
theorem lg_lgN {p n L:Nat} (hp:p∈oddP) (hn:n≤1056) (h:LN.lg p p.log2 n 1120=some L):lgN p n=L:=by
 rw [lg_digs] at h
 obtain ⟨s,hs,e⟩:=Option.map_eq_some_iff.1 h
 rw [← digs_lgN hp hn (by decide) hs,e]
theorem lg_cert:([3,5,7,11,13]:List Nat).map (fun p=>LN.lg p p.log2 1024 1120)=LN.certL.tail.map fun x=>some x.toNat:=by decide +kernel
theorem certL_head:LN.certL.head?=some (2 ^ 1024):=by decide +kernel
theorem certL_pos:∀ x∈LN.certL,(0:Int)≤x:=by decide +kernel
theorem lf_two (n:Nat):((lf n 2:Nat):Int)=2 ^ n:=by
 show ((lgN 2 n:Nat):Int)=_
 rw [lgN_two,Int.natCast_pow]; rfl
theorem mul_pow_le {a k m:Nat} (ha:a≤100) (h:7 + k≤m):a * 2 ^ k≤2 ^ m:=by
 have:a * 2 ^ k≤2 ^ 7 * 2 ^ k:=Nat.mul_le_mul_right _ (by omega)
 rw [← Nat.pow_add] at this
 exact Nat.le_trans this (Nat.pow_le_pow_right (by decide) h)
theorem certL_eq:smallP.map (fun p=>((lf 1024 p:Nat):Int))=LN.certL:=by
 have h:=lg_cert
 have h0:=certL_head
 have hp:=certL_pos
 obtain ⟨c0,c1,c2,c3,c4,c5,e⟩:∃ c0 c1 c2 c3 c4 c5,LN.certL=[c0,c1,c2,c3,c4,c5]:=⟨_,_,_,_,_,_,rfl⟩
 rw [e] at h h0 hp ⊢
 have key:∀ (p:Nat) (c:Int),p∈oddP→0≤c→LN.lg p p.log2 1024 1120=some c.toNat→((lf 1024 (p:Int):Nat):Int)=c:=fun p c hp h0 h=>by
  have:=lg_lgN hp (by decide) h
  show ((lgN p 1024:Nat):Int)=c
  rw [this]; omega
 simp only [List.map_cons,List.map_nil,List.tail_cons,List.cons.injEq,and_true] at h
 obtain ⟨h1,h2,h3,h4,h5⟩:=h
 simp only [List.head?_cons,Option.some.injEq] at h0
 have p1:=hp c1 (by simp)
 have p2:=hp c2 (by simp)
 have p3:=hp c3 (by simp)
 have p4:=hp c4 (by simp)
 have p5:=hp c5 (by simp)
 have k1:=key 3 c1 (by decide) p1 h1
 have k2:=key 5 c2 (by decide) p2 h2
 have k3:=key 7 c3 (by decide) p3 h3
 have k4:=key 11 c4 (by decide) p4 h4
 have k5:=key 13 c5 (by decide) p5 h5
 have k0:((lf 1024 2:Nat):Int)=c0:=by
  rw [h0]
  exact lf_two 1024
 show [((lf 1024 2:Nat):Int),((lf 1024 3:Nat):Int),((lf 1024 5:Nat):Int),((lf 1024 7:Nat):Int),((lf 1024 11:Nat):Int),((lf 1024 13:Nat):Int)]=_
 rw [k0]
 rw [show ((lf 1024 3:Nat):Int)=c1 from k1,show ((lf 1024 5:Nat):Int)=c2 from k2,show ((lf 1024 7:Nat):Int)=c3 from k3,show ((lf 1024 11:Nat):Int)=c4 from k4,show ((lf 1024 13:Nat):Int)=c5 from k5]
def Kb:Nat:=2 ^ 100
theorem dec_of_cert {tl:List (Int×Int)} (h1:∀ x∈tl,x.1∈smallP) (h0:∀ x∈tl,x.2≠0) (hd:(tl.map Prod.fst).Nodup) (hk:∀ x∈tl,x.2.natAbs≤Kb) (hl:tl.length≤100) (hne:tl≠[]):Dec tl:=by
 have hc:=LN.cert_ok
 rw [← certL_eq] at hc
 have hS:=@mul_pow_le tl.length 100 503 hl (by decide)
 have:=LN.ends_decide hc (by decide) tl hS hne (fun x hx=>⟨h1 x hx,h0 x hx,hk x hx⟩) hd
 unfold Dec
 rw [LN.eLo_eq,LN.eHi_eq]
 omega
def allP:List Int:=[2,3,5,7,11,13,17,19,23,29,31,37,41,43,47,53,59,61,67,71,73,79,83,89,97]
structure Good (ps:List Int) (l:List Rat):Prop where
 pr:∀ p∈ps,p∈allP
 nd:ps.Nodup
 kb:∀ x∈tlQ ps l,x.2.natAbs≤Kb
 dc:ps.length≤100→tlQ ps l≠[]→Dec (tlQ ps l)
theorem tlist_fst (D:Nat):∀ (ps:List Int) (l:List Rat),((tlist D ps l).map Prod.fst).Sublist ps
 | [],_=>by simp [tlist]
 | _ :: _,[]=>by simp [tlist]
 | p :: ps,q :: l=>by
  have ih:=tlist_fst D ps l
  unfold tlist at ih ⊢
  rw [List.zip_cons_cons,List.filterMap_cons]
  by_cases h:q.num=0
  ·simp only [h,if_true]; exact ih.cons _
  ·simp only [h,if_false]; exact ih.cons_cons _
theorem tlQ_nz {ps:List Int} {l:List Rat} {x:Int×Int} (h:x∈tlQ ps l):x.2≠0:=by
 obtain ⟨_,q,hq,hn,he⟩:=tlist_mem h
 rw [he]
 refine Int.mul_ne_zero hn ?_
 have h1:=LN.tden_dvd hq
 have h2:=LN.tden_pos' l
 have h3:0 < tden l / q.den:=Nat.div_pos (Nat.le_of_dvd h2 h1) q.den_pos
 omega
theorem allP_odd:allP=2 :: oddP.map (fun p=>((p:Nat):Int)):=by decide +kernel
theorem allP_pr {p:Int} (h:p∈allP):∃ q:Nat,p=q∧(q=2∨q∈oddP):=by
 rw [allP_odd] at h
 rcases List.mem_cons.1 h with rfl | h
 ·exact ⟨2,rfl,.inl rfl⟩
 ·obtain ⟨q,hq,rfl⟩:=List.mem_map.1 h
  exact ⟨q,rfl,.inr hq⟩
theorem small_all {p:Int} (h:p∈smallP):p∈allP:=by
 have:∀ p∈smallP,p∈allP:=by decide
 exact this p h
theorem trt_of {ps:List Int} {l:List Rat} (h1:∀ p∈ps,p∈allP) (h2:ps.Nodup):TrT (tlQ ps l) :=
 ⟨fun _ hx=>allP_pr (h1 _ (tlist_mem hx).1),fun _ hx=>tlQ_nz hx,(tlist_fst _ ps l).nodup h2⟩
theorem Good.trt {ps:List Int} {l:List Rat} (h:Good ps l):TrT (tlQ ps l):=trt_of h.pr h.nd
theorem Good.lt {ps:List Int} {l:List Rat} (h:Good ps l):∀ x∈tlQ ps l,x.2.natAbs < 2 ^ 101:=fun x hx=>Nat.lt_of_le_of_lt (h.kb x hx) (by decide)
theorem Good.dec {ps:List Int} {l:List Rat} (h:Good ps l) (hn:ps.length≤100) (hne:tlQ ps l≠[]):Dec (tlQ ps l):=h.dc hn hne
theorem tlQ_len100 {ps:List Int} {l:List Rat} (hn:ps.length≤100):(tlQ ps l).length≤100 :=
 Nat.le_trans (by have:=(tlist_fst (tden l) ps l).length_le; rw [List.length_map] at this; exact this) hn
theorem Good.small {ps:List Int} {l:List Rat} (h1:∀ p∈ps,p∈smallP) (h2:ps.Nodup) (hk:∀ x∈tlQ ps l,x.2.natAbs≤Kb):Good ps l :=
 ⟨fun p hp=>small_all (h1 p hp),h2,hk,fun hn hne=>dec_of_cert (fun _ hx=>h1 _ (tlist_mem hx).1) (trt_of (fun p hp=>small_all (h1 p hp)) h2).nz (trt_of (fun p hp=>small_all (h1 p hp)) h2).nd hk (tlQ_len100 hn) hne⟩
theorem compare_dec (w:World) (ps:List Int) (a0 a1 a2:Option Addr) (c0 c1 c2 D:Nat) (la lb:List Rat) (A:SizeOk w ps a0 a1 la D) (B:SizeOk w ps a0 a2 lb D) (L:Laid w) (hD:D≤400)
  (hq:Good ps (sumQ ps.length [la,lb] [1,-1])) :
  Gives Tryz.prog 119 #[.slice a0 ps.length c0,.slice a1 la.length c1,.slice a2 lb.length c2] w (.int .i64 (LN.sz ps (sumQ ps.length [la,lb] [1,-1]))):=by
 unfold Gives
 have HL:=hd_ L
 have HA:=hd_ A
 have HB:=hd_ B
 have HD:=hd_ hD
 have Hq:=hd_ hq
 have Hn:=hd_ A.n
 have Hr0:Hid (LN.sz ps (sumQ ps.length [la,lb] [1,-1])=LN.signT (tlQ ps (sumQ ps.length [la,lb] [1,-1]))):=hd_ rfl
 have Hnum1:Hid (∀ W,Below w.heap.size w W→Gives Tryz.prog 79 #[.int .i64 1] W (.agg #[.string (itx 1),.string (dec 1)])):=fun W hW=>number_any W 1 (by decide) (by decide) (HL.out.below hW)
 have Hnum2:Hid (∀ W,Below w.heap.size w W→Gives Tryz.prog 79 #[.int .i64 (-1)] W (.agg #[.string (itx (-1)),.string (dec 1)])):=fun W hW=>number_any W (-1) (by decide) (by decide) (HL.out.below hW)
 clear hq hD A B L
 obtain ⟨r,hr⟩:∃ r,LN.sz ps (sumQ ps.length [la,lb] [1,-1])=r:=⟨_,rfl⟩
 have Hsg:Hid (LN.signT (tlQ ps (sumQ ps.length [la,lb] [1,-1]))=r):=by show _=_; rw [← Hr0.out,hr]
 rw [hr]
 clear hr Hr0
 go_enter Tryz.func119,Tryz.ntmps119
 go_wp2_with fail
 have K1:=hd_ (heap_at w #[.slice a1 la.length c1,.slice a2 lb.length c2] 47 _ rfl)
 have B1:=hd_ ((Below.refl w.heap.size w).alloc nr_ (.cells #[.slice a1 la.length c1,.slice a2 lb.length c2] 47))
 generalize hw1:w.alloc (.cells #[.slice a1 la.length c1,.slice a2 lb.length c2] 47)=w1 at *
 clear hw1
 refine cm_ (Hnum1.out _ B1.out) ?_
 rintro e w2 ⟨rfl,hb⟩
 have K2:=hd_ (heap_kept K1.out hb nr_)
 have B2:=hd_ (B1.out.trans (hb.mono B1.out.size))
 clear hb
 go_wp2_with fail
 refine cm_ (Hnum2.out _ B2.out) ?_
 rintro e w3 ⟨rfl,hb⟩
 have K3:=hd_ (heap_kept K2.out hb nr_)
 have B3:=hd_ (B2.out.trans (hb.mono B2.out.size))
 clear hb
 go_wp2_with fail
 have K4:=hd_ (heap_old K3.out (.cells #[.string (itx 1),.string (dec 1),.string (itx (-1)),.string (dec 1)] 58))
 have B4:=hd_ (B3.out.alloc B3.out.size (.cells #[.string (itx 1),.string (dec 1),.string (itx (-1)),.string (dec 1)] 58))
 have M4:=hd_ (heap_at w3 #[.string (itx 1),.string (dec 1),.string (itx (-1)),.string (dec 1)] 58 _ rfl)
 generalize hw4:w3.alloc (.cells #[.string (itx 1),.string (dec 1),.string (itx (-1)),.string (dec 1)] 58)=w4 at *
 clear hw4
 have Hs:=hd_ (sum_pair w4 _ _ a1 a2 c1 c2 ps.length D la lb 1 (-1) K4.out M4.out (HA.out.below B4.out).rl (HB.out.below B4.out).rl HA.out.len HB.out.len HA.out.sm HB.out.sm Sm.one Sm.minus Hn.out HD.out (HL.out.below B4.out))
 refine cm_ Hs.out ?_
 rintro e w5 ⟨a5,c5,rfl,ho,hb⟩
 have Hr5:=hd_ ho.rd
 have B5:=hd_ (B4.out.trans (hb.mono B4.out.size))
 clear hb ho
 have S5:Hid (SizeOk w5 ps a0 a5 (sumQ ps.length [la,lb] [1,-1]) (2 * D + 5)) :=
  ⟨(HA.out.below B5.out).rp,Hr5.out,sum_pair_len HA.out.len HB.out.len,Hn.out,HA.out.pr,sum_pair_sm HA.out.sm HB.out.sm Sm.one Sm.minus,by have:=HD.out; omega⟩
 have Ht:=hd_ (terms_ok (c0:=c0) (c:=c5) S5.out (HL.out.below B5.out))
 go_wp2_with fail
 refine cm_ Ht.out ?_
 rintro e w6 ⟨b1,d1,b2,d2,rfl,T,hb⟩
 have B6:=hd_ (B5.out.trans (hb.mono B5.out.size))
 have Hg:Hid (Gives Tryz.prog 83 #[.agg (tcells b1 d1 b2 d2 (tlQ ps (sumQ ps.length [la,lb] [1,-1])).length (tden (sumQ ps.length [la,lb] [1,-1])))] w6 (.int .i64 r)):=by
  rw [← Hsg.out]; exact sign_dec w6 b1 b2 d1 d2 _ 101 _ T Hq.out.trt (by decide) Hq.out.lt (Hq.out.dec Hn.out) (HL.out.below B6.out)
 clear hb T
 go_wp2_with fail
 refine cm_ Hg.out ?_
 rintro e w7 ⟨rfl,hb⟩
 have B7:=hd_ (B6.out.trans (hb.mono B6.out.size))
 clear hb
 go_wp2_with fail
 go_ret
 exact ⟨rfl,B7.out⟩
theorem Compare_dec (w:World) (ps:List Int) (a0 a1 a2:Option Addr) (c0 c1 c2:Nat) (la lb:List Rat) (A:SizeOk w ps a0 a1 la 30) (B:SizeOk w ps a0 a2 lb 30) (hp:pcode ps=0) (L:Laid w)
  (hq:Good ps (sumQ ps.length [la,lb] [1,-1])) :
  Gives Tryz.prog 105 #[.slice a0 ps.length c0,.slice a1 la.length c1,.slice a2 lb.length c2] w (.tuple #[.int .i64 (LN.sz ps (sumQ ps.length [la,lb] [1,-1])),.int .i64 0]):=by
 unfold Gives
 have Hc:Hid (∀ W,Below w.heap.size w W→Gives Tryz.prog 119 #[.slice a0 ps.length c0,.slice a1 la.length c1,.slice a2 lb.length c2] W (.int .i64 (LN.sz ps (sumQ ps.length [la,lb] [1,-1])))):=fun W hW =>
  compare_dec W ps a0 a1 a2 c0 c1 c2 30 la lb (A.below hW) (B.below hW) (L.below hW) (by decide) hq
 have Hk:Hid (∀ W g,Below w.heap.size w W→W.heap[g]?=some (.cells #[.slice a1 la.length c1,.slice a2 lb.length c2] 47 (0,0))→Gives Tryz.prog 108 #[.slice a0 ps.length c0,.slice (some ⟨g,0,none⟩) 2 2] W (.int .i64 0)):=fun W g hW hg =>
  checkAll_two W ps g a0 a1 a2 c0 c1 c2 la lb (A.below hW) (B.below hW) hp (L.below hW) hg
 clear A B hp L hq
 generalize LN.sz ps (sumQ ps.length [la,lb] [1,-1])=r at *
 go_enter Tryz.func105,Tryz.ntmps105
 go_wp2_with fail
 have B1:=hd_ ((Below.refl w.heap.size w).alloc nr_ (.cells #[.slice a1 la.length c1,.slice a2 lb.length c2] 47))
 refine cm_ (Hk.out _ _ B1.out (heap_at w _ _ _ rfl)) ?_
 rintro e w1 ⟨rfl,hb⟩
 have B2:=hd_ (B1.out.trans (hb.mono B1.out.size))
 clear hb Hk B1
 go_wp2_with fail
 refine cm_ (Hc.out _ B2.out) ?_
 rintro e w2 ⟨rfl,hb⟩
 have B3:=hd_ (B2.out.trans (hb.mono B2.out.size))
 clear hb Hc
 go_wp2_with fail
 go_ret2
 exact ⟨rfl,B3.out⟩
end Go.Proofs.YtkoicfghplmghaaGreatDoor

namespace Go.Proofs.YtkoicfghplmghaaGreatDoor.LN
theorem dotI_parts (P:Int):∀ l k:List Int,dotI l k=dotI (l.map fun x=>x % P) k + P * dotI (l.map fun x=>x / P) k
 | [],_=>by simp [dotI]
 | _ :: _,[]=>by simp [dotI]
 | x :: l,y :: k=>by
  have ih:=dotI_parts P l k
  simp only [List.map_cons,dotI]
  rw [ih]
  have hx:=Int.emod_add_mul_ediv x P
  generalize x % P=r at *
  generalize x / P=q at *
  subst hx
  grind
def approx (a q:Int) (L:List Int):List Int:=L.map fun l=>(2 * q * l + a) / (2 * a)
theorem approx_length (a q:Int) (L:List Int):(approx a q L).length=L.length:=by simp [approx]
def errA (a q:Int) (L:List Int):Nat:=sumAbs (comb a (approx a q L) q L)
def nearA (a:Int) (L Q:List Int) (K S:Nat):Bool:=decide (0 < a) && Q.all fun q=>decide (errA a q L * K + q.natAbs * S < a.natAbs)
def indA (a:Int) (L Q:List Int) (V:List (List Int)) (P:Int):Bool :=
 decide (1 < P) && decide (V.length=L.length) &&
 (List.range L.length).all fun i=>decide ((combs L.length (V.getD i []) (Q.map fun q=>approx a q L)).map (fun x=>x % P)=unitRow L.length i 1)
theorem dotI_mul (P:Int):∀ u k:List Int,dotI u (k.map fun x=>P * x)=P * dotI u k
 | [],_=>by simp [dotI]
 | _ :: _,[]=>by simp [dotI]
 | a :: u,b :: k=>by
  simp only [List.map_cons,dotI]
  rw [dotI_mul P u k]
  grind
theorem ind_dvd {P:Int} {m:Nat} {U V:List (List Int)} (hU:∀ u∈U,u.length=m) (hI:∀ i,i < m→(combs m (V.getD i []) U).map (fun x=>x % P)=unitRow m i 1) (k:List Int) (hk:k.length=m) (h0:∀ u∈U,dotI u k=0) :
  ∀ x∈k,∃ y,x=P * y:=by
 intro x hx
 obtain ⟨i,hi,rfl⟩:=List.mem_iff_getElem.1 hx
 have h1:=hI i (by omega)
 have h2:=dotI_combs m k (V.getD i []) U hU h0
 rw [dotI_parts P,h1,unitRow,List.range_eq_range',dotI_unit 1 _ i 0 k,if_pos (by omega)] at h2
 rw [Nat.sub_zero,List.getD_eq_getElem?_getD,List.getElem?_eq_getElem hi,Option.getD_some,Int.one_mul] at h2
 generalize k[i]=y at *
 generalize dotI ((combs m (V.getD i []) U).map fun x=>x / P) k=q at *
 exact ⟨-q,by rw [Int.mul_neg]; omega⟩
theorem ind_zero {P:Int} (hP:1 < P) {m:Nat} {U V:List (List Int)} (hU:∀ u∈U,u.length=m) (hI:∀ i,i < m→(combs m (V.getD i []) U).map (fun x=>x % P)=unitRow m i 1) :
  ∀ (n:Nat) (k:List Int),(∀ x∈k,x.natAbs≤n)→k.length=m→(∀ u∈U,dotI u k=0)→∀ x∈k,x=0:=by
 intro n
 induction n using Nat.strongRecOn with
 | ind n ih =>
  intro k hn hk h0
  by_cases hz:n=0
  ·subst hz
   intro x hx
   have:=hn x hx
   omega
  have hd:=ind_dvd hU hI k hk h0
  have e:k=(k.map fun x=>x / P).map fun x=>P * x:=by
   rw [List.map_map]
   refine List.ext_getElem (by simp) fun i h1 h2=>?_
   obtain ⟨y,hy⟩:=hd k[i] (List.getElem_mem h1)
   rw [List.getElem_map,Function.comp_apply,hy,Int.mul_ediv_cancel_left _ (by omega)]
  have h2:∀ u∈U,dotI u (k.map fun x=>x / P)=0:=fun u hu=>by
   have h:=h0 u hu
   rw [e,dotI_mul] at h
   rcases Int.mul_eq_zero.1 h with h | h
   ·omega
   ·exact h
  have h3:∀ x∈k.map (fun x=>x / P),x.natAbs≤n / 2:=fun x hx=>by
   obtain ⟨z,hz1,rfl⟩:=List.mem_map.1 hx
   obtain ⟨y,hy⟩:=hd z hz1
   have h4:=hn z hz1
   rw [hy,Int.mul_ediv_cancel_left _ (by omega)]
   rw [hy,Int.natAbs_mul] at h4
   have h5:2 * y.natAbs≤P.natAbs * y.natAbs:=Nat.mul_le_mul_right _ (by omega)
   omega
  have h4:=ih (n / 2) (by omega) _ h3 (by rw [List.length_map]; exact hk) h2
  intro x hx
  obtain ⟨y,hy⟩:=hd x hx
  have h5:=h4 (x / P) (List.mem_map_of_mem hx)
  rw [hy,Int.mul_ediv_cancel_left _ (by omega)] at h5
  rw [hy,h5,Int.mul_zero]
theorem approx_zero {a:Int} {L Q:List Int} {V:List (List Int)} {P:Int} {K S:Nat} (hn:nearA a L Q K S=true) (hi:indA a L Q V P=true) (k:List Int) (hk:k.length=L.length) (hK:∀ x∈k,x.natAbs≤K) (hS:(dotI L k).natAbs < S) :
  ∀ x∈k,x=0:=by
 unfold nearA at hn
 unfold indA at hi
 simp only [Bool.and_eq_true,decide_eq_true_eq,List.all_eq_true,List.mem_range] at hn hi
 obtain ⟨ha,hQ⟩:=hn
 obtain ⟨⟨hP,hV⟩,hI⟩:=hi
 refine ind_zero hP (m:=L.length) (U:=Q.map fun q=>approx a q L) (V:=V) (fun u hu=>?_) hI (sumAbs k) k (fun x hx=>?_) hk fun u hu=>?_
 ·obtain ⟨q,_,rfl⟩:=List.mem_map.1 hu
  exact approx_length a q L
 ·clear hS hK hk hI hV
  unfold sumAbs
  induction k with
  | nil=>cases hx
  | cons y l ih =>
   rw [List.map_cons,List.sum_cons]
   rcases List.mem_cons.1 hx with rfl | hx
   ·omega
   ·have:=ih hx; omega
 ·obtain ⟨q,hq,rfl⟩:=List.mem_map.1 hu
  have h1:=hQ q hq
  have e:=dotI_comb a q (approx a q L) L k (approx_length a q L)
  have b:=dotI_le K (comb a (approx a q L) q L) k hK
  unfold errA at h1
  generalize dotI (approx a q L) k=f at *
  generalize dotI L k=T at *
  generalize sumAbs (comb a (approx a q L) q L) * K=A at *
  rw [e] at b
  have h3:(a * f).natAbs≤(a * f - q * T).natAbs + (q * T).natAbs:=by omega
  rw [Int.natAbs_mul,Int.natAbs_mul q T] at h3
  have h5:q.natAbs * T.natAbs≤q.natAbs * S:=Nat.mul_le_mul_left _ (by omega)
  have h6:a.natAbs * f.natAbs < a.natAbs * 1:=by omega
  have h7:f.natAbs < 1:=Nat.lt_of_mul_lt_mul_left h6
  omega
def certP25:List Nat:=[2,3,5,7,11,13,17,19,23,29,31,37,41,43,47,53,59,61,67,71,73,79,83,89,97]
def certL25:List Int:=certP25.map fun p=>if p=2 then 2 ^ 1024 else (((lg p p.log2 1024 1120).getD 0:Nat):Int)
def certQ25:List Int:=[-0x390cc4547b4cd34f887aebaadaaef6c9e2c25ec48d8f23b26f2a85d828ff28e8bf9ca1f7cfab0d284288c4b575780f820db978a62a9677ad80c583c592139,-0x260814ef7f5ac50a6006d98cfd70b43cacbe2b44c5a6acba00c9e36e133dfaec54ded4a6dbf2b1ee3d9f0170e9040519515ec50467e78cea24b2a987b6ebe,0xc1fe29faf3a552cd8de28a12e2da45a09a6f6ddd51c9fdf123231365c26467b7f0adb74fd1629cde5109fd2ce82ac31cf6a7159b88cbc009f06beb2efe7f1,0xc4d95d3690e9b65f02a176c883e8ec48cac8f51c6e6ac88155fbb552a8d107e0735dfadeafbd00dc15d7affcd74d1aedcc8b5819242d9f5374d744f37864b,0x2fbe3f25a3a7de9b5b481954d1f6339b2cd20553ab9d3ebec152b19718dccca849fa91bd57f1ef5cf6b3fd1de44fed74095a607713b59e5dab526a5bf2d1a,0xb1d4a89456513f0be0db174271d748684707ab7c465b9b152f9cfd46885d014b0b6313fdb7fb0ac0f8c0cbb84fa1114a2fc1ad81d7b46dc68888c7e484443,0xd4fb67b9eee711061c2f484eaeb6714b80931bf0be34de2758afdcfc8ab8d81f286fc368a34abbdee16567d53c8e00633cd4e3c89dc0919dbd4e6776a43bb,0xc899fb23e590a24b56a2adcd8da665a66ae2ec7e27986cc365cb27f6d6036be68c300e821eb425ea7f34efe116edeeffcaca2af99a0269f5b4261db47c314,-0x11d12dd471b033d8f64d3dd96ce360413127b1e913f3ae0a69f58fd7c784be2b7f4730a1aa0e86d39e38d5da6e24bfecc0540ab55bd835eba83548458d713,0xb926771e4e6fa1b1d854b5141a33d1ea69f18e9493e4bd4e7fc79ec59c41a85d36321c75af04f2583ea8a5d6ed566b5e9fa774026a91431b6a7df578e7459,-0x3c28cc5f354ba5a9fc8d241587fa21af31c3e6e94de0dd06347765459067893f4625b14ba63b900137e634223d3e51fc18e23feb9d937a72459c82f489561,-0xd89ae46dcc2d34099da88c0eeebe45a7fd8e4a5b978d5a347365896f552ec37edac4d764c4c88fe731af3bde3060926f6c408fa08ce000932d017724e19ee,-0x8a91da38a2dcab2db4bf4a851cf4bbad9dd11812fb953cccc63d0e4b2da4b049c2e28f859aff65c2f55d66641eec3465bf2cc38578db652cb80d1be86824c,0x895aa15dcf5659cff1497ef77c5517ab5bc635dc394b344b270487efb0c24dd81130969cbd26c4b2570453e614b36072827d534508273926630d8792f1505,0xec0ed674cca733ecec2ec718589c4165668c921ed200cb18f949421f53adfeaf33ee49b77683fd220fda76c247b919730b89f5c86cc2ae2e7467e6288190d,0x1ad4fa358f8a2b0001052337ff5f965738e9ef08c0ab36887e87053178564d3d4733548ea08b2398fa1c8ef38e9b07acf14183670a7557085e371538399213,-0xcf563fd1ab64de44118f0ef591830a98b4375aefbd7643b50b3a2c7dad2ddda31ea6a961f9ff6856f9af1536f3807caa73d0d8bccd1b1748307caca0b514,0x5076fb700c91eb0ad7590020d977e1805d604885b67160daae909a62406d3f401f66fe04cdb504d8309c6f2062ee41b2c29c45d2c01b4a6959315c698416e,-0xe7e496b0d5dae89fd6671905c3b39792af4f23aa9c33ab499c18e57447823ce03c684e8e0d3686afff015d66b6d57f8e91b97946b1f2fb236c8d62708a18a,-0x1797837a78ad5a7cb425ecd55e66c7f45320c2112aa185855f9ac4fbdd0f1a3f868873233f2a91c500731f84bf864689b9ca4ffc44787f78ed85c25d65bafe,0x1f12b1884e6ed34a5d58fcbbd9b64bb0e3620c645f1107b850710f74df8470506f39df5b2c079d54de688969e9b3be651cc671df4be8b0402deeed04d7136f,0x38773a3f3a38ff2f461cc1a498212e2699f4b44c91c4fc8fe76a273f7433e99ad868606c13df7bb8fbc1a0e307aa2305e1edc5fc67267c33693811a24a115a,-0x468f56cd9688ad4444754dc5516780d8a728601272b981c9e540ae5c7eccc37be9aaea74cc4f68a295024dd153707784d1a0f06af7b3318b43396873b153b9,0x29803f6a11e403f7ab8ab7f301e524fd966b213312929531e43177e8e94c4228b3ff35f744d7a0381b47d50f48de84c56fabfe6825e7c594421d4081a2f909,-0x3ba482035175b55cdd54937fbed1357892e1679104490919122bafa83262d982e03a473fabb598916f8baa291f85413607e809cc262654bd47d7d78594adb]
def certV25:List (List Int):=[[98,118,202,124,83,146,107,201,172,64,12,55,105,153,239,226,195,7,28,1,187,165,30,221,20],[97,27,31,158,30,77,244,51,44,105,139,212,178,232,112,144,112,50,139,194,131,126,250,243,199],[145,223,213,170,95,13,240,130,153,118,135,223,243,186,171,134,207,140,198,195,116,22,35,91,65],[127,43,6,14,138,151,250,70,62,80,184,44,115,51,176,244,145,131,206,236,45,69,179,200,133],[215,29,202,95,72,74,48,4,10,16,59,3,80,6,27,146,155,64,144,191,207,28,47,186,115],[1,23,188,40,44,144,148,45,179,1,2,131,81,130,190,174,102,201,98,127,88,72,69,149,96],[21,40,35,113,140,63,120,23,173,12,30,112,115,247,188,77,109,86,237,6,190,149,14,217,137],[165,242,4,13,24,68,242,68,11,194,105,217,200,25,217,157,134,179,219,36,80,241,64,196,176],[206,4,124,119,72,189,189,146,49,121,239,155,85,23,138,58,180,221,118,48,106,186,171,238,86],[210,99,247,60,139,154,200,40,223,202,137,227,11,116,74,91,113,69,222,174,223,137,100,238,243],[137,154,125,2,209,203,20,147,218,42,113,181,57,132,187,233,7,180,4,13,134,94,179,172,127],[179,210,49,18,55,213,151,96,5,60,141,57,148,95,99,145,82,178,219,173,202,14,84,100,228],[102,62,217,129,14,127,200,224,35,146,125,220,123,9,18,106,211,148,211,96,123,238,196,223,230],[107,242,170,28,59,5,149,152,27,153,45,77,216,213,205,218,113,101,58,81,174,221,44,184,57],[108,175,78,124,22,49,53,21,88,184,52,93,49,179,193,43,94,166,25,71,133,248,120,207,180],[190,12,33,105,31,211,119,39,220,34,3,27,122,55,99,131,239,148,215,72,248,155,198,222,150],[144,6,56,78,4,2,126,114,216,174,212,176,32,191,21,45,218,115,143,120,153,136,150,24,232],[177,196,131,171,223,9,122,185,198,226,118,98,221,101,109,186,72,130,15,250,167,241,109,149,105],[5,109,58,172,46,17,108,71,152,136,247,173,16,175,59,71,120,96,238,26,93,192,136,39,81],[186,19,103,188,193,244,223,99,12,51,155,33,75,7,116,75,27,25,162,116,163,194,41,249,169],[16,165,61,90,34,101,66,39,9,179,6,2,90,243,140,110,154,165,206,43,233,68,70,8,11],[234,230,151,18,15,70,18,94,170,185,103,207,140,194,73,45,240,94,238,202,45,181,231,74,100],[93,157,117,129,100,102,151,37,142,24,195,236,119,121,156,62,96,20,140,202,137,110,136,203,133],[34,56,244,228,180,109,49,144,4,202,26,66,171,139,244,245,65,98,96,38,169,12,38,158,59],[93,79,212,48,179,15,215,149,126,233,223,17,202,226,95,109,96,28,47,201,229,125,122,118,247]]
theorem certL25_head:certL25.head?=some (2 ^ 1024):=by decide +kernel
theorem certL25_len:certL25.length=25:=by unfold certL25; rw [List.length_map]; rfl
theorem near25_ok:nearA (2 ^ 1024) certL25 certQ25 (2 ^ 17) (2 ^ 521)=true:=by decide +kernel
theorem ind25_ok:indA (2 ^ 1024) certL25 certQ25 certV25 251=true:=by decide +kernel
theorem cert25_zero (k:List Int) (hk:k.length=certL25.length) (hK:∀ x∈k,x.natAbs≤2 ^ 17) (hS:(dotI certL25 k).natAbs < 2 ^ 521):∀ x∈k,x=0:=approx_zero near25_ok ind25_ok k hk hK hS
end Go.Proofs.YtkoicfghplmghaaGreatDoor.LN

namespace Go.Proofs.YtkoicfghplmghaaGreatDoor
open Go.RowKit
theorem LN.ends_decide_of {pr:List Int} {f:Int→Nat} {K S:Nat} (hz:∀ k:List Int,k.length=pr.length→(∀ x∈k,x.natAbs≤K)→(LN.dotI (pr.map fun p=>(f p:Int)) k).natAbs < S→∀ x∈k,x=0) (hp:pr.Nodup) (l:List (Int×Int)) (hl:l.length * K≤S) (hne:l≠[])
  (hm:∀ x∈l,x.1∈pr∧x.2≠0∧x.2.natAbs≤K) (hd:(l.map Prod.fst).Nodup):LN.hiS f (LN.negT l)≤LN.loS f l∨LN.hiS f l≤LN.loS f (LN.negT l):=by
 have h1:=LN.hiS_le f K l fun x hx=>(hm x hx).2.2
 have h2:=LN.hiS_le f K (LN.negT l) (by
  intro x hx
  obtain ⟨y,hy,rfl⟩:=List.mem_map.1 hx
  have:=(hm y hy).2.2
  show (-y.2).natAbs≤K
  omega)
 have e:(LN.negT l).length=l.length:=by simp [LN.negT]
 rw [e] at h2
 have h3:=LN.sumT_eq f l
 by_cases hT:(LN.sumT f l).natAbs < S
 ·exfalso
  rw [← LN.dotI_coef f pr hp l fun x hx=>(hm x hx).1] at hT
  have h4:=hz (pr.map fun p=>LN.coefP p l) (by simp) (by
   intro x hx
   obtain ⟨p,_,rfl⟩:=List.mem_map.1 hx
   exact LN.coefP_le K l hd (fun y hy=>(hm y hy).2.2) p) hT
  match l,hne with
  | x :: r,_ =>
   have h5:=h4 _ (List.mem_map.2 ⟨x.1,(hm x List.mem_cons_self).1,rfl⟩)
   rw [LN.coefP_mem _ hd x List.mem_cons_self] at h5
   exact (hm x List.mem_cons_self).2.1 h5
 ·omega
theorem certL25_pos:∀ x∈LN.certL25,(0:Int)≤x:=by decide +kernel
theorem lg_cert25':oddP.map (fun p=>LN.lg p p.log2 1024 1120)=LN.certL25.tail.map fun x=>some x.toNat:=by decide +kernel
theorem certL25_eq:allP.map (fun p=>((lf 1024 p:Nat):Int))=LN.certL25:=by
 have h:=lg_cert25'
 have h0:=LN.certL25_head
 have hp:=certL25_pos
 obtain ⟨c0,ct,e⟩:∃ c0 ct,LN.certL25=c0 :: ct:=⟨_,_,rfl⟩
 rw [e] at h h0 hp ⊢
 rw [allP_odd,List.map_cons]
 simp only [List.head?_cons,Option.some.injEq] at h0
 rw [lf_two,h0]
 congr 1
 rw [List.tail_cons] at h
 rw [List.map_map]
 have hp':∀ x∈ct,(0:Int)≤x:=fun x hx=>hp x (List.mem_cons_of_mem _ hx)
 clear hp h0 e
 have key:∀ (l:List Nat) (ct:List Int),(∀ p∈l,p∈oddP)→(∀ x∈ct,(0:Int)≤x)→l.map (fun p=>LN.lg p p.log2 1024 1120)=ct.map (fun x=>some x.toNat)→l.map ((fun p=>((lf 1024 p:Nat):Int)) ∘ fun p=>((p:Nat):Int))=ct:=by
  intro l
  induction l with
  | nil =>
   intro ct _ _ h
   cases ct with
   | nil=>rfl
   | cons x r=>simp at h
  | cons p l ih =>
   intro ct hl hc h
   cases ct with
   | nil=>simp at h
   | cons x r =>
    simp only [List.map_cons,List.cons.injEq] at h
    rw [List.map_cons,ih r (fun q hq=>hl q (List.mem_cons_of_mem _ hq)) (fun y hy=>hc y (List.mem_cons_of_mem _ hy)) h.2]
    congr 1
    have:=lg_lgN (hl p (List.mem_cons_self ..)) (by decide) h.1
    have hx:=hc x (List.mem_cons_self ..)
    show ((lgN p 1024:Nat):Int)=x
    rw [this]
    omega
 exact key oddP ct (fun _ h=>h) hp' h
def Ke:Nat:=2 ^ 17
theorem dec_of_cert25 {tl:List (Int×Int)} (h1:∀ x∈tl,x.1∈allP) (h0:∀ x∈tl,x.2≠0) (hd:(tl.map Prod.fst).Nodup) (hk:∀ x∈tl,x.2.natAbs≤Ke) (hl:tl.length≤100) (hne:tl≠[]):Dec tl:=by
 have hS:=@mul_pow_le tl.length 17 521 hl (by decide)
 have hz:∀ k:List Int,k.length=allP.length→(∀ x∈k,x.natAbs≤Ke)→(LN.dotI (allP.map fun p=>((lf 1024 p:Nat):Int)) k).natAbs < 2 ^ 521→∀ x∈k,x=0:=by
  intro k hk hK hT
  rw [certL25_eq] at hT
  exact LN.cert25_zero k (by rw [hk,LN.certL25_len]; rfl) hK hT
 have:=LN.ends_decide_of hz (by decide) tl hS hne (fun x hx=>⟨h1 x hx,h0 x hx,hk x hx⟩) hd
 unfold Dec
 rw [LN.eLo_eq,LN.eHi_eq]
 omega
theorem Good.all {ps:List Int} {l:List Rat} (h1:∀ p∈ps,p∈allP) (h2:ps.Nodup) (hk:∀ x∈tlQ ps l,x.2.natAbs≤Ke):Good ps l :=
 ⟨h1,h2,fun x hx=>Nat.le_trans (hk x hx) (by decide),fun hn hne=>dec_of_cert25 (fun _ hx=>h1 _ (tlist_mem hx).1) (trt_of h1 h2).nz (trt_of h1 h2).nd hk (tlQ_len100 hn) hne⟩
end Go.Proofs.YtkoicfghplmghaaGreatDoor

namespace Go.Proofs.YtkoicfghplmghaaGreatDoor.LN
end Go.Proofs.YtkoicfghplmghaaGreatDoor.LN

namespace Go.Proofs.YtkoicfghplmghaaGreatDoor.LN
end Go.Proofs.YtkoicfghplmghaaGreatDoor.LN

namespace Go.Proofs.YtkoicfghplmghaaGreatDoor
open Go.RowKit
end Go.Proofs.YtkoicfghplmghaaGreatDoor

namespace Go.Proofs.YtkoicfghplmghaaGreatDoor
open Go.RowKit
end Go.Proofs.YtkoicfghplmghaaGreatDoor

namespace Go.Proofs.YtkoicfghplmghaaGreatDoor
open Go.RowKit
end Go.Proofs.YtkoicfghplmghaaGreatDoor

namespace Go.Proofs.YtkoicfghplmghaaGreatDoor
open Go.RowKit
def GivesC (f:FuncId) (args:Array Value) (w:World) (code:Int) (l:List Rat):Prop :=
 Calls Tryz.prog f args w fun e w'=>∃ a c,e = .returned (.tuple #[.slice a (if code=0 then l.length else 0) c,.int .i64 code])∧(code=0→Rd w' a (cellsQ l))∧Below w.heap.size w w'
def sumCode (l:List Rat):Int:=if shortAll l=true then 0 else 4
theorem GivesSum.code {f:FuncId} {args:Array Value} {w:World} {l:List Rat} (h:GivesSum f args w l):GivesC f args w (sumCode l) l:=by
 unfold GivesSum at h
 unfold GivesC sumCode
 by_cases hs:shortAll l=true
 ·rw [if_pos hs] at h ⊢
  refine cm_ h ?_
  rintro e w' ⟨a,c,rfl,hr,hb⟩
  exact ⟨a,c,rfl,fun _=>hr,hb⟩
 ·rw [if_neg hs] at h ⊢
  refine cm_ h ?_
  rintro e w' ⟨rfl,hb⟩
  exact ⟨none,0,rfl,fun h4=>absurd h4 (by decide),hb⟩
theorem GivesErr.code {f:FuncId} {args:Array Value} {w:World} {code:Int} (hc:code≠0) (l:List Rat) (h:GivesErr f args w code):GivesC f args w code l:=by
 unfold GivesC
 rw [if_neg hc]
 refine cm_ h ?_
 rintro e w' ⟨rfl,hb⟩
 exact ⟨none,0,rfl,fun h4=>absurd h4 hc,hb⟩
theorem GivesC.lower {f:FuncId} {args:Array Value} {w:World} {code:Int} {l:List Rat} (h:GivesC f args w code l):∃ z:Nat,Calls Tryz.prog f args w fun e w'=>∃ a c,e = .returned (.tuple #[.slice a z c,.int .i64 code])∧(code=0→Rd w' a (cellsQ l))∧Below w.heap.size w w':=⟨_,h⟩
theorem add_gen (w:World) (ps:List Int) (a0 a1 a2:Option Addr) (c0 c1 c2:Nat) (la lb:List Rat) (rp:Rd w a0 (ints ps)) (hi:I64s ps) (hp:pcode ps=0) (r1:Rd w a1 (cellsQ la)) (r2:Rd w a2 (cellsQ lb)) (l1:la.length=ps.length) (l2:lb.length=ps.length)
  (s1:∀ q∈la,Sm 30 q) (s2:∀ q∈lb,Sm 30 q) (L:Laid w) :
  GivesC 54 #[.slice a0 ps.length c0,.slice a1 la.length c1,.slice a2 lb.length c2] w (sumCode (sumQ ps.length [la,lb] [1,((1:Int):Rat)])) (sumQ ps.length [la,lb] [1,((1:Int):Rat)]):=by
 obtain ⟨u,hu⟩:∃ q:Rat,q=1:=⟨_,rfl⟩
 obtain ⟨v,hv⟩:∃ q:Rat,q=((1:Int):Rat):=⟨_,rfl⟩
 rw [← hv,← hu]
 have Hc:Hid (∀ W g1 g2,Below w.heap.size w W→W.heap[g1]?=some (.cells #[.slice a1 la.length c1,.slice a2 lb.length c2] 47 (0,0))→W.heap[g2]?=some (.cells #[.string (itx u.num),.string (dec u.den),.string (itx v.num),.string (dec v.den)] 58 (0,0)) →
   GivesC 86 #[.slice a0 ps.length c0,.slice (some ⟨g1,0,none⟩) 2 2,.slice (some ⟨g2,0,none⟩) 2 2] W (sumCode (sumQ ps.length [la,lb] [u,v])) (sumQ ps.length [la,lb] [u,v])):=fun W g1 g2 hW h1 h2 =>
  (combine_fine W a0 _ _ c0 2 2 ps [la,lb] [u,v] (rp.below hW nr_) hi hp (rdl_two (l1:=la.map qs) (l2:=lb.map qs) (by rw [List.length_map,List.length_map]; exact h1) (r1.below hW nr_) (r2.below hW nr_)) (by simp)
   (by intro l hl; simp only [List.mem_cons,List.not_mem_nil,or_false] at hl; rcases hl with rfl | rfl; exact ⟨l1,s1⟩; exact ⟨l2,s2⟩) (rd_obj h2) rfl
   (by intro q hq; simp only [List.mem_cons,List.not_mem_nil,or_false] at hq; rcases hq with rfl | rfl; subst hu; exact Sm.le (D:=1) ⟨by decide +kernel,by decide +kernel⟩ (by decide); subst hv; exact Sm.le (D:=2) ⟨by decide +kernel,by decide +kernel⟩ (by decide)) (L.below hW)).code
 have N1:Hid (∀ W,Below w.heap.size w W→Gives Tryz.prog 79 #[.int .i64 1] W (fr u)):=fun W hW=>by subst hu; exact numberR W 1 (by decide) (by decide) (L.below hW)
 have N2:Hid (∀ W,Below w.heap.size w W→Gives Tryz.prog 79 #[.int .i64 1] W (fr v)):=fun W hW=>by subst hv; exact numberR W 1 (by decide) (by decide) (L.below hW)
 unfold fr fv at N1 N2
 unfold GivesC at Hc ⊢
 clear hu hv rp hi hp r1 r2 l1 l2 s1 s2 L
 generalize sumQ ps.length [la,lb] [u,v]=S at *
 generalize sumCode S=code at *
 generalize (if code=0 then S.length else 0)=z at *
 generalize ps.length=n at *
 generalize la.length=na at *
 generalize lb.length=nb at *
 have B0:=hd_ ((Below.refl w.heap.size w).alloc nr_ (.cells #[.slice a1 na c1,.slice a2 nb c2] 47))
 have K0:=hd_ (heap_at w #[.slice a1 na c1,.slice a2 nb c2] 47 _ rfl)
 go_enter Tryz.func54,Tryz.ntmps54
 go_wp2_with fail
 generalize w.alloc (.cells #[.slice a1 na c1,.slice a2 nb c2] 47)=w0 at *
 refine cm_ (N1.out _ B0.out) ?_
 rintro e w1 ⟨rfl,hb⟩
 have B1:=hd_ (B0.out.trans (hb.mono B0.out.size))
 have K1:=hd_ (heap_kept K0.out hb nr_)
 clear hb B0 K0
 go_wp2_with fail
 refine cm_ (N2.out _ B1.out) ?_
 rintro e w2 ⟨rfl,hb⟩
 have B2:=hd_ (B1.out.trans (hb.mono B1.out.size))
 have K2:=hd_ (heap_kept K1.out hb nr_)
 clear hb B1 K1 N1 N2
 go_wp2_with fail
 have B3:=hd_ (B2.out.alloc B2.out.size (.cells #[.string (itx u.num),.string (dec u.den),.string (itx v.num),.string (dec v.den)] 58))
 have K3:=hd_ (heap_old K2.out (.cells #[.string (itx u.num),.string (dec u.den),.string (itx v.num),.string (dec v.den)] 58))
 have M3:=hd_ (heap_at w2 #[.string (itx u.num),.string (dec u.den),.string (itx v.num),.string (dec v.den)] 58 _ rfl)
 generalize w2.alloc (.cells #[.string (itx u.num),.string (dec u.den),.string (itx v.num),.string (dec v.den)] 58)=w3 at *
 refine cm_ (Hc.out _ _ _ B3.out K3.out M3.out) ?_
 rintro e w4 ⟨a,c,rfl,hr,hb⟩
 have Hr:=hd_ hr
 have B4:=hd_ (B3.out.trans (hb.mono B3.out.size))
 clear hr hb Hc B2 K2 B3 K3 M3
 go_wp2_with fail
 go_ret2
 exact ⟨a,c,rfl,Hr.out,B4.out⟩
theorem sub_gen (w:World) (ps:List Int) (a0 a1 a2:Option Addr) (c0 c1 c2:Nat) (la lb:List Rat) (rp:Rd w a0 (ints ps)) (hi:I64s ps) (hp:pcode ps=0) (r1:Rd w a1 (cellsQ la)) (r2:Rd w a2 (cellsQ lb)) (l1:la.length=ps.length) (l2:lb.length=ps.length)
  (s1:∀ q∈la,Sm 30 q) (s2:∀ q∈lb,Sm 30 q) (L:Laid w) :
  GivesC 114 #[.slice a0 ps.length c0,.slice a1 la.length c1,.slice a2 lb.length c2] w (sumCode (sumQ ps.length [la,lb] [1,(((-1):Int):Rat)])) (sumQ ps.length [la,lb] [1,(((-1):Int):Rat)]):=by
 obtain ⟨u,hu⟩:∃ q:Rat,q=1:=⟨_,rfl⟩
 obtain ⟨v,hv⟩:∃ q:Rat,q=(((-1):Int):Rat):=⟨_,rfl⟩
 rw [← hv,← hu]
 have Hc:Hid (∀ W g1 g2,Below w.heap.size w W→W.heap[g1]?=some (.cells #[.slice a1 la.length c1,.slice a2 lb.length c2] 47 (0,0))→W.heap[g2]?=some (.cells #[.string (itx u.num),.string (dec u.den),.string (itx v.num),.string (dec v.den)] 58 (0,0)) →
   GivesC 86 #[.slice a0 ps.length c0,.slice (some ⟨g1,0,none⟩) 2 2,.slice (some ⟨g2,0,none⟩) 2 2] W (sumCode (sumQ ps.length [la,lb] [u,v])) (sumQ ps.length [la,lb] [u,v])):=fun W g1 g2 hW h1 h2 =>
  (combine_fine W a0 _ _ c0 2 2 ps [la,lb] [u,v] (rp.below hW nr_) hi hp (rdl_two (l1:=la.map qs) (l2:=lb.map qs) (by rw [List.length_map,List.length_map]; exact h1) (r1.below hW nr_) (r2.below hW nr_)) (by simp)
   (by intro l hl; simp only [List.mem_cons,List.not_mem_nil,or_false] at hl; rcases hl with rfl | rfl; exact ⟨l1,s1⟩; exact ⟨l2,s2⟩) (rd_obj h2) rfl
   (by intro q hq; simp only [List.mem_cons,List.not_mem_nil,or_false] at hq; rcases hq with rfl | rfl; subst hu; exact Sm.le (D:=1) ⟨by decide +kernel,by decide +kernel⟩ (by decide); subst hv; exact Sm.le (D:=2) ⟨by decide +kernel,by decide +kernel⟩ (by decide)) (L.below hW)).code
 have N1:Hid (∀ W,Below w.heap.size w W→Gives Tryz.prog 79 #[.int .i64 1] W (fr u)):=fun W hW=>by subst hu; exact numberR W 1 (by decide) (by decide) (L.below hW)
 have N2:Hid (∀ W,Below w.heap.size w W→Gives Tryz.prog 79 #[.int .i64 (-1)] W (fr v)):=fun W hW=>by subst hv; exact numberR W (-1) (by decide) (by decide) (L.below hW)
 unfold fr fv at N1 N2
 unfold GivesC at Hc ⊢
 clear hu hv rp hi hp r1 r2 l1 l2 s1 s2 L
 generalize sumQ ps.length [la,lb] [u,v]=S at *
 generalize sumCode S=code at *
 generalize (if code=0 then S.length else 0)=z at *
 generalize ps.length=n at *
 generalize la.length=na at *
 generalize lb.length=nb at *
 have B0:=hd_ ((Below.refl w.heap.size w).alloc nr_ (.cells #[.slice a1 na c1,.slice a2 nb c2] 47))
 have K0:=hd_ (heap_at w #[.slice a1 na c1,.slice a2 nb c2] 47 _ rfl)
 go_enter Tryz.func114,Tryz.ntmps114
 go_wp2_with fail
 generalize w.alloc (.cells #[.slice a1 na c1,.slice a2 nb c2] 47)=w0 at *
 refine cm_ (N1.out _ B0.out) ?_
 rintro e w1 ⟨rfl,hb⟩
 have B1:=hd_ (B0.out.trans (hb.mono B0.out.size))
 have K1:=hd_ (heap_kept K0.out hb nr_)
 clear hb B0 K0
 go_wp2_with fail
 refine cm_ (N2.out _ B1.out) ?_
 rintro e w2 ⟨rfl,hb⟩
 have B2:=hd_ (B1.out.trans (hb.mono B1.out.size))
 have K2:=hd_ (heap_kept K1.out hb nr_)
 clear hb B1 K1 N1 N2
 go_wp2_with fail
 have B3:=hd_ (B2.out.alloc B2.out.size (.cells #[.string (itx u.num),.string (dec u.den),.string (itx v.num),.string (dec v.den)] 58))
 have K3:=hd_ (heap_old K2.out (.cells #[.string (itx u.num),.string (dec u.den),.string (itx v.num),.string (dec v.den)] 58))
 have M3:=hd_ (heap_at w2 #[.string (itx u.num),.string (dec u.den),.string (itx v.num),.string (dec v.den)] 58 _ rfl)
 generalize w2.alloc (.cells #[.string (itx u.num),.string (dec u.den),.string (itx v.num),.string (dec v.den)] 58)=w3 at *
 refine cm_ (Hc.out _ _ _ B3.out K3.out M3.out) ?_
 rintro e w4 ⟨a,c,rfl,hr,hb⟩
 have Hr:=hd_ hr
 have B4:=hd_ (B3.out.trans (hb.mono B3.out.size))
 clear hr hb Hc B2 K2 B3 K3 M3
 go_wp2_with fail
 go_ret2
 exact ⟨a,c,rfl,Hr.out,B4.out⟩
end Go.Proofs.YtkoicfghplmghaaGreatDoor

namespace Go.Proofs.YtkoicfghplmghaaGreatDoor
open Go.RowKit
theorem sumQ_two (n:Nat) (la lb:List Rat) (f g:Rat) (h1:la.length=n) (h2:lb.length=n):sumQ n [la,lb] [f,g]=combineQ la lb f g:=by
 show addTo (addTo (List.replicate n 0) la f) lb g=_
 refine List.ext_getElem (by simp [addTo,combineQ,h1,h2]) fun i hi1 hi2=>?_
 simp only [addTo,combineQ,List.getElem_zipWith,List.getElem_replicate,Rat.zero_add]
theorem combineQ_sm {la lb:List Rat} {f g:Rat} {D E F G:Nat} (h1:∀ q∈la,Sm D q) (h2:∀ q∈lb,Sm E q) (hf:Sm F f) (hg:Sm G g):∀ q∈combineQ la lb f g,Sm ((D + F) + (E + G) + 1) q:=by
 intro q hq
 obtain ⟨i,hi,rfl⟩:=List.mem_iff_getElem.1 hq
 simp only [combineQ,List.getElem_zipWith]
 have hi':i < la.length∧i < lb.length:=by simp [combineQ] at hi; omega
 exact Sm.add (Sm.mul (h1 _ (List.getElem_mem hi'.1)) hf) (Sm.mul (h2 _ (List.getElem_mem hi'.2)) hg)
theorem shortAll_sm {l:List Rat} {D:Nat} (h:∀ q∈l,Sm D q) (hD:D≤30):shortAll l=true:=by
 unfold shortAll
 rw [List.all_eq_true]
 intro q hq
 exact decide_eq_true ((h q hq).le hD)
theorem sm_one:Sm 1 (1:Rat):=⟨by decide +kernel,by decide +kernel⟩
theorem sm_mone:Sm 1 (((-1:Int):Rat)):=⟨by decide +kernel,by decide +kernel⟩
theorem sumCode_small (la lb:List Rat) (g:Rat) (h1:∀ q∈la,Sm 2 q) (h2:∀ q∈lb,Sm 2 q) (hg:Sm 1 g):sumCode (combineQ la lb 1 g)=0:=by
 unfold sumCode
 rw [if_pos (shortAll_sm (combineQ_sm h1 h2 sm_one hg) (by decide))]
end Go.Proofs.YtkoicfghplmghaaGreatDoor

namespace Go.Proofs.YtkoicfghplmghaaGreatDoor
open Go.RowKit
def Sml (N M:Nat) (l:List Rat):Prop:=∀ q∈l,q.den ∣ M∧(LN.ex M q).natAbs≤N
theorem Sml.le {N K M:Nat} {l:List Rat} (h:Sml N M l) (hK:N≤K):Sml K M l:=fun q hq=>⟨(h q hq).1,Nat.le_trans (h q hq).2 hK⟩
theorem ex_den {M:Nat} {q:Rat} (z:Int) (hM:0 < M) (h:q * (M:Rat)=(z:Rat)):q.den ∣ M∧LN.ex M q=z:=by
 have hM':(M:Rat)≠0:=by have:=Rat.natCast_pos.2 hM; grind
 have e:q=mkRat z M:=by
  rw [Rat.mkRat_eq_div]
  have:=Rat.mul_div_cancel (a:=q) hM'
  rw [← h]; exact this.symm
 have hd:q.den ∣ M:=by
  rw [e,LN.mkRat_den' _ _ (by omega)]
  exact Nat.div_dvd_of_dvd (Nat.gcd_dvd_right _ _)
 refine ⟨hd,?_⟩
 rw [← Rat.intCast_inj,LN.ex_eq hd,h]
theorem Sml.comb {N K M:Nat} {la lb:List Rat} (hM:0 < M) (ha:Sml N M la) (hb:Sml K M lb) (f g:Int):Sml (N * f.natAbs + K * g.natAbs) M (combineQ la lb (f:Rat) (g:Rat)):=by
 intro q hq
 obtain ⟨i,hi,rfl⟩:=List.mem_iff_getElem.1 hq
 have hi':i < la.length∧i < lb.length:=by simp [combineQ] at hi; omega
 simp only [combineQ,List.getElem_zipWith]
 obtain ⟨d1,n1⟩:=ha _ (List.getElem_mem hi'.1)
 obtain ⟨d2,n2⟩:=hb _ (List.getElem_mem hi'.2)
 have h:(la[i]'hi'.1 * (f:Rat) + lb[i]'hi'.2 * (g:Rat)) * (M:Rat)=((LN.ex M (la[i]'hi'.1) * f + LN.ex M (lb[i]'hi'.2) * g:Int):Rat):=by
  rw [Rat.intCast_add,Rat.intCast_mul,Rat.intCast_mul,LN.ex_eq d1,LN.ex_eq d2]
  grind
 obtain ⟨r1,r2⟩:=ex_den _ hM h
 refine ⟨r1,?_⟩
 rw [r2]
 refine Nat.le_trans (Int.natAbs_add_le _ _) ?_
 rw [Int.natAbs_mul,Int.natAbs_mul]
 exact Nat.add_le_add (Nat.mul_le_mul_right _ n1) (Nat.mul_le_mul_right _ n2)
theorem Sml.good {N M:Nat} {ps:List Int} {l:List Rat} (hM:0 < M) (h:Sml N M l) (hN:N≤Kb) (h1:∀ p∈ps,p∈smallP) (h2:ps.Nodup):Good ps l:=by
 refine Good.small h1 h2 fun x hx=>?_
 obtain ⟨_,q,hq,_,he⟩:=tlist_mem hx
 have e:x.2=LN.ex (tden l) q:=he
 obtain ⟨m,hm⟩:=LN.tden_min (fun q hq=>(h q hq).1)
 have h3:=(h q hq).2
 rw [hm,Nat.mul_comm,LN.ex_mul (LN.tden_dvd hq),Int.natAbs_mul,Int.natAbs_natCast] at h3
 have hm0:0 < m:=by
  rcases Nat.eq_zero_or_pos m with h0 | h0
  ·rw [h0,Nat.mul_zero] at hm; omega
  ·exact h0
 rw [e]
 have h4:1 * (LN.ex (tden l) q).natAbs≤m * (LN.ex (tden l) q).natAbs:=Nat.mul_le_mul_right _ hm0
 omega
def difQ (la lb:List Rat):List Rat:=combineQ la lb ((1:Int):Rat) ((-1:Int):Rat)
theorem difQ_get (la lb:List Rat) (i:Nat) (h1:i < la.length) (h2:i < lb.length) (h:i < (difQ la lb).length):(difQ la lb)[i]=la[i] - lb[i]:=by
 simp only [difQ,combineQ,List.getElem_zipWith]
 grind
theorem difQ_length (la lb:List Rat) (h:la.length=lb.length):(difQ la lb).length=la.length:=combineQ_length _ _ _ _ h
theorem sz_swap {ps:List Int} (hp:∀ p∈ps,0 < p) {la lb:List Rat} (h:la.length=lb.length):LN.sz ps (difQ lb la) = - LN.sz ps (difQ la lb):=by
 rw [← LN.sz_neg hp]
 congr 1
 refine List.ext_getElem (by simp [difQ_length,h]) fun i h1 h2=>?_
 have i1:i < la.length:=by simp [difQ_length,h] at h2; omega
 rw [difQ_get lb la i (by omega) i1 h1,List.getElem_map,difQ_get la lb i i1 (by omega)]
 grind
theorem sz_same {ps:List Int} (hp:∀ p∈ps,0 < p) (la:List Rat):LN.sz ps (difQ la la)=0:=by
 refine LN.sz_zero hp fun q hq=>?_
 obtain ⟨i,hi,rfl⟩:=List.mem_iff_getElem.1 hq
 have i1:i < la.length:=by rw [difQ_length _ _ rfl] at hi; exact hi
 rw [difQ_get la la i i1 i1]
 grind
theorem sz_ne {ps:List Int} {l:List Rat} (g:Good ps l) (hn:ps.length≤100) (hl:l.length=ps.length) (h:∃ q∈l,q≠0):LN.sz ps l≠0:=by
 have hne:tlQ ps l≠[]:=by
  obtain ⟨q,hq,h0⟩:=h
  obtain ⟨i,hi,rfl⟩:=List.mem_iff_getElem.1 hq
  intro e
  have hm:(ps[i]'(by omega),l[i].num * ((tden l / l[i].den:Nat):Int))∈tlQ ps l:=by
   unfold tlQ tlist
   refine List.mem_filterMap.2 ⟨(ps[i]'(by omega),l[i]),?_,?_⟩
   ·exact List.mem_iff_getElem.2 ⟨i,by simp; omega,by simp⟩
   ·rw [if_neg]
    intro hz
    exact h0 (Rat.num_eq_zero.1 hz)
  rw [e] at hm
  cases hm
 show LN.signT (tlQ ps l)≠0
 rcases g.dec hn hne with h | h
 ·rw [sign_of_lo g.trt (by decide) hne h]; decide
 ·rw [sign_of_hi g.trt (by decide) hne h]; decide
theorem sz_zero_iff {ps:List Int} (hp:∀ p∈ps,0 < p) {la lb:List Rat} (g:Good ps (difQ la lb)) (hn:ps.length≤100) (h1:la.length=ps.length) (h2:lb.length=ps.length):LN.sz ps (difQ la lb)=0↔la=lb:=by
 constructor
 ·intro h
  by_cases e:la=lb
  ·exact e
  ·exfalso
   refine sz_ne g hn (by rw [difQ_length _ _ (by omega)]; exact h1) ?_ h
   refine Classical.byContradiction fun hc=>e ?_
   refine List.ext_getElem (by omega) fun i i1 i2=>?_
   have hz:(difQ la lb)[i]'(by rw [difQ_length _ _ (by omega)]; exact i1)=0:=Classical.byContradiction fun hq=>hc ⟨_,List.getElem_mem _,hq⟩
   rw [difQ_get la lb i i1 i2] at hz
   grind
 ·rintro rfl; exact sz_same hp la
theorem dif_trans {la lb lc:List Rat} (h1:la.length=lb.length) (h2:lb.length=lc.length):difQ la lc=List.zipWith (· + ·) (difQ la lb) (difQ lb lc):=by
 refine List.ext_getElem (by simp [difQ_length,h1,h2]) fun i i1 i2=>?_
 have j1:i < la.length:=by rw [difQ_length _ _ (by omega)] at i1; exact i1
 rw [difQ_get la lc i j1 (by omega),List.getElem_zipWith,difQ_get la lb i j1 (by omega),difQ_get lb lc i (by omega) (by omega)]
 grind
theorem sz_trans_le {ps:List Int} (hp:∀ p∈ps,0 < p) {la lb lc:List Rat} (h1:la.length=lb.length) (h2:lb.length=lc.length) (a:LN.sz ps (difQ la lb)≤0) (b:LN.sz ps (difQ lb lc)≤0):LN.sz ps (difQ la lc)≤0 :=
 LN.sz_add_le hp (by rw [difQ_length _ _ h1,difQ_length _ _ h2,h1]) (dif_trans h1 h2) a b
end Go.Proofs.YtkoicfghplmghaaGreatDoor

namespace Go.Proofs.YtkoicfghplmghaaGreatDoor
open Go.RowKit
end Go.Proofs.YtkoicfghplmghaaGreatDoor

namespace Go.Proofs.YtkoicfghplmghaaGreatDoor
open Go.RowKit
theorem Sml.kb {N M:Nat} {ps:List Int} {l:List Rat} (hM:0 < M) (h:Sml N M l):∀ x∈tlQ ps l,x.2.natAbs≤N:=by
 intro x hx
 obtain ⟨_,q,hq,_,he⟩:=tlist_mem hx
 have e:x.2=LN.ex (tden l) q:=he
 obtain ⟨m,hm⟩:=LN.tden_min (fun q hq=>(h q hq).1)
 have h3:=(h q hq).2
 rw [hm,Nat.mul_comm,LN.ex_mul (LN.tden_dvd hq),Int.natAbs_mul,Int.natAbs_natCast] at h3
 have hm0:0 < m:=by
  rcases Nat.eq_zero_or_pos m with h0 | h0
  ·rw [h0,Nat.mul_zero] at hm; omega
  ·exact h0
 rw [e]
 have h4:1 * (LN.ex (tden l) q).natAbs≤m * (LN.ex (tden l) q).natAbs:=Nat.mul_le_mul_right _ hm0
 omega
theorem Sml.den {N:Nat} {l:List Rat} (h:Sml N 12 l):tden l≤12:=Nat.le_of_dvd (by decide) (LN.tden_min (fun q hq=>(h q hq).1))
end Go.Proofs.YtkoicfghplmghaaGreatDoor

namespace Go.Proofs.YtkoicfghplmghaaGreatDoor
open Go.RowKit
/-! The numbers of the law. -/
end Go.Proofs.YtkoicfghplmghaaGreatDoor

namespace Go.Proofs.YtkoicfghplmghaaGreatDoor
open Go.RowKit
theorem elRow:ElemOf Tryz.prog 25 3 (.int .i64 0) 1 8:=⟨Tryz.underlying25,info_parts infoP,rfl,by decide⟩
def OwnI (w:World) (B:Nat) (a:Option Addr) (c:Nat) (l:List Int):Prop:=w.ownsRow B 3 1 (.slice a l.length c) l.length (ints l)
theorem OwnI.rd {w:World} {B c:Nat} {a:Option Addr} {l:List Int} (h:OwnI w B a c l):Rd w a (ints l):=own_rd h
theorem OwnI.below {w w':World} {B c:Nat} {a:Option Addr} {l:List Int} (h:OwnI w B a c l) {D:Nat} (hb:Below D w w') (hD:w.heap.size≤D):OwnI w' B a c l:=own_below h hb hD
theorem OwnI.nil (w:World) (B:Nat):OwnI w B none 0 []:=World.ownsRow_nil w B _ 1
def Xs (xs:List Int):Prop:=∀ x∈xs,-1000≤x∧x≤1000
theorem mx_ok:∀ l:List Int,Xs l→mx l=0
 | [],_=>rfl
 | x :: l,h=>by
  have hx:=h x List.mem_cons_self
  rw [mx,if_neg (by omega)]
  exact mx_ok l fun y hy=>h y (List.mem_cons_of_mem _ hy)
theorem mrow_ok {n:Nat} {l:List Int} (h:Xs l) (hl:l.length=n):mrow n l=0:=by
 unfold mrow
 rw [if_pos hl,mx_ok l h]
theorem mcode_one {ps xs:List Int} (hp:pcode ps=0) (h1:Xs xs) (l1:xs.length=ps.length):mcode1 ps xs=0:=by
 unfold mcode1 mcode
 rw [if_pos hp,mgo,if_pos (mrow_ok h1 l1),mgo]
theorem rdi_two {w:World} {g:Nat} {a1 a2:Option Addr} {c1 c2:Nat} {r s:List Int} {t:TypeId} (h:w.heap[g]?=some (.cells #[.slice a1 r.length c1,.slice a2 s.length c2] t (0,0))) (h1:Rd w a1 (ints r)) (h2:Rd w a2 (ints s)):RdI w (some ⟨g,0,none⟩) [r,s]:=by
 obtain ⟨k0,k1⟩:w.cell? ⟨g,0,none⟩=some (.slice a1 r.length c1)∧w.cell? ⟨g,1,none⟩=some (.slice a2 s.length c2):=⟨by rw [cell_of_row w g 0 _ t (0,0) h]; rfl,by rw [cell_of_row w g 1 _ t (0,0) h]; rfl⟩
 refine .inr ⟨g,0,rfl,(Array.getElem?_eq_some_iff.1 h).1,fun i hi=>?_⟩
 match i,hi with
 | 0,_=>exact ⟨a1,c1,k0,h1⟩
 | 1,_=>exact ⟨a2,c2,k1,h2⟩
end Go.Proofs.YtkoicfghplmghaaGreatDoor

namespace Go.Proofs.YtkoicfghplmghaaGreatDoor
open Go.RowKit
end Go.Proofs.YtkoicfghplmghaaGreatDoor

namespace Go.Proofs.YtkoicfghplmghaaGreatDoor
open Go.RowKit
theorem ex_one (x:Int):LN.ex 1 (x:Rat)=x:=by
 unfold LN.ex
 rw [Rat.num_intCast,Rat.den_intCast]
 simp
end Go.Proofs.YtkoicfghplmghaaGreatDoor

namespace Go.Proofs.YtkoicfghplmghaaGreatDoor
open Go.RowKit
theorem isPz_all {n:Int} (h:IsPz n):n∈allP:=by
 obtain ⟨h0,h1⟩:=h
 obtain ⟨m,rfl⟩:=Int.eq_ofNat_of_zero_le h0
 rw [Int.toNat_natCast] at h1
 have key:∀ m,m < 98→IsP m→(m:Int)∈allP:=by decide +kernel
 exact key m (by have:=h1.2.1; omega) h1
theorem pgo_all:∀ (ps:List Int) (prev:Option Int),pgo prev ps=0→(∀ p∈ps,p∈allP)∧ps.Nodup∧∀ m,prev=some m→∀ p∈ps,m < p
 | [],_,_=>⟨by simp,List.nodup_nil,by simp⟩
 | n :: l,prev,h=>by
  unfold pgo at h
  split at h
  ·cases h
  ·rename_i h1
   have h1:IsPz n:=Classical.not_not.1 h1
   split at h
   ·cases h
   ·rename_i h2
    obtain ⟨a,b,c⟩:=pgo_all l (some n) h
    refine ⟨fun p hp=>?_,List.nodup_cons.2 ⟨fun hm=>?_,b⟩,fun m hm p hp=>?_⟩
    ·rcases List.mem_cons.1 hp with rfl | hp
     ·exact isPz_all h1
     ·exact a p hp
    ·exact absurd (c n rfl n hm) (Int.lt_irrefl n)
    ·subst hm
     have h3:m < n:=by simpa using h2
     rcases List.mem_cons.1 hp with rfl | hp
     ·exact h3
     ·exact Int.lt_trans h3 (c n rfl p hp)
theorem allP_le {p:Int} (h:p∈allP):2≤p∧p≤97:=by
 have key:∀ q∈allP,2≤q∧q≤97:=by decide
 exact key p h
structure PrOk (ps:List Int):Prop where
 p0:pcode ps=0
 all:∀ p∈ps,p∈allP
 nd:ps.Nodup
 n0:0 < ps.length
 n6:ps.length≤6
theorem prOk_of {ps:List Int} (h:pcode ps=0):PrOk ps:=by
 have h6:=pcode_pos h
 have h2:pgo none ps=0:=by
  unfold pcode at h
  rw [if_neg (by omega),if_neg (by omega)] at h
  exact h
 obtain ⟨a,b,_⟩:=pgo_all ps none h2
 exact ⟨h,a,b,h6.1,h6.2⟩
theorem PrOk.pr {ps:List Int} (P:PrOk ps):∀ p∈ps,2≤p∧p≤97:=fun p hp=>allP_le (P.all p hp)
theorem PrOk.pos {ps:List Int} (P:PrOk ps):∀ p∈ps,0 < p:=fun p hp=>by have:=P.pr p hp; omega
theorem PrOk.i64 {ps:List Int} (P:PrOk ps):I64s ps:=fun p hp=>by have:=P.pr p hp; omega
def rq (x:List Int):List Rat:=x.map fun x:Int=>(x:Rat)
theorem rq_length (x:List Int):(rq x).length=x.length:=by simp [rq]
def subI (x y:List Int):List Int:=List.zipWith (fun a b=>a - b) x y
theorem subI_length {x y:List Int} (h:x.length=y.length):(subI x y).length=x.length:=by simp [subI,h]
theorem difQ_rq {x y:List Int} (h:x.length=y.length):difQ (rq x) (rq y)=rq (subI x y):=by
 refine List.ext_getElem (by rw [difQ_length _ _ (by simp [rq,h]),rq_length,rq_length,subI_length h]) fun i h1 h2=>?_
 have i1:i < x.length:=by rw [difQ_length _ _ (by simp [rq,h]),rq_length] at h1; exact h1
 rw [difQ_get _ _ i (by rw [rq_length]; exact i1) (by rw [rq_length]; omega)]
 simp only [rq,subI,List.getElem_map,List.getElem_zipWith]
 rw [Rat.intCast_sub]
def Bd (N:Nat) (x:List Int):Prop:=∀ a∈x,a.natAbs≤N
theorem Bd.le {N K:Nat} {x:List Int} (h:Bd N x) (hK:N≤K):Bd K x:=fun a ha=>Nat.le_trans (h a ha) hK
theorem Bd.sml {N:Nat} {x:List Int} (h:Bd N x):Sml N 1 (rq x):=fun q hq=>by
 obtain ⟨a,ha,rfl⟩:=List.mem_map.1 hq
 refine ⟨by rw [Rat.den_intCast]; exact Nat.dvd_refl 1,?_⟩
 rw [ex_one]
 exact h a ha
theorem Bd.sm {N D:Nat} {x:List Int} (h:Bd N x) (hD:N < 10 ^ D) (h1:1 < 10 ^ D):∀ q∈rq x,Sm D q:=fun q hq=>by
 obtain ⟨a,ha,rfl⟩:=List.mem_map.1 hq
 exact ⟨by rw [Rat.num_intCast]; exact Nat.lt_of_le_of_lt (h a ha) hD,by rw [Rat.den_intCast]; exact h1⟩
theorem Xs.bd {x:List Int} (h:Xs x):Bd 1000 x:=fun a ha=>by have:=h a ha; omega
theorem Bd.sub {N K:Nat} {x y:List Int} (h:Bd N x) (k:Bd K y):Bd (N + K) (subI x y):=fun a ha=>by
 obtain ⟨i,hi,rfl⟩:=List.mem_iff_getElem.1 ha
 have hi':i < x.length∧i < y.length:=by simp [subI] at hi; omega
 simp only [subI,List.getElem_zipWith]
 have h1:=h _ (List.getElem_mem hi'.1)
 have h2:=k _ (List.getElem_mem hi'.2)
 omega
theorem Sml.goodA {N M:Nat} {ps:List Int} {l:List Rat} (hM:0 < M) (h:Sml N M l) (hN:N≤Ke) (P:PrOk ps):Good ps l :=
 Good.all P.all P.nd fun x hx=>Nat.le_trans (h.kb hM x hx) hN
theorem Bd.good {N:Nat} {x ps:List Int} (h:Bd N x) (hN:N≤Ke) (P:PrOk ps):Good ps (rq x):=(h.sml).goodA (by decide) hN P
def unitI (n:Nat):List Int:=(List.replicate n 0).set 0 1
theorem unitI_length (n:Nat):(unitI n).length=n:=by simp [unitI]
theorem unitI_succ (n:Nat):unitI (n + 1)=1 :: List.replicate n 0:=by simp [unitI,List.replicate_succ]
theorem unitI_bd (n:Nat):Bd 1 (unitI n):=fun a ha=>by
 cases n with
 | zero=>simp [unitI] at ha
 | succ n =>
  rw [unitI_succ] at ha
  rcases List.mem_cons.1 ha with rfl | ha
  ·decide
  ·obtain ⟨_,rfl⟩:=List.mem_replicate.1 ha
   decide
end Go.Proofs.YtkoicfghplmghaaGreatDoor

namespace Go.Proofs.YtkoicfghplmghaaGreatDoor
open Go.RowKit
theorem infoRw:(Tryz.prog.info? 25).map (fun i=>(i.zero,i.size,i.bytes))=some (some (.slice none 0 0),1,24):=by kernel_rfl
theorem elRw:ElemOf Tryz.prog 26 25 (.slice none 0 0) 1 24:=⟨Tryz.underlying26,info_parts infoRw,rfl,by decide⟩
structure RowV (w:World) (V:List Value) (ls:List (List Int)):Prop where
 len:V.length=ls.length
 at_:∀ i,i < ls.length→∃ a' c',V[i]?=some (.slice a' (ls.getD i []).length c')∧Rd w a' (ints (ls.getD i []))
theorem RowV.below {w w':World} {V:List Value} {ls:List (List Int)} {B:Nat} (h:RowV w V ls) (hb:Below B w w') (hB:w.heap.size≤B):RowV w' V ls :=
 ⟨h.len,fun i hi=>by obtain ⟨a',c',h1,h2⟩:=h.at_ i hi; exact ⟨a',c',h1,h2.below hb hB⟩⟩
theorem RowV.nil (w:World):RowV w [] []:=⟨rfl,fun i hi=>absurd hi (Nat.not_lt_zero i)⟩
theorem RowV.append {w:World} {V V':List Value} {ls ls':List (List Int)} (h:RowV w V ls) (k:RowV w V' ls'):RowV w (V ++ V') (ls ++ ls'):=by
 refine ⟨by simp [h.len,k.len],fun i hi=>?_⟩
 by_cases hi1:i < ls.length
 ·obtain ⟨a',c',h1,h2⟩:=h.at_ i hi1
  have e:(ls ++ ls').getD i []=ls.getD i []:=by rw [List.getD_eq_getElem?_getD,List.getD_eq_getElem?_getD,List.getElem?_append_left hi1]
  rw [e]
  exact ⟨a',c',by rw [List.getElem?_append_left (by rw [h.len]; exact hi1)]; exact h1,h2⟩
 ·rw [List.length_append] at hi
  obtain ⟨a',c',h1,h2⟩:=k.at_ (i - ls.length) (by omega)
  have e:(ls ++ ls').getD i []=ls'.getD (i - ls.length) []:=by rw [List.getD_eq_getElem?_getD,List.getD_eq_getElem?_getD,List.getElem?_append_right (by omega)]
  rw [e]
  exact ⟨a',c',by rw [List.getElem?_append_right (by rw [h.len]; omega),h.len]; exact h1,h2⟩
theorem RowV.one {w:World} {V:List Value} {ls:List (List Int)} (h:RowV w V ls):∀ u∈V,u.oneCell'=true:=fun u hu=>by
 obtain ⟨i,hi,rfl⟩:=List.mem_iff_getElem.1 hu
 obtain ⟨a',c',h1,_⟩:=h.at_ i (by rw [← h.len]; exact hi)
 rw [List.getElem?_eq_getElem hi] at h1
 rw [Option.some.inj h1]; rfl
theorem RowV.rdi {w:World} {a:Option Addr} {V:List Value} {ls:List (List Int)} (h:RowV w V ls) (r:Rd w a V):RdI w a ls:=by
 rcases r with r | ⟨b,off,rfl,hb,hc⟩
 ·left
  have:=h.len
  rw [r] at this
  exact List.eq_nil_of_length_eq_zero this.symm
 ·refine .inr ⟨b,off,rfl,hb,fun i hi=>?_⟩
  obtain ⟨a',c',h1,h2⟩:=h.at_ i hi
  exact ⟨a',c',hc i _ h1,h2⟩
theorem RdI.vals {w:World} {a:Option Addr} {ls:List (List Int)} (h:RdI w a ls):∃ V,RowV w V ls∧Rd w a V:=by
 rcases h with rfl | ⟨b,off,rfl,hb,hc⟩
 ·exact ⟨[],RowV.nil w,.inl rfl⟩
 ·refine ⟨(List.range ls.length).map fun i=>(w.cell? ⟨b,off + i,none⟩).getD (.slice none 0 0),⟨by simp,fun i hi=>?_⟩,.inr ⟨b,off,rfl,hb,fun i v hv=>?_⟩⟩
  ·obtain ⟨a',c',h1,h2⟩:=hc i hi
   refine ⟨a',c',?_,h2⟩
   rw [List.getElem?_map,List.getElem?_range hi,Option.map_some,h1]; rfl
  ·have hi:i < ls.length:=by
    have:=(List.getElem?_eq_some_iff.1 hv).1
    simpa using this
   obtain ⟨a',c',h1,h2⟩:=hc i hi
   rw [List.getElem?_map,List.getElem?_range hi,Option.map_some,h1] at hv
   rw [h1,← Option.some.inj hv]; rfl
theorem own_cut0 {w:World} {B n c size:Nat} {e:TypeId} {a:Option Addr} {xs:List Value} (h:w.ownsRow B e size (.slice a n c) n xs) (h0:0 < n):w.ownsRow B e size (.slice a 0 c) 0 []:=by
 rcases h.2 with ⟨_,hz⟩ | ⟨g,cap,cur,hv,hb,hg,hc,hm,hs,_⟩
 ·omega
 ·simp only [Value.slice.injEq] at hv
  obtain ⟨rfl,-,rfl⟩:=hv
  exact ⟨by simp,.inr ⟨g,c,cur,rfl,hb,hg,Nat.zero_le _,hm,hs,by simp⟩⟩
theorem wpList_append_rd {P:Program} {w:World} {ops:Array Oper} {rest:List Oper} {o:Oper} {a:Act} {Q:Exit→Act→World→Prop} (hgd:o.guard=none) (s x:Operand) (t:TypeId)
  (ho:o.op = .call { callee := .builtin .append,args := #[s,x],argTypes := #[t,t] }) {e:TypeId} {z:Value} {bytes:Nat} (E:ElemOf P t e z 1 bytes)
  (v:Value) (hs:a.eval s=v) {base n:Nat} {xs:List Value} (hown:w.ownsRow base e 1 v n xs) (ad:Option Addr) (m c:Nat) (V:List Value) (hx:a.eval x = .slice ad m c) (hnil:ad=none→m=0∧c=0) (hl:V.length=m) (hr:Rd w ad V) (h1:∀ u∈V,u.oneCell'=true)
  (h63:n + m≤4611686018427387904) (hbytes:(n + m) * bytes≤140737488355328) (hbase:base≤w.heap.size)
  (h:∀ v' w',w'.ownsRow base e 1 v' (n + m) (xs ++ V)→w.grownBy w' v.ownBlock→wpList P ops Q rest (a.put o.dst v') w'):wpList P ops Q (o :: rest) a w:=by
 obtain ⟨i,hi,hz,hsize,hby⟩:=E.info
 match ad,hr,hnil with
 | none,hr,hnil =>
  obtain ⟨rfl,rfl⟩:=hnil rfl
  obtain rfl:V=[]:=List.eq_nil_of_length_eq_zero hl
  refine wpList_append_own_none hgd s x t ho base e i 1 E.ht hi v n xs hs hown hx ?_
  exact h v w (by simpa using hown) ⟨rfl,rfl,rfl,Nat.le_refl _,fun _ _ _=>rfl⟩
 | some ad,hr,_ =>
  refine wpList_append_own _ hgd s x t ho base e i z 1 bytes E.ht hi hz hsize hby E.hzs E.pos v n xs hs hown ad m c V hx (by omega) ?_ h1 (by unfold maxLen; omega) hbytes hbase fun v' w' h2 h3 _=>h v' w' h2 h3
  intro j u hj
  rcases hr with rfl | ⟨b,off,hb,_,hc⟩
  ·simp at hj
  ·obtain rfl:=Option.some.inj hb
   have:=hc j u hj
   have hadd:(⟨b,off,none⟩:Addr).add j=⟨b,off + j,none⟩:=by unfold Addr.add; split <;> simp_all
   rw [hadd]; exact this
theorem grow_any (w:World) (n:Nat) (hn:n≤2000) :
  Calls Tryz.prog 184 #[.slice none 0 0,.int .i64 n] w fun e w'=>∃ a c,e = .returned (.slice a 0 c)∧w'.ownsRow w.heap.size 25 1 (.slice a 0 c) 0 []∧Below w.heap.size w w':=by
 rcases Nat.eq_zero_or_pos n with rfl | h0
 ·go_enter Tryz.func184,Tryz.ntmps184
  go_wp2_with fail
  go_ret
  exact ⟨none,0,rfl,World.ownsRow_nil ..,Below.refl _ _⟩
 ·have h0':(0:Int) < n:=by omega
  have hw1:IntKind.i64.wrap ((n:Int) - 0)=n:=iw_ _ (by omega)
  go_enter Tryz.func184,Tryz.ntmps184
  go_wp2_with (at_builtin; refine wpList_append_zeros rfl (.tmp 20) (.tmp 21) 26 3 rfl elRw rfl rfl Tryz.underlying3 (.slice none 0 0) n rfl rfl (World.ownsRow_nil w w.heap.size _ 1) nr_ (by omega) (by omega) ?_)
  intro v' w1 hown hg _
  obtain ⟨a,c,rfl⟩:=own_form hown
  have O:=hd_ (own_cut0 hown h0)
  have B:Hid (Below w.heap.size w w1):=(Below.refl _ _).grown hg nr_ (fun k hk=>by simp [Value.ownBlock] at hk)
  obtain ⟨g,cap,hv,-,-,hcap,-,-⟩:=own_open hown h0
  simp only [Value.slice.injEq] at hv
  obtain ⟨rfl,-,rfl⟩:=hv
  clear hown hg
  go_wp2_with fail
  go_ret
  exact ⟨_,_,rfl,O.out,B.out⟩
def Nil0 (a:Option Addr) (n c:Nat):Prop:=a=none→n=0∧c=0
theorem concat2_any (w:World) (g:Nat) (a1 a2:Option Addr) (c1 c2:Nat) (l1 l2:List (List Int)) (hg:w.heap[g]?=some (.cells #[.slice a1 l1.length c1,.slice a2 l2.length c2] 26 (0,0)))
  (r1:RdI w a1 l1) (r2:RdI w a2 l2) (n1:Nil0 a1 l1.length c1) (n2:Nil0 a2 l2.length c2) (h1:l1.length≤1000) (h2:l2.length≤1000) :
  Calls Tryz.prog 147 #[.slice (some ⟨g,0,none⟩) 2 2] w fun e w'=>∃ a c,e = .returned (.slice a (l1.length + l2.length) c)∧RdI w' a (l1 ++ l2)∧Below w.heap.size w w':=by
 obtain ⟨V1,W1,R1⟩:=r1.vals
 obtain ⟨V2,W2,R2⟩:=r2.vals
 have HR1:=hd_ R1
 have HR2:=hd_ R2
 have HL1:=hd_ W1.len
 have HL2:=hd_ W2.len
 have HO1:=hd_ W1.one
 have HO2:=hd_ W2.one
 have HN1:=hd_ n1
 have HN2:=hd_ n2
 have HW:Hid (RowV w (V1 ++ V2) (l1 ++ l2)):=W1.append W2
 have Hg:=hd_ hg
 have HGr:Hid (∀ W,Calls Tryz.prog 184 #[.slice none 0 0,.int .i64 (l1.length + l2.length:Nat)] W fun e w'=>∃ a c,e = .returned (.slice a 0 c)∧w'.ownsRow W.heap.size 25 1 (.slice a 0 c) 0 []∧Below W.heap.size W w'):=fun W=>grow_any W _ (by omega)
 have k0:w.cell? ⟨g,0,none⟩=some (.slice a1 l1.length c1):=by rw [cell_of_row w g 0 _ _ (0,0) hg]; rfl
 have k1:w.cell? ⟨g,1,none⟩=some (.slice a2 l2.length c2):=by rw [cell_of_row w g 1 _ _ (0,0) hg]; rfl
 have hgs:=(Array.getElem?_eq_some_iff.1 hg).1
 clear hg r1 r2 n1 n2 W1 W2 R1 R2
 generalize l1.length=m1 at *
 generalize l2.length=m2 at *
 have hw1:IntKind.i64.wrap ((0:Int) + m1)=m1:=by rw [Int.zero_add]; exact iw_ _ (by omega)
 have hw2:IntKind.i64.wrap ((m1:Int) + m2)=((m1 + m2:Nat):Int):=by rw [← Int.natCast_add]; exact iw_ _ (by omega)
 have hs2:¬ (((m1 + m2:Nat):Int) < 0):=by omega
 go_enter Tryz.func147,Tryz.ntmps147
 go_wp2_with fail
 go_loopw [3,11] (fun s i wr=>((i = .int .i64 0∧s = .int .i64 0)∨(i = .int .i64 1∧s = .int .i64 m1)∨(i = .int .i64 2∧s = .int .i64 (m1 + m2:Nat)))∧Hid (Below w.heap.size w wr)) (fun _ i _=>2 - (intOf i).toNat)
 case atStart=>exact ⟨.inl ⟨rfl,rfl⟩,Below.refl _ _⟩
 case round =>
  obtain ⟨h,HB0⟩:=hrel
  have z0:=(HB0.out.cell (p:=⟨g,0,none⟩) hgs).trans k0
  have z1:=(HB0.out.cell (p:=⟨g,1,none⟩) hgs).trans k1
  clear k0 k1
  rcases h with ⟨rfl,rfl⟩ | ⟨rfl,rfl⟩ | ⟨rfl,rfl⟩
  ·clear HGr z1
   go_wp2
   go_roundw
   case rel=>exact ⟨.inr (.inl ⟨rfl,by first | rfl | (rw [hw1])⟩),HB0⟩
   case measure=>simp [intOf]
  ·clear HGr z0
   go_wp2
   go_roundw
   case rel=>exact ⟨.inr (.inr ⟨rfl,by first | rfl | (rw [hw2])⟩),HB0⟩
   case measure=>simp [intOf]
  ·obtain ⟨wo,hwo⟩:∃ wo:World,wo=wr:=⟨_,rfl⟩
   subst hwo
   go_wp2_with fail
   refine cm_ (HGr.out _) ?_
   rintro e w1 ⟨a,c,rfl,ho,hb⟩
   have O:=hd_ ho
   have B:=hd_ hb
   have hsz0:=HB0.out.size
   have hgo:=Nat.lt_of_lt_of_le hgs hsz0
   clear ho hb HGr
   go_wp2_with fail
   go_loopw [6,27] (fun v i wr=>((∃ a c,i = .int .i64 0∧v = .slice a 0 c∧Hid (wr.ownsRow wo.heap.size 25 1 (.slice a 0 c) 0 []))∨(∃ a c,i = .int .i64 1∧v = .slice a m1 c∧Hid (wr.ownsRow wo.heap.size 25 1 (.slice a m1 c) m1 V1))∨(∃ a c,i = .int .i64 2∧v = .slice a (m1 + m2) c∧Hid (wr.ownsRow wo.heap.size 25 1 (.slice a (m1 + m2) c) (m1 + m2) (V1 ++ V2))))∧Hid (Below wo.heap.size wo wr)) (fun _ i _=>2 - (intOf i).toNat)
   case atStart=>exact ⟨.inl ⟨a,c,rfl,rfl,O⟩,B⟩
   case round =>
    clear O B
    obtain ⟨h,HB⟩:=hrel
    have q0:=(HB.out.cell (p:=⟨g,0,none⟩) hgo).trans z0
    have q1:=(HB.out.cell (p:=⟨g,1,none⟩) hgo).trans z1
    clear z0 z1
    rcases h with ⟨a,c,rfl,rfl,HO⟩ | ⟨a,c,rfl,rfl,HO⟩ | ⟨a,c,rfl,rfl,HO⟩
    ·clear q1
     go_wp2_with (at_builtin; refine wpList_append_rd rfl (.tmp 31) (.tmp 32) 26 rfl elRw _ rfl HO.out a1 m1 c1 V1 rfl HN1.out HL1.out (HR1.out.below (HB0.out.trans (HB.out.mono hsz0)) nr_) HO1.out (by omega) (by omega) HB.out.size ?_)
     intro v' w3 hown hg3
     obtain ⟨a3,c3,rfl⟩:=own_form hown
     have B3:Hid (Below wo.heap.size wo w3):=HB.out.grown hg3 HB.out.size (fun kk hk=>(HO.out.lt kk hk).1)
     have O3:=hd_ hown
     clear hown hg3 HB HO
     go_wp2
     go_roundw
     case rel=>exact ⟨.inr (.inl ⟨a3,c3,rfl,rfl,O3⟩),B3⟩
     case measure=>simp [intOf]
    ·clear q0
     go_wp2_with (at_builtin; refine wpList_append_rd rfl (.tmp 31) (.tmp 32) 26 rfl elRw _ rfl HO.out a2 m2 c2 V2 rfl HN2.out HL2.out (HR2.out.below (HB0.out.trans (HB.out.mono hsz0)) nr_) HO2.out (by omega) (by omega) HB.out.size ?_)
     intro v' w3 hown hg3
     obtain ⟨a3,c3,rfl⟩:=own_form hown
     have B3:Hid (Below wo.heap.size wo w3):=HB.out.grown hg3 HB.out.size (fun kk hk=>(HO.out.lt kk hk).1)
     have O3:=hd_ hown
     clear hown hg3 HB HO
     go_wp2
     go_roundw
     case rel=>exact ⟨.inr (.inr ⟨a3,c3,rfl,rfl,O3⟩),B3⟩
     case measure=>simp [intOf]
    ·clear q0 q1
     have hrow:=own_rd HO.out
     have hR:=HW.out.below (HB0.out.trans (HB.out.mono hsz0)) nr_
     have HRd:Hid (RdI wr a (l1 ++ l2)):=hR.rdi hrow
     clear hrow hR
     go_wp2_with fail
     go_ret
     exact ⟨a,c,rfl,HRd.out,HB0.out.trans (HB.out.mono hsz0)⟩
def ocode (ps:List Int) (l more:List (List Int)):Int:=if pcode ps=0 then (if 600 < l.length then 4 else mgo ps.length (l ++ more)) else pcode ps
theorem open_any (w:World) (a0 a1 a2:Option Addr) (c0 c1 c2:Nat) (ps:List Int) (l more:List (List Int)) (hp:Rd w a0 (ints ps)) (hi:I64s ps) (hl0:ps.length≤1000000)
  (r1:RdI w a1 l) (r2:RdI w a2 more) (n1:Nil0 a1 l.length c1) (n2:Nil0 a2 more.length c2) (h1:l.length≤4611686018427387904) (h2:more.length≤1000) (hl2:∀ x∈l ++ more,x.length≤1000000) :
  Gives Tryz.prog 93 #[.slice a0 ps.length c0,.slice a1 l.length c1,.slice a2 more.length c2] w (.int .i64 (ocode ps l more)):=by
 unfold Gives
 have H1:=hd_ (primeCheck_any w a0 c0 ps hp hi hl0)
 have Hv:Hid (ocode ps l more=if pcode ps=0 then (if 600 < l.length then 4 else mgo ps.length (l ++ more)) else pcode ps):=rfl
 have HC:Hid (¬ 600 < l.length→∀ W g,Below w.heap.size w W→W.heap[g]?=some (.cells #[.slice a1 l.length c1,.slice a2 more.length c2] 26 (0,0))→Calls Tryz.prog 147 #[.slice (some ⟨g,0,none⟩) 2 2] W fun e w'=>∃ a c,e = .returned (.slice a (l.length + more.length) c)∧RdI w' a (l ++ more)∧Below W.heap.size W w'):=fun h W g hW hg =>
  concat2_any W g a1 a2 c1 c2 l more hg (r1.below hW nr_) (r2.below hW nr_) n1 n2 (by omega) h2
 have HM:Hid (¬ 600 < l.length→pcode ps=0→∀ W a c,Below w.heap.size w W→RdI W a (l ++ more)→Gives Tryz.prog 71 #[.slice a0 ps.length c0,.slice a (l.length + more.length) c] W (.int .i64 (mgo ps.length (l ++ more)))):=fun h h0 W a c hW hr=>by
  have:=monCheckAll_any W a0 a c0 c ps (l ++ more) (hp.below hW nr_) hi hl0 hr (by rw [List.length_append]; omega) hl2
  rw [List.length_append] at this
  unfold mcode at this
  rw [if_pos h0] at this
  exact this
 clear hp hi r1 r2 n1 n2 hl2
 generalize ocode ps l more=v at *
 generalize mgo ps.length (l ++ more)=mg at *
 generalize pcode ps=p at *
 generalize ps.length=n at *
 generalize hlm:l.length=m at *
 generalize hmm:more.length=k at *
 by_cases h0:p=0
 ·subst h0
  rw [if_pos rfl] at Hv
  by_cases h6:600 < m
  ·have h6':(600:Int) < m:=by omega
   rw [if_pos h6] at Hv
   clear HC HM
   go_enter Tryz.func93,Tryz.ntmps93
   go_wp2_with fail
   refine cm_ H1.out ?_
   rintro e w1 ⟨rfl,hb⟩
   have B:=hd_ hb
   clear hb H1
   go_wp2
   go_ret
   exact ⟨by rw [Hv.out]; rfl,B.out⟩
  ·have h6':¬ (600:Int) < m:=by omega
   rw [if_neg h6] at Hv
   have HC':=hd_ (HC.out h6)
   have HM':=hd_ (HM.out h6 rfl)
   clear HC HM
   go_enter Tryz.func93,Tryz.ntmps93
   go_wp2_with fail
   refine cm_ H1.out ?_
   rintro e w1 ⟨rfl,hb⟩
   have B:=hd_ hb
   clear hb H1
   go_wp2_with fail
   have B1:=hd_ (B.out.alloc B.out.size (.cells #[.slice a1 m c1,.slice a2 k c2] 26))
   refine cm_ (HC'.out _ _ B1.out (heap_at w1 _ _ _ rfl)) ?_
   rintro e w2 ⟨a,c,rfl,hr,hb⟩
   have R2:=hd_ hr
   have B2:=hd_ (B1.out.trans (hb.mono B1.out.size))
   clear hb hr HC' B B1
   go_wp2_with fail
   refine cm_ (HM'.out _ _ _ B2.out R2.out) ?_
   rintro e w3 ⟨rfl,hb⟩
   have B3:=hd_ (B2.out.trans (hb.mono B2.out.size))
   clear hb HM' B2 R2
   go_wp2
   go_ret
   exact ⟨by rw [Hv.out]; rfl,B3.out⟩
 ·have hp0:(p == 0)=false:=by rw [beq_eq_false_iff_ne]; exact h0
  rw [if_neg h0] at Hv
  clear HC HM h0
  go_enter Tryz.func93,Tryz.ntmps93
  go_wp2_with fail
  refine cm_ H1.out ?_
  rintro e w1 ⟨rfl,hb⟩
  have B:=hd_ hb
  clear hb H1
  go_wp2
  go_ret
  exact ⟨by rw [Hv.out]; rfl,B.out⟩
end Go.Proofs.YtkoicfghplmghaaGreatDoor

namespace Go.Proofs.YtkoicfghplmghaaGreatDoor
open Go.RowKit
def ResI (w:World) (n:Nat) (l:List Int) (e:Ending):Prop:=(mx l=0∧∃ a c,e = .returned (.tuple #[.slice a n c,.int .i64 0])∧Rd w a (ints l))∨(mx l≠0∧e = .returned (.tuple #[.slice none 0 0,.int .i64 4]))
theorem ResI.form {w:World} {n:Nat} {l:List Int} {e:Ending} (h:ResI w n l e):∃ v1 v2,e = .returned (.tuple #[v1,v2]):=by
 rcases h with ⟨_,a,c,h,_⟩ | ⟨_,h⟩
 ·exact ⟨_,_,h⟩
 ·exact ⟨_,_,h⟩
theorem mx_zero:∀ {l:List Int},mx l=0↔Xs l
 | []=>⟨fun _ x hx=>(by cases hx),fun _=>rfl⟩
 | x :: l=>by
  constructor
  ·intro h
   unfold mx at h
   split at h
   ·cases h
   ·intro y hy
    rcases List.mem_cons.1 hy with rfl | hy
    ·omega
    ·exact mx_zero.1 h y hy
  ·exact mx_ok _
theorem mx_two (l:List Int):mx l=0∨mx l=4:=by
 induction l with
 | nil=>exact .inl rfl
 | cons x l ih =>
  unfold mx
  split
  ·exact .inr rfl
  ·exact ih
end Go.Proofs.YtkoicfghplmghaaGreatDoor

namespace Go.Proofs.YtkoicfghplmghaaGreatDoor
open Go.RowKit
def Ok (c:Nat→Nat→Int) (u v:Nat):Prop:=0≤c v u∧(c v u=0→u < v)
structure Srt (c:Nat→Nat→Int) (n i:Nat) (F:Nat→Nat):Prop where
 lt:∀ k,k < n→F k < n
 inj:∀ k m,k < n→m < n→F k=F m→k=m
 hi:∀ k,i≤k→k < n→F k=k
 lo:∀ k,k < i→F k < i
 adj:∀ k,k + 1 < i→Ok c (F k) (F (k + 1))
structure Ins (c:Nat→Nat→Int) (n i j:Nat) (F:Nat→Nat):Prop where
 lt:∀ k,k < n→F k < n
 inj:∀ k m,k < n→m < n→F k=F m→k=m
 x:F j=i
 hi:∀ k,i < k→k < n→F k=k
 lo:∀ k,k≤i→F k≤i
 a1:∀ k,k + 1 < j→Ok c (F k) (F (k + 1))
 a2:∀ k,j < k→k + 1≤i→Ok c (F k) (F (k + 1))
 a3:∀ k,k + 1=j→j < i→Ok c (F k) (F (j + 1))
 a4:j < i→Ok c i (F (j + 1))
 ji:j≤i
 n:i < n
theorem Srt.first (c:Nat→Nat→Int) (n:Nat):Srt c n 1 fun k=>k :=
 ⟨fun _ h=>h,fun _ _ _ _ h=>h,fun _ _ _=>rfl,fun _ h=>h,fun _ h=>by omega⟩
theorem Srt.start {c:Nat→Nat→Int} {n i:Nat} {F:Nat→Nat} (h:Srt c n i F) (hi:i < n):Ins c n i i F :=
 ⟨h.lt,h.inj,h.hi i nr_ hi,fun k h1 h2=>h.hi k (by omega) h2,fun k hk=>by
  rcases Nat.lt_or_ge k i with h1 | h1
  ·exact Nat.le_of_lt (h.lo k h1)
  ·have:k=i:=by omega
   rw [this,h.hi i nr_ hi]; exact Nat.le_refl _,h.adj,fun k h1 h2=>by omega,fun k h1 h2=>by omega,fun h1=>by omega,Nat.le_refl _,hi⟩
theorem Ins.stop {c:Nat→Nat→Int} {n i j:Nat} {F:Nat→Nat} (h:Ins c n i j F) (hs:j=0∨0≤c (F j) (F (j - 1))):Srt c n (i + 1) F:=by
 refine ⟨h.lt,h.inj,fun k h1 h2=>h.hi k (by omega) h2,fun k hk=>Nat.lt_succ_of_le (h.lo k (by omega)),fun k hk=>?_⟩
 have hji:=h.ji
 have hn:=h.n
 rcases Nat.lt_trichotomy (k + 1) j with h1 | h1 | h1
 ·exact h.a1 k h1
 ·rcases hs with h0 | h0
  ·omega
  ·have e:j - 1=k:=by omega
   rw [e] at h0
   rw [h1]
   refine ⟨h0,fun _=>?_⟩
   have hx:=h.x
   have h2:=h.lo k (by omega)
   have h3:F k≠F j:=fun e=>by have:=h.inj k j (by omega) (by omega) e; omega
   omega
 ·rcases Nat.lt_or_ge j k with h2 | h2
  ·exact h.a2 k h2 (by omega)
  ·have e:k=j:=by omega
   subst e
   rw [h.x]
   exact h.a4 (by omega)
def swF (F:Nat→Nat) (j:Nat):Nat→Nat:=fun k=>if k=j then F (j + 1) else if k=j + 1 then F j else F k
theorem Ins.swap {c:Nat→Nat→Int} (hc:∀ u v,c v u = - c u v) {n i j:Nat} {F:Nat→Nat} (h:Ins c n i (j + 1) F) (hs:c (F (j + 1)) (F j) < 0):Ins c n i j (swF F j):=by
 have hji:=h.ji
 have hn:=h.n
 have hx:=h.x
 have s1:swF F j j=i:=by unfold swF; rw [if_pos rfl]; exact hx
 have s2:swF F j (j + 1)=F j:=by unfold swF; rw [if_neg (by omega),if_pos rfl]
 have s3:∀ k,k≠j→k≠j + 1→swF F j k=F k:=fun k h1 h2=>by unfold swF; rw [if_neg h1,if_neg h2]
 refine ⟨fun k hk=>?_,fun k m hk hm e=>?_,s1,fun k h1 h2=>?_,fun k hk=>?_,fun k hk=>?_,fun k h1 h2=>?_,fun k h1 h2=>?_,fun h1=>?_,by omega,hn⟩
 ·unfold swF
  split
  ·exact h.lt _ (by omega)
  ·split
   ·exact h.lt _ (by omega)
   ·exact h.lt _ hk
 ·unfold swF at e
  by_cases k1:k=j
  ·by_cases m1:m=j
   ·omega
   ·rw [if_pos k1,if_neg m1] at e
    by_cases m2:m=j + 1
    ·rw [if_pos m2] at e
     have:=h.inj _ _ (by omega) (by omega) e
     omega
    ·rw [if_neg m2] at e
     have:=h.inj _ _ (by omega) hm e
     omega
  ·rw [if_neg k1] at e
   by_cases k2:k=j + 1
   ·rw [if_pos k2] at e
    by_cases m1:m=j
    ·rw [if_pos m1] at e
     have:=h.inj _ _ (by omega) (by omega) e
     omega
    ·rw [if_neg m1] at e
     by_cases m2:m=j + 1
     ·omega
     ·rw [if_neg m2] at e
      have:=h.inj _ _ (by omega) hm e
      omega
   ·rw [if_neg k2] at e
    by_cases m1:m=j
    ·rw [if_pos m1] at e
     have:=h.inj _ _ hk (by omega) e
     omega
    ·rw [if_neg m1] at e
     by_cases m2:m=j + 1
     ·rw [if_pos m2] at e
      have:=h.inj _ _ hk (by omega) e
      omega
     ·rw [if_neg m2] at e
      exact h.inj _ _ hk hm e
 ·rw [s3 k (by omega) (by omega)]; exact h.hi k h1 h2
 ·unfold swF
  split
  ·omega
  ·split
   ·exact h.lo _ (by omega)
   ·exact h.lo _ hk
 ·rw [s3 k (by omega) (by omega),s3 (k + 1) (by omega) (by omega)]
  exact h.a1 k (by omega)
 ·rcases Nat.lt_or_ge (j + 1) k with h3 | h3
  ·rw [s3 k (by omega) (by omega),s3 (k + 1) (by omega) (by omega)]
   exact h.a2 k h3 h2
  ·have e:k=j + 1:=by omega
   subst e
   rw [s2,s3 (j + 1 + 1) (by omega) (by omega)]
   exact h.a3 j rfl (by omega)
 ·subst h1
  rw [s3 k (by omega) (by omega),s2]
  exact h.a1 k (by omega)
 ·rw [s2,← hx]
  have e:=hc (F (j + 1)) (F j)
  exact ⟨by omega,fun h0=>by omega⟩
structure RowF (W:World) (g n:Nat) (F:Nat→Nat):Prop where
 lt:g < W.heap.size
 cell:∀ k,k < n→W.cell? ⟨g,k,none⟩=some (.int .i64 (F k:Nat))
 fr:∀ k,W.frozen? ⟨g,k,none⟩=false
theorem RowF.below {W W':World} {g n D:Nat} {F:Nat→Nat} (h:RowF W g n F) (hb:Below D W W') (hD:W.heap.size≤D):RowF W' g n F:=by
 have hlt:=h.lt
 have e:=hb.block g (by omega)
 have hs:=hb.size
 refine ⟨?_,fun k hk=>?_,fun k=>?_⟩
 ·have h2:=Array.getElem?_eq_some_iff.1 (show W.heap[g]?=some W.heap[g] from Array.getElem?_eq_getElem hlt)
  rw [Array.getElem?_eq_getElem hlt] at e
  exact (Array.getElem?_eq_some_iff.1 e).1
 ·rw [hb.cell (p:=⟨g,k,none⟩) (show g < D by omega)]
  exact h.cell k hk
 ·have:=h.fr k
  unfold World.frozen? at this ⊢
  rw [show W'.heap[(⟨g,k,none⟩:Addr).block]?=W.heap[(⟨g,k,none⟩:Addr).block]? from e]
  exact this
end Go.Proofs.YtkoicfghplmghaaGreatDoor

namespace Go.Proofs.YtkoicfghplmghaaGreatDoor
open Go.RowKit
theorem RowF.swap {W:World} {g n:Nat} {F:Nat→Nat} (h:RowF W g n F) (j:Nat) (hj:j + 1 < n) :
  RowF ((W.setCell ⟨g,j + 1,none⟩ (.int .i64 (F j:Nat))).setCell ⟨g,j,none⟩ (.int .i64 (F (j + 1):Nat))) g n (swF F j):=by
 have h0:=h.cell j (by omega)
 have h1:=h.cell (j + 1) hj
 have ne:∀ a b:Nat,a≠b→(⟨g,a,none⟩:Addr)≠⟨g,b,none⟩:=fun a b hab e=>by cases e; exact hab rfl
 refine ⟨by simpa using h.lt,fun k hk=>?_,fun k=>?_⟩
 ·unfold swF
  by_cases k1:k=j
  ·subst k1
   rw [if_pos rfl]
   exact World.cell?_setCell_same _ _ _ (u := .int .i64 (F k:Nat)) (by rw [World.cell?_setCell_other _ _ _ _ (ne _ _ (by omega))]; exact h0)
  ·rw [if_neg k1,World.cell?_setCell_other _ _ _ _ (ne _ _ (fun e=>k1 e.symm))]
   by_cases k2:k=j + 1
   ·subst k2
    rw [if_pos rfl]
    exact World.cell?_setCell_same _ _ _ h1
   ·rw [if_neg k2,World.cell?_setCell_other _ _ _ _ (ne _ _ (fun e=>k2 e.symm))]
    exact h.cell k hk
 ·have:=h.fr k
  simpa using this
structure Fin' (c:Nat→Nat→Int) (n:Nat) (F:Nat→Nat):Prop where
 lt:∀ k,k < n→F k < n
 inj:∀ k m,k < n→m < n→F k=F m→k=m
 adj:∀ k,k + 1 < n→Ok c (F k) (F (k + 1))
theorem insertion_any (w:World) (B g n cap:Nat) (P2 P3:Value) (c:Nat→Nat→Int) (hc:∀ u v,c v u = - c u v) (hb:∀ u v,-1≤c u v∧c u v≤1) (hB:B≤g) (hn:n≤1000) (hrow:RowF w g n fun k=>k)
  (hcmp:∀ W,Below B w W→∀ i j:Nat,i < n→j < n→Gives Tryz.prog 118 #[.int .i64 i,.int .i64 j,P2,P3] W (.int .i64 (c i j))) :
  Calls Tryz.prog 182 #[.slice (some ⟨g,0,none⟩) n cap,.int .i64 0,.int .i64 n,.func (.func 118) #[] #[P2,P3]] w fun e w'=>e = .returned (.tuple #[])∧∃ F,Fin' c n F∧RowF w' g n F∧Below B w w':=by
 have Hc:=hd_ hc
 have Hb:=hd_ hb
 have Hcmp:=hd_ hcmp
 have Hrow:=hd_ hrow
 clear hc hb hcmp hrow
 go_enter Tryz.func182,Tryz.ntmps182
 go_wp2_with fail
 go_loopw [8] (fun z wr=>∃ (i:Nat) (F:Nat→Nat),1≤i∧z = .int .i64 i∧Hid (Srt c n i F)∧Hid (RowF wr g n F)∧Hid (Below B w wr)) (fun z _=>n - (intOf z).toNat)
 case atStart=>exact ⟨1,fun k=>k,Nat.le_refl _,rfl,Srt.first c n,Hrow.out,Below.refl _ _⟩
 case round =>
  obtain ⟨i,F,hi1,rfl,HS,HR,HB⟩:=hrel
  clear Hrow
  by_cases hlt:i < n
  ·have hlt':(i:Int) < n:=by omega
   go_wp2_with fail
   go_loopw [9] (fun z wr=>∃ (j:Nat) (F:Nat→Nat),j≤i∧z = .int .i64 j∧Hid (Ins c n i j F)∧Hid (RowF wr g n F)∧Hid (Below B w wr)) (fun z _=>(intOf z).toNat)
   case atStart=>exact ⟨i,F,Nat.le_refl _,rfl,HS.out.start hlt,HR.out,HB.out⟩
   case round =>
    clear HS HR HB
    obtain ⟨j,F,hji,rfl,HI,HR,HB⟩:=hrel
    rcases Nat.eq_zero_or_pos j with h0 | h0
    ·subst h0
     have HS2:=hd_ (HI.out.stop (.inl rfl))
     go_wp2_with fail
     go_quiet (fail)
     go_wp2
     go_roundw
     case rel=>exact ⟨i + 1,F,by omega,by go_num,HS2.out,HR.out.below (below_dn (Below.refl wr.heap.size wr) _) nr_,below_dn HB.out _⟩
     case measure=>simp [intOf]; omega
    ·obtain ⟨p,rfl⟩:∃ p,j=p + 1:=⟨j - 1,by omega⟩
     have hBs:B≤wr.heap.size:=Nat.le_trans hB (Nat.le_of_lt HR.out.lt)
     have k1:=HR.out.cell (p + 1) (by omega)
     have k0:=HR.out.cell p (by omega)
     have Hcall:=hd_ fun W hW=>Hcmp.out W hW (F (p + 1)) (F p) (HI.out.lt _ (by omega)) (HI.out.lt _ (by omega))
     have hcb:=Hb.out (F (p + 1)) (F p)
     have q1:=BW.cell k1
     have q0:=BW.cell k0
     have hnon:Nonempty (BW wr):=⟨⟨wr,Below.refl _ _⟩⟩
     have I:Hid (Below wr.heap.size wr wr.drew):=(Below.refl _ _).drew
     have hpi:(p:Int) + 1 < n:=by omega
     have hpi0:(p:Int) < n:=by omega
     go_wp2_with fail
     clear k0 k1
     refine RY.wp_region_readers 14 [(1,0),(1,1),(1,2),(1,3),(1,4),(1,5),(1,6),(1,7),(1,8),(1,9),(1,10),(1,11),(1,12),(1,13),(0,14),(2,15),(0,16)] (fun w'=>∃ p:BW wr,w'=p.w) (by kernel_rfl) (by kernel_rfl) ?_ ?_
     ·exact ⟨⟨_,I.out⟩,rfl⟩
     iterate 14 (refine RY.walkR_read ?_; simp only [dsc_,dz_,tsc_,tz_]; go_big_quiet_step (fail); refine wpQuiet_nil ?_)
     clear hnon q0 q1
     refine RY.walkR_move ?_
     simp only [dsc_,dz_,tsc_,tz_]
     go_wp2_with fail
     refine cm_ (Hcall.out _ (HB.out.trans (I.out.mono hBs))) ?_
     rintro e_ w2 ⟨rfl,hb_⟩
     have D:Hid (Below wr.heap.size wr w2):=I.out.trans (hb_.mono I.out.size)
     have HR2:=hd_ (HR.out.below D.out nr_)
     have HB2:=hd_ (HB.out.trans (D.out.mono hBs))
     clear hb_ I D Hcall HR HB
     by_cases hneg:c (F (p + 1)) (F p) < 0
     ·have HI2:=hd_ (HI.out.swap Hc.out hneg)
      have HR3:=hd_ (HR2.out.swap p (by have:=HI.out.n; omega))
      have HB3:=hd_ ((HB2.out.setCell (p:=⟨g,p + 1,none⟩) hB (.int .i64 (F p:Nat))).setCell (p:=⟨g,p,none⟩) hB (.int .i64 (F (p + 1):Nat)))
      have k1:=HR2.out.cell (p + 1) (by omega)
      have k0:=HR2.out.cell p (by omega)
      have f1:=HR2.out.fr (p + 1)
      have f0:=HR2.out.fr p
      generalize F (p + 1)=x at *
      generalize F p=y at *
      generalize c x y=z at *
      go_wp2_with fail
      refine RY.walkR_any ?_
      simp only [dsc_,dz_,tsc_,tz_]
      go_big_quiet_step (fail)
      refine wpQuiet_nil ?_
      refine RY.walkR_move ?_
      simp only [dsc_,dz_,tsc_,tz_]
      go_wp2_with fail
      simp only [RY.walkR]
      go_wp2_with fail
      go_region
      go_wp2
      go_roundw
      case rel=>exact ⟨p,_,by omega,rfl,HI2.out,HR3.out.below (Below.refl _ _).drew nr_,HB3.out.drew⟩
      case measure=>simp [intOf]
     ·have HS2:=hd_ (HI.out.stop (.inr (by rw [Nat.add_sub_cancel]; omega)))
      generalize F (p + 1)=x at *
      generalize F p=y at *
      generalize c x y=z at *
      go_wp2_with fail
      refine RY.walkR_any ?_
      simp only [dsc_,dz_,tsc_,tz_]
      go_big_quiet_step (fail)
      refine wpQuiet_nil ?_
      refine RY.walkR_move ?_
      simp only [dsc_,dz_,tsc_,tz_]
      go_wp2_with fail
      simp only [RY.walkR]
      go_wp2
      go_roundw
      case rel=>exact ⟨i + 1,F,by omega,by go_num,HS2.out,HR2.out,HB2.out⟩
      case measure=>simp [intOf]; omega
  ·have hlt':¬ (i:Int) < n:=by omega
   go_wp2
   go_end0
   exact ⟨rfl,F,⟨HS.out.lt,HS.out.inj,fun k hk=>HS.out.adj k (by omega)⟩,HR.out,HB.out⟩
end Go.Proofs.YtkoicfghplmghaaGreatDoor

namespace Go.Proofs.YtkoicfghplmghaaGreatDoor
open Go.RowKit Go.Proofs.YtkoicfghplmghaaGreatDoor.RY
structure AddFacts (w:World) (ps:List Int) (la lb:List Rat) (s t:ByteArray):Prop where
 hi:I64s ps
 hp:pcode ps=0
 l1:la.length=ps.length
 l2:lb.length=ps.length
 s1:∀ q∈la,Sm 2 q
 s2:∀ q∈lb,Sm 2 q
 hs:s.size≤45
 ht:t.size≤45
 L:Laid w
theorem AddFacts.add {w W:World} {ps:List Int} {la lb:List Rat} {s t:ByteArray} (H:AddFacts w ps la lb s t) (hW:Below w.heap.size w W) {a0 a1 a2:Option Addr} (c0 c1 c2:Nat) (rp:Rd W a0 (ints ps)) (r1:Rd W a1 (cellsQ la)) (r2:Rd W a2 (cellsQ lb)) :
  Calls Tryz.prog 54 #[.slice a0 ps.length c0,.slice a1 ps.length c1,.slice a2 ps.length c2] W fun e w'=>∃ a c,e = .returned (.tuple #[.slice a ps.length c,.int .i64 0])∧Rd w' a (cellsQ (combineQ la lb 1 1))∧Below W.heap.size W w':=by
 have h:=add_gen W ps a0 a1 a2 c0 c1 c2 la lb rp H.hi H.hp r1 r2 H.l1 H.l2 (fun q hq=>(H.s1 q hq).le (by decide)) (fun q hq=>(H.s2 q hq).le (by decide)) (H.L.below hW)
 rw [show (((1:Int):Rat))=1 from rfl,sumQ_two _ _ _ _ _ H.l1 H.l2,sumCode_small la lb 1 H.s1 H.s2 sm_one,H.l1,H.l2] at h
 unfold GivesC at h
 rw [if_pos rfl,combineQ_length _ _ _ _ (H.l1.trans H.l2.symm),H.l1] at h
 refine cm_ h ?_
 rintro e w' ⟨a,c,rfl,hr,hb⟩
 exact ⟨a,c,rfl,hr rfl,hb⟩
theorem AddFacts.sub {w W:World} {ps:List Int} {la lb:List Rat} {s t:ByteArray} (H:AddFacts w ps la lb s t) (hW:Below w.heap.size w W) {a0 a1 a2:Option Addr} (c0 c1 c2:Nat) (rp:Rd W a0 (ints ps)) (r1:Rd W a1 (cellsQ la)) (r2:Rd W a2 (cellsQ lb)) :
  Calls Tryz.prog 114 #[.slice a0 ps.length c0,.slice a1 ps.length c1,.slice a2 ps.length c2] W fun e w'=>∃ a c,e = .returned (.tuple #[.slice a ps.length c,.int .i64 0])∧Rd w' a (cellsQ (combineQ la lb 1 ((-1:Int):Rat)))∧Below W.heap.size W w':=by
 have h:=sub_gen W ps a0 a1 a2 c0 c1 c2 la lb rp H.hi H.hp r1 r2 H.l1 H.l2 (fun q hq=>(H.s1 q hq).le (by decide)) (fun q hq=>(H.s2 q hq).le (by decide)) (H.L.below hW)
 rw [sumQ_two _ _ _ _ _ H.l1 H.l2,sumCode_small la lb _ H.s1 H.s2 sm_mone,H.l1,H.l2] at h
 unfold GivesC at h
 rw [if_pos rfl,combineQ_length _ _ _ _ (H.l1.trans H.l2.symm),H.l1] at h
 refine cm_ h ?_
 rintro e w' ⟨a,c,rfl,hr,hb⟩
 exact ⟨a,c,rfl,hr rfl,hb⟩
end Go.Proofs.YtkoicfghplmghaaGreatDoor

namespace Go.Proofs.YtkoicfghplmghaaGreatDoor
open Go.RowKit
theorem rat_one_int:((1:Int):Rat)=1:=rfl
theorem rat_mone_int:((-1:Int):Rat) = -1:=by decide +kernel
theorem sz_cases {ps:List Int} (hp:∀ p∈ps,0 < p) (l:List Rat):LN.sz ps l=1∨LN.sz ps l=0∨LN.sz ps l = -1:=by
 rw [LN.sz_of_vt hp]; exact LN.sg_cases _
end Go.Proofs.YtkoicfghplmghaaGreatDoor

namespace Go.Proofs.YtkoicfghplmghaaGreatDoor
open Go.RowKit
theorem elIntS:ElemOf Tryz.prog 23 3 (.int .i64 0) 1 8:=⟨Tryz.underlying23,info_parts infoP,rfl,by decide⟩
structure SortAt (W:World) (ps:List Int) (g2 g3:Nat) (a0 al:Option Addr) (c0 cl:Nat) (LL:List (List Rat)):Prop where
 h2:W.heap[g2]?=some (.cells #[.slice a0 ps.length c0] 24 (0,0))
 h3:W.heap[g3]?=some (.cells #[.slice al LL.length cl] 53 (0,0))
 rp:Rd W a0 (ints ps)
 rl:RdL W al (LL.map (List.map qs))
theorem SortAt.below {W W':World} {ps:List Int} {g2 g3:Nat} {a0 al:Option Addr} {c0 cl:Nat} {LL:List (List Rat)} (h:SortAt W ps g2 g3 a0 al c0 cl LL) {D:Nat} (hb:Below D W W') (hD:W.heap.size≤D):SortAt W' ps g2 g3 a0 al c0 cl LL :=
 ⟨heap_kept h.h2 hb hD,heap_kept h.h3 hb hD,h.rp.below hb hD,h.rl.below hb hD⟩
structure SortOk (ps:List Int) (LL:List (List Rat)):Prop where
 p0:pcode ps=0
 pr:∀ p∈ps,2≤p∧p≤97
 pos:∀ p∈ps,0 < p
 n:ps.length≤100
 len:∀ l∈LL,l.length=ps.length
 sm:∀ l∈LL,∀ q∈l,Sm 30 q
 good:∀ a∈LL,∀ b∈LL,Good ps (difQ a b)
def cS (ps:List Int) (LL:List (List Rat)) (u v:Nat):Int:=if u < LL.length∧v < LL.length then LN.sz ps (difQ (LL.getD u []) (LL.getD v [])) else 0
theorem getD_memL {LL:List (List Rat)} {u:Nat} (h:u < LL.length):LL.getD u []∈LL:=by
 rw [List.getD_eq_getElem?_getD,List.getElem?_eq_getElem h]; exact List.getElem_mem h
theorem cS_neg {ps:List Int} {LL:List (List Rat)} (O:SortOk ps LL) (u v:Nat):cS ps LL v u = - cS ps LL u v:=by
 unfold cS
 by_cases h:u < LL.length∧v < LL.length
 ·rw [if_pos h,if_pos ⟨h.2,h.1⟩]
  exact sz_swap O.pos ((O.len _ (getD_memL h.1)).trans (O.len _ (getD_memL h.2)).symm)
 ·rw [if_neg h,if_neg (fun h2=>h ⟨h2.2,h2.1⟩)]; rfl
theorem cS_le {ps:List Int} {LL:List (List Rat)} (O:SortOk ps LL) (u v:Nat) : -1≤cS ps LL u v∧cS ps LL u v≤1:=by
 unfold cS
 split
 ·rcases sz_cases O.pos (difQ (LL.getD u []) (LL.getD v [])) with h | h | h <;> omega
 ·omega
theorem srt1_any (w:World) (ps:List Int) (g2 g3:Nat) (a0 al:Option Addr) (c0 cl:Nat) (LL:List (List Rat)) (S:SortAt w ps g2 g3 a0 al c0 cl LL) (O:SortOk ps LL) (i j:Nat) (hi:i < LL.length) (hj:j < LL.length) (L:Laid w) :
  Gives Tryz.prog 118 #[.int .i64 i,.int .i64 j,.pointer (some ⟨g2,0,none⟩),.pointer (some ⟨g3,0,none⟩)] w (.int .i64 (cS ps LL i j)):=by
 unfold Gives
 have e:sumQ ps.length [LL.getD i [],LL.getD j []] [1,-1]=difQ (LL.getD i []) (LL.getD j []):=by
  rw [sumQ_two _ _ _ _ _ (O.len _ (getD_memL hi)) (O.len _ (getD_memL hj))]
  unfold difQ
  rw [rat_one_int,rat_mone_int]
 obtain ⟨b,off,rfl,hb,hcells⟩:∃ b off,al=some ⟨b,off,none⟩∧b < w.heap.size∧∀ i,i < LL.length→∃ a' c',w.cell? ⟨b,off + i,none⟩=some (.slice a' ps.length c')∧Rd w a' (cellsQ (LL.getD i [])):=by
  rcases S.rl with h | ⟨b,off,h1,h2,h3⟩
  ·have:=congrArg List.length h
   simp at this
   rw [this] at hi
   simp at hi
  ·refine ⟨b,off,h1,h2,fun i hi=>?_⟩
   obtain ⟨a',c',k1,k2⟩:=h3 i (by simpa using hi)
   have e:(LL.map (List.map qs)).getD i []=(LL.getD i []).map qs:=by
    rw [List.getD_eq_getElem?_getD,List.getD_eq_getElem?_getD,List.getElem?_map]
    cases LL[i]? <;> rfl
   rw [e] at k1 k2
   rw [List.length_map,O.len _ (getD_memL hi)] at k1
   exact ⟨a',c',k1,k2⟩
 obtain ⟨a1,c1,k1,r1⟩:=hcells i hi
 obtain ⟨a2,c2,k2,r2⟩:=hcells j hj
 have HC:Hid (∀ W,Below w.heap.size w W→Gives Tryz.prog 119 #[.slice a0 ps.length c0,.slice a1 ps.length c1,.slice a2 ps.length c2] W (.int .i64 (cS ps LL i j))):=fun W hW=>by
  have h:=compare_dec W ps a0 a1 a2 c0 c1 c2 30 _ _ ⟨S.rp.below hW nr_,r1.below hW nr_,O.len _ (getD_memL hi),O.n,O.pr,O.sm _ (getD_memL hi),by decide⟩ ⟨S.rp.below hW nr_,r2.below hW nr_,O.len _ (getD_memL hj),O.n,O.pr,O.sm _ (getD_memL hj),by decide⟩ (L.below hW) (by decide)
   (by rw [e]; exact O.good _ (getD_memL hi) _ (getD_memL hj))
  rw [e,O.len _ (getD_memL hi),O.len _ (getD_memL hj)] at h
  unfold cS
  rw [if_pos ⟨hi,hj⟩]
  exact h
 have m2:=(one_cell S.h2).1
 have m3:=(one_cell S.h3).1
 have q1:=BW.cell k1
 have q2:=BW.cell k2
 have q3:=BW.cell m2
 have q4:=BW.cell m3
 have hnon:Nonempty (BW w):=⟨⟨w,Below.refl _ _⟩⟩
 have I:Hid (Below w.heap.size w w.drew):=(Below.refl _ _).drew
 have hi':(i:Int) < LL.length:=by omega
 have hj':(j:Int) < LL.length:=by omega
 clear S O L e hcells r1 r2 hb
 generalize cS ps LL i j=z at *
 generalize LL.length=m at *
 generalize ps.length=n at *
 go_enter Tryz.func118,Tryz.ntmps118
 go_wp2_with fail
 clear k1 k2 m2 m3
 refine RY.wp_region_readers 9 [(1,0),(1,1),(1,2),(1,3),(1,4),(1,5),(1,6),(1,7),(1,8),(0,9),(0,10)] (fun w'=>∃ p:BW w,w'=p.w) (by kernel_rfl) (by kernel_rfl) ?_ ?_
 ·exact ⟨⟨_,I.out⟩,rfl⟩
 iterate 9 (refine RY.walkR_read ?_; simp only [dsc_,dz_,tsc_,tz_]; go_big_quiet_step (fail); refine wpQuiet_nil ?_)
 clear hnon q1 q2 q3 q4
 refine RY.walkR_move ?_
 simp only [dsc_,dz_,tsc_,tz_]
 go_wp2_with fail
 refine cm_ (HC.out _ I.out) ?_
 rintro e_ w2 ⟨rfl,hb_⟩
 have B2:=hd_ (I.out.trans (hb_.mono I.out.size))
 clear hb_ I HC
 go_wp2_with fail
 refine RY.walkR_move ?_
 simp only [dsc_,dz_,tsc_,tz_]
 go_wp2_with fail
 simp only [RY.walkR]
 go_wp2_with fail
 go_ret
 exact ⟨rfl,B2.out⟩
theorem stable_any (w:World) (B g n cap:Nat) (P2 P3:Value) (c:Nat→Nat→Int) (hc:∀ u v,c v u = - c u v) (hb:∀ u v,-1≤c u v∧c u v≤1) (hB:B≤g) (hn:n≤19) (hrow:RowF w g n fun k=>k)
  (hcmp:∀ W,Below B w W→∀ i j:Nat,i < n→j < n→Gives Tryz.prog 118 #[.int .i64 i,.int .i64 j,P2,P3] W (.int .i64 (c i j))) :
  Calls Tryz.prog 90 #[.slice (some ⟨g,0,none⟩) n cap,.func (.func 118) #[] #[P2,P3]] w fun e w'=>e = .returned (.tuple #[])∧∃ F,Fin' c n F∧RowF w' g n F∧Below B w w':=by
 have Hi:=hd_ (insertion_any w B g n cap P2 P3 c hc hb hB (by omega) hrow hcmp)
 clear hc hb hrow hcmp
 have hn1:¬ (20:Int)≤n:=by omega
 have hn2:¬ (20:Int) < n:=by omega
 have H2:Hid (Calls Tryz.prog 146 #[.slice (some ⟨g,0,none⟩) n cap,.int .i64 n,.func (.func 118) #[] #[P2,P3]] w fun e w'=>e = .returned (.tuple #[])∧∃ F,Fin' c n F∧RowF w' g n F∧Below B w w'):=by
  show Calls _ _ _ _ _
  go_enter Tryz.func146,Tryz.ntmps146
  go_wp2_with fail
  refine wp_loop_rounds 1 ?_
  rw [rounds_succ]
  go_wp2_with fail
  refine cm_ Hi.out ?_
  rintro e w1 ⟨rfl,F,hF,hR,hb⟩
  have HF:=hd_ hF
  have HR:=hd_ hR
  have HB:=hd_ hb
  clear hF hR hb Hi
  go_wp2_with fail
  refine wp_loop_rounds 1 ?_
  rw [rounds_succ]
  go_wp2
  go_end0
  exact ⟨rfl,F,HF.out,HR.out,HB.out⟩
 clear Hi
 go_enter Tryz.func90,Tryz.ntmps90
 go_wp2_with fail
 refine cm_ H2.out ?_
 rintro e w1 ⟨rfl,F,hF,hR,hb⟩
 have HF:=hd_ hF
 have HR:=hd_ hR
 have HB:=hd_ hb
 clear hF hR hb H2
 go_wp2_with fail
 go_end0
 exact ⟨rfl,F,HF.out,HR.out,HB.out⟩
theorem stable_nil (w:World) (P2 P3:Value):Calls Tryz.prog 90 #[.slice none 0 0,.func (.func 118) #[] #[P2,P3]] w fun e w'=>e = .returned (.tuple #[])∧w'=w:=by
 have H1:Hid (Calls Tryz.prog 182 #[.slice none 0 0,.int .i64 0,.int .i64 0,.func (.func 118) #[] #[P2,P3]] w fun e w'=>e = .returned (.tuple #[])∧w'=w):=by
  show Calls _ _ _ _ _
  go_enter Tryz.func182,Tryz.ntmps182
  go_wp2_with fail
  refine wp_loop_rounds 1 ?_
  rw [rounds_succ]
  go_wp2
  go_end0
  exact ⟨rfl,rfl⟩
 have H2:Hid (Calls Tryz.prog 146 #[.slice none 0 0,.int .i64 0,.func (.func 118) #[] #[P2,P3]] w fun e w'=>e = .returned (.tuple #[])∧w'=w):=by
  show Calls _ _ _ _ _
  go_enter Tryz.func146,Tryz.ntmps146
  go_wp2_with fail
  refine wp_loop_rounds 1 ?_
  rw [rounds_succ]
  go_wp2_with fail
  refine cm_ H1.out ?_
  rintro e w1 ⟨rfl,rfl⟩
  go_wp2_with fail
  refine wp_loop_rounds 1 ?_
  rw [rounds_succ]
  go_wp2
  go_end0
  exact ⟨rfl,rfl⟩
 clear H1
 go_enter Tryz.func90,Tryz.ntmps90
 go_wp2_with fail
 refine cm_ H2.out ?_
 rintro e w1 ⟨rfl,rfl⟩
 go_wp2_with fail
 go_end0
 exact ⟨rfl,rfl⟩
end Go.Proofs.YtkoicfghplmghaaGreatDoor

namespace Go.Proofs.YtkoicfghplmghaaGreatDoor
open Go.RowKit
def idL (j:Nat):List Int:=(List.range j).map fun (k:Nat)=>(k:Int)
theorem idL_length (j:Nat):(idL j).length=j:=by simp [idL]
theorem idL_succ (j:Nat):idL (j + 1)=idL j ++ [(j:Int)]:=by simp [idL,List.range_succ]
theorem RowF.rd {W:World} {g n:Nat} {F:Nat→Nat} (h:RowF W g n F):Rd W (some ⟨g,0,none⟩) (ints ((List.range n).map fun (k:Nat)=>((F k:Nat):Int))):=by
 refine .inr ⟨g,0,rfl,h.lt,fun i v hv=>?_⟩
 rw [Nat.zero_add]
 have hi:i < n:=by
  have:=(List.getElem?_eq_some_iff.1 hv).1
  simpa [ints_length] using this
 rw [ints_get _ i (by simpa using hi)] at hv
 cases hv
 rw [h.cell i hi]
 simp
theorem Sort_ok (w:World) (ps:List Int) (a0 al:Option Addr) (c0 cl:Nat) (LL:List (List Rat)) (rp:Rd w a0 (ints ps)) (rl:RdL w al (LL.map (List.map qs))) (O:SortOk ps LL) (hm:LL.length≤19) (L:Laid w) :
  Calls Tryz.prog 66 #[.slice a0 ps.length c0,.slice al LL.length cl] w fun e w'=>∃ a c F,e = .returned (.tuple #[.slice a LL.length c,.int .i64 0])∧Fin' (cS ps LL) LL.length F∧Rd w' a (ints ((List.range LL.length).map fun (k:Nat)=>((F k:Nat):Int)))∧Below w.heap.size w w':=by
 have hn:=O.n
 have hi:I64s ps:=fun x hx=>by have:=O.pr x hx; omega
 have Hc:Hid (∀ W,Below w.heap.size w W→Gives Tryz.prog 108 #[.slice a0 ps.length c0,.slice al LL.length cl] W (.int .i64 0)):=fun W hW=>by
  have h:=checkAll_any W a0 al c0 cl ps (LL.map (List.map qs)) (rp.below hW nr_) hi (by omega) (rl.below hW nr_) (by rw [List.length_map]; omega) (fun l hl=>by
   obtain ⟨x,hx,rfl⟩:=List.mem_map.1 hl
   exact ⟨by rw [List.length_map,O.len x hx]; omega,ssz_ok (O.sm x hx)⟩) (L.below hW)
  rw [lcode_ok O.p0 fun l hl=>⟨O.len l hl,O.sm l hl⟩,List.length_map] at h
  exact h
 have HL:=hd_ L
 have HO:=hd_ O
 have Hrp:=hd_ rp
 have Hrl:=hd_ rl
 clear L O rp rl hi
 have B0:=hd_ ((((Below.refl w.heap.size w).alloc nr_ (.cells #[.slice a0 ps.length c0] 24)).alloc (by simp) (.cells #[.slice al LL.length cl] 53)))
 have K2:=hd_ (heap_old (heap_at w #[.slice a0 ps.length c0] 24 _ rfl) (.cells #[.slice al LL.length cl] 53))
 have K3:=hd_ (heap_at (w.alloc (.cells #[.slice a0 ps.length c0] 24)) #[.slice al LL.length cl] 53 (w.heap.size + 1) (by simp))
 have S0:Hid (SortAt ((w.alloc (.cells #[.slice a0 ps.length c0] 24)).alloc (.cells #[.slice al LL.length cl] 53)) ps w.heap.size (w.heap.size + 1) a0 al c0 cl LL) :=
  ⟨K2.out,K3.out,Hrp.out.below B0.out nr_,Hrl.out.below B0.out nr_⟩
 clear K2 K3 Hrp Hrl
 have m2:=(one_cell S0.out.h2).1
 have m3:=(one_cell S0.out.h3).1
 obtain ⟨m,hmm⟩:∃ m,LL.length=m:=⟨_,rfl⟩
 obtain ⟨n,hnn⟩:∃ n,ps.length=n:=⟨_,rfl⟩
 rw [hmm] at hm
 simp only [hmm,hnn] at Hc B0 S0 m2 m3 ⊢
 have Hm:=hd_ hmm
 clear hmm hnn hn
 go_enter Tryz.func66,Tryz.ntmps66
 go_wp2_with fail
 generalize (w.alloc (.cells #[.slice a0 n c0] 24)).alloc (.cells #[.slice al m cl] 53)=w0 at *
 clear m2 m3
 refine cm_ (Hc.out _ B0.out) ?_
 rintro e w2 ⟨rfl,hb⟩
 have B2:=hd_ (B0.out.trans (hb.mono B0.out.size))
 have S2:=hd_ (S0.out.below hb nr_)
 clear hb B0 S0 Hc
 have m3:=(one_cell S2.out.h3).1
 rw [Hm.out] at m3
 go_wp2_with fail
 clear m3
 go_loopw [7,17] (fun o z wr=>∃ (j:Nat) (a:Option Addr) (c:Nat),j≤m∧z = .int .i64 j∧o = .slice a j c∧Hid (j=0→a=none∧c=0)∧Hid (wr.ownsRow w2.heap.size 3 1 (.slice a j c) j (ints (idL j)))∧Hid (Below w2.heap.size w2 wr)) (fun _ z _=>m - (intOf z).toNat)
 case atStart=>exact ⟨0,none,0,Nat.zero_le _,rfl,rfl,fun _=>⟨rfl,rfl⟩,World.ownsRow_nil ..,Below.refl _ _⟩
 case round =>
  obtain ⟨j,a,c,hj,rfl,rfl,HN,HR,HB⟩:=hrel
  by_cases hlt:j < m
  ·have hlt':(j:Int) < m:=by omega
   go_wp2_with (at_builtin; refine wpList_append_new rfl (.tmp 20) (.tmp 22) 23 rfl elIntS _ 1 [.int .i64 j] rfl rfl HR.out HB.out.size rfl ?c1 (by omega) (by omega) ?_)
   case c1=>first | rfl | (intro u hu; obtain rfl:=List.mem_singleton.1 hu; rfl)
   intro v' w3 hown3 hg3 _
   obtain ⟨a3,c3,rfl⟩:=own_form hown3
   have HB3:Hid (Below w2.heap.size w2 w3):=(HB.out.alloc HB.out.size _).grown hg3 (by have:=HB.out.size; simp; omega) (fun k hk=>(HR.out.lt k hk).1)
   have HR3:Hid (w3.ownsRow w2.heap.size 3 1 (.slice a3 (j + 1) c3) (j + 1) (ints (idL (j + 1)))):=by
    rw [idL_succ,ints_append]
    exact hown3
   clear hown3 hg3 HB HR HN
   go_wp2
   go_roundw
   case rel=>exact ⟨j + 1,a3,c3,by omega,by go_num,rfl,fun h=>by omega,HR3,HB3⟩
   case measure=>simp [intOf]; omega
  ·have hlt':¬ (j:Int) < m:=by omega
   obtain rfl:j=m:=by omega
   have SR:=hd_ (S2.out.below HB.out nr_)
   rcases Nat.eq_zero_or_pos j with h0 | h0
   ·subst h0
    obtain ⟨rfl,rfl⟩:=HN.out rfl
    have Hs:=hd_ (stable_nil wr (.pointer (some ⟨w.heap.size,0,none⟩)) (.pointer (some ⟨w.heap.size + 1,0,none⟩)))
    clear HN HR
    go_wp2_with fail
    refine cm_ Hs.out ?_
    rintro e w4 ⟨rfl,rfl⟩
    clear Hs
    go_wp2_with fail
    go_ret2
    exact ⟨none,0,fun k=>k,rfl,⟨fun k hk=>absurd hk (Nat.not_lt_zero _),fun k _ hk=>absurd hk (Nat.not_lt_zero _),fun k hk=>absurd hk (Nat.not_lt_zero _)⟩,.inl rfl,B2.out.trans (HB.out.mono B2.out.size)⟩
   ·obtain ⟨g,cap,hv,hg1,hg2,hg3,hg4,hg5⟩:=own_open HR.out h0
    obtain ⟨rfl,rfl⟩:a=some ⟨g,0,none⟩∧c=cap:=by
     simp only [Value.slice.injEq] at hv
     exact ⟨hv.1,hv.2.2⟩
    have hrow:RowF wr g j fun k=>k:=⟨hg2,fun k hk=>by
     rw [hg4 k (by omega),ints_get _ k (by rw [idL_length]; exact hk)]
     simp [idL],hg5⟩
    have Hs:=hd_ (stable_any wr w2.heap.size g j c (.pointer (some ⟨w.heap.size,0,none⟩)) (.pointer (some ⟨w.heap.size + 1,0,none⟩)) (cS ps LL) (cS_neg HO.out) (cS_le HO.out) hg1 hm hrow fun W hW i k hi hk =>
     srt1_any W ps _ _ a0 al c0 cl LL (S2.out.below (HB.out.trans hW) nr_) HO.out i k (by rw [Hm.out]; exact hi) (by rw [Hm.out]; exact hk) (HL.out.below ((B2.out.trans (HB.out.mono B2.out.size)).trans (hW.mono B2.out.size))))
    clear HN HR hv hg1 hg2 hg3 hg4 hg5 hrow
    go_wp2_with fail
    refine cm_ Hs.out ?_
    rintro e w4 ⟨rfl,F,hF,hR,hb⟩
    have HF:=hd_ hF
    have HR:=hd_ hR
    have HB4:=hd_ (HB.out.trans hb)
    clear Hs hF hR hb
    go_wp2_with fail
    go_ret2
    exact ⟨some ⟨g,0,none⟩,c,F,rfl,HF.out,HR.out.rd,B2.out.trans (HB4.out.mono B2.out.size)⟩
end Go.Proofs.YtkoicfghplmghaaGreatDoor

namespace Go.Proofs.YtkoicfghplmghaaGreatDoor
open Go.RowKit
end Go.Proofs.YtkoicfghplmghaaGreatDoor

namespace Go.Proofs.YtkoicfghplmghaaGreatDoor
open Go.RowKit
def RowB (W:World) (g:Nat) (t:TypeId) (D:List UInt8):Prop:=W.rowIs g t D.length (fun i => .int .u8 ((D.getD i 0).toNat:Nat))
theorem RowB.cell {W:World} {g:Nat} {t:TypeId} {D:List UInt8} (h:RowB W g t D) {i:Nat} (hi:i < D.length):W.cell? ⟨g,i,none⟩=some (.int .u8 ((D.getD i 0).toNat:Nat)):=World.rowIs.cell h hi
theorem RowB.frozen {W:World} {g:Nat} {t:TypeId} {D:List UInt8} (h:RowB W g t D) (i:Nat):W.frozen? ⟨g,i,none⟩=false:=World.rowIs.frozen h i
theorem RowB.set {W:World} {g:Nat} {t:TypeId} {D:List UInt8} (h:RowB W g t D) (i x:Nat) (hx:x < 256):RowB (W.setCell ⟨g,i,none⟩ (.int .u8 (x:Nat))) g t (D.set i (UInt8.ofNat x)):=by
 unfold RowB
 rw [List.length_set]
 refine (World.rowIs.set h i _).congr fun j hj=>?_
 by_cases e:j=i
 ·subst e
  rw [if_pos rfl]
  simp only [List.getD_eq_getElem?_getD,List.getElem?_set]
  simp only [if_true,if_pos hj,Option.getD_some]
  simp [Nat.mod_eq_of_lt hx]
 ·rw [if_neg e]
  simp only [List.getD_eq_getElem?_getD,List.getElem?_set]
  rw [if_neg (fun h=>e h.symm)]
theorem RowB.text {W:World} {g:Nat} {t src dst e:TypeId} {D:List UInt8} (h:RowB W g t D) (k n c:Nat) (hn:k + n=D.length)
  (hs:Tryz.prog.underlying src=some (.slice e)) (he:Tryz.prog.underlying e=some (.int .u8)) (hd:Tryz.prog.underlying dst=some .string) :
  (convert src dst (.slice (some ⟨g,k,none⟩) n c)).run Tryz.prog W = .ok (.string ⟨(D.drop k).toArray⟩) W:=by
 have hl:(D.drop k).length=n:=by simp; omega
 rw [← hl]
 refine run_convert_bytes_back W src dst e ⟨g,k,none⟩ c (D.drop k) hs he hd fun j hj=>?_
 rw [Lib.add_plain]
 rw [RowB.cell h (by omega)]
 rw [List.getD_eq_getElem?_getD,List.getElem?_eq_getElem (by omega)]
 simp
end Go.Proofs.YtkoicfghplmghaaGreatDoor

namespace Go.Proofs.YtkoicfghplmghaaGreatDoor
open Go.RowKit
def jn (L:List ByteArray):ByteArray:=⟨(Lib.join (L.map (·.data.toList)) [32]).toArray⟩
end Go.Proofs.YtkoicfghplmghaaGreatDoor

namespace Go.Proofs.YtkoicfghplmghaaGreatDoor
open Go.RowKit
end Go.Proofs.YtkoicfghplmghaaGreatDoor

namespace Go.Proofs.YtkoicfghplmghaaGreatDoor
open Go.RowKit
end Go.Proofs.YtkoicfghplmghaaGreatDoor

namespace Go.Proofs.YtkoicfghplmghaaGreatDoor
open Go.RowKit
theorem Digs.reverse {l:List UInt8} (h:Digs l):Digs l.reverse:=fun c hc=>h c (List.mem_reverse.1 hc)
structure JAt (w:World) (n:Nat) (T:List UInt8) (wr:World):Prop where
 row:∃ D,RowB wr w.heap.size 5 D∧D.length=9 * n + 1∧(D.getD 0 0).toNat=48∧D.drop (9 * n + 1 - T.length)=T
 bel:Below w.heap.size w wr
theorem JAt.set {w wr:World} {n:Nat} {T:List UInt8} (h:JAt w n T wr) (m x:Nat) (hm:m + T.length=9 * n) (hm0:0 < m) (hx:x < 256):JAt w n (UInt8.ofNat x :: T) (wr.setCell ⟨w.heap.size,m,none⟩ (.int .u8 (x:Nat))):=by
 obtain ⟨D,h1,h2,h3,h4⟩:=h.row
 refine ⟨⟨D.set m (UInt8.ofNat x),h1.set m x hx,by rw [List.length_set]; exact h2,?_,?_⟩,h.bel.setCell nr_ _⟩
 ·rw [List.getD_eq_getElem?_getD,List.getElem?_set_ne (by omega),← List.getD_eq_getElem?_getD]; exact h3
 ·have e:9 * n + 1 - (UInt8.ofNat x :: T).length=m:=by simp; omega
  rw [e,List.drop_eq_getElem_cons (by simp; omega),List.getElem_set_self,List.drop_set,if_pos (by omega)]
  congr 1
  rw [← h4]
  congr 1
  omega
theorem JAt.cell {w wr:World} {n:Nat} {T:List UInt8} (h:JAt w n T wr) (m:Nat) (hm:m≤9 * n):(∃ x:Nat,wr.cell? ⟨w.heap.size,m,none⟩=some (.int .u8 x))∧wr.frozen? ⟨w.heap.size,m,none⟩=false:=by
 obtain ⟨D,h1,h2,_,_⟩:=h.row
 exact ⟨⟨_,h1.cell (by omega)⟩,h1.frozen m⟩
theorem JAt.done {w wr:World} {n:Nat} {T:List UInt8} (h:JAt w n T wr) (hT:T.length=9 * n) (hd:Digs T):∃ D,RowB wr w.heap.size 5 D∧D.length=9 * n + 1∧Digs D∧dval D=dval T:=by
 obtain ⟨D,h1,h2,h3,h4⟩:=h.row
 have e:9 * n + 1 - T.length=1:=by omega
 rw [e] at h4
 match D,h2,h3,h4 with
 | c :: D,h2,h3,h4 =>
  obtain rfl:D=T:=by simpa using h4
  have hc:c.toNat=48:=by simpa using h3
  refine ⟨_,h1,h2,fun y hy=>?_,?_⟩
  ·rcases List.mem_cons.1 hy with rfl | hy
   ·omega
   ·exact hd y hy
  ·rw [dval_cons,hc]; simp
end Go.Proofs.YtkoicfghplmghaaGreatDoor

namespace Go.Proofs.YtkoicfghplmghaaGreatDoor
open Go.RowKit
end Go.Proofs.YtkoicfghplmghaaGreatDoor

namespace Go.Proofs.YtkoicfghplmghaaGreatDoor
open Go.RowKit
end Go.Proofs.YtkoicfghplmghaaGreatDoor

namespace Go.Proofs.YtkoicfghplmghaaGreatDoor
open Go.RowKit
end Go.Proofs.YtkoicfghplmghaaGreatDoor

namespace Go.Proofs.YtkoicfghplmghaaGreatDoor.LN
def upP:List Int→List Int→Nat
 | p :: ps,k :: ks=>p.toNat ^ k.toNat * upP ps ks
 | _,_=>1
theorem upP_snoc:∀ (ps ks:List Int) (p k:Int),ps.length=ks.length→upP (ps ++ [p]) (ks ++ [k])=upP ps ks * p.toNat ^ k.toNat
 | [],[],p,k,_=>by simp [upP]
 | q :: ps,m :: ks,p,k,h=>by
  have ih:=upP_snoc ps ks p k (by simpa using h)
  simp only [List.cons_append,upP]
  rw [ih,Nat.mul_assoc]
theorem upP_le (K:Nat):∀ (ps ks:List Int),(∀ p∈ps,2≤p∧p≤97)→(∀ k∈ks,k≤(K:Int))→upP ps ks < 10 ^ (2 * K * ps.length + 1)
 | [],_,_,_=>by simp [upP]
 | _ :: _,[],_,_=>by
  simp only [upP]
  exact Nat.one_lt_pow (by omega) (by decide)
 | p :: ps,k :: ks,h,h2=>by
  have ih:=upP_le K ps ks (fun q hq=>h q (List.mem_cons_of_mem _ hq)) fun q hq=>h2 q (List.mem_cons_of_mem _ hq)
  obtain ⟨a,b⟩:=h p List.mem_cons_self
  have hk:=h2 k List.mem_cons_self
  simp only [upP]
  have h3:p.toNat ^ k.toNat≤100 ^ k.toNat:=Nat.pow_le_pow_left (by omega) _
  have h4:100 ^ k.toNat≤100 ^ K:=Nat.pow_le_pow_right (by decide) (by omega)
  have h5:(100:Nat) ^ K=10 ^ (2 * K):=by rw [show (100:Nat)=10 ^ 2 from rfl,← Nat.pow_mul]
  rw [h5] at h4
  have e:10 ^ (2 * K * (p :: ps).length + 1)=10 ^ (2 * K) * 10 ^ (2 * K * ps.length + 1):=by rw [← Nat.pow_add]; congr 1; rw [List.length_cons,Nat.mul_add]; omega
  rw [e]
  exact Nat.mul_lt_mul_of_le_of_lt (Nat.le_trans h3 h4) ih (Nat.pow_pos (by decide))
end Go.Proofs.YtkoicfghplmghaaGreatDoor.LN

namespace Go.Proofs.YtkoicfghplmghaaGreatDoor
open Go.RowKit
structure UpAt (ps ks:List Int) (k u d:Nat):Prop where
 up:u=LN.upP (ps.take k) (ks.take k)
 dn:d=LN.upP (ps.take k) ((ks.map fun z => -z).take k)
 le:∀ z∈ks.take k,z≤500 ∧ -500≤z
theorem take_next {α:Type} (l:List α) (k:Nat) (h:k < l.length):l.take (k + 1)=l.take k ++ [l[k]]:=List.take_succ_eq_append_getElem h
theorem UpAt.next {ps ks:List Int} {k u d:Nat} (h:UpAt ps ks k u d) (h1:k < ps.length) (hk:k < ks.length) (hz:ks[k]≤500 ∧ -500≤ks[k]) :
  UpAt ps ks (k + 1) (u * ps[k].toNat ^ ks[k].toNat) (d * ps[k].toNat ^ (-ks[k]).toNat):=by
 refine ⟨?_,?_,?_⟩
 ·rw [take_next ps k h1,take_next ks k hk,LN.upP_snoc _ _ _ _ (by simp; omega),← h.up]
 ·have hk2:k < (ks.map fun z => -z).length:=by simpa using hk
  rw [take_next ps k h1,take_next _ k hk2,LN.upP_snoc _ _ _ _ (by simp; omega),← h.dn,List.getElem_map]
 ·intro z hz2
  rw [take_next ks k hk] at hz2
  rcases List.mem_append.1 hz2 with h3 | h3
  ·exact h.le z h3
  ·obtain rfl:=List.mem_singleton.1 h3
   exact hz
theorem UpAt.num {ps ks:List Int} {k u d:Nat} (h:UpAt ps ks k u d) (hp:∀ p∈ps,2≤p∧p≤97) (hn:ps.length≤100):Num u∧Num d:=by
 have hl:(ps.take k).length≤100:=by simp; omega
 have hb:2 * 500 * (ps.take k).length + 1≤1000000:=by omega
 have hp':∀ p∈ps.take k,2≤p∧p≤97:=fun p hp1=>hp p (List.mem_of_mem_take hp1)
 refine ⟨?_,?_⟩
 ·rw [h.up]
  exact num_pow (LN.upP_le 500 _ _ hp' fun z hz=>by have:=h.le z hz; omega) (by omega) hb
 ·rw [h.dn]
  refine num_pow (LN.upP_le 500 _ _ hp' fun z hz=>?_) (by omega) hb
  rw [← List.map_take] at hz
  obtain ⟨y,hy,rfl⟩:=List.mem_map.1 hz
  have:=h.le y hy
  omega
end Go.Proofs.YtkoicfghplmghaaGreatDoor

namespace Go.Proofs.YtkoicfghplmghaaGreatDoor
open Go.RowKit Go.Proofs.YtkoicfghplmghaaGreatDoor.RY
end Go.Proofs.YtkoicfghplmghaaGreatDoor

namespace Go.Proofs.YtkoicfghplmghaaGreatDoor
open Go.RowKit
end Go.Proofs.YtkoicfghplmghaaGreatDoor

namespace Go.Proofs.YtkoicfghplmghaaGreatDoor
open Go.ChangeShapes Go.WideShapes Go.ChangeAt Go.RowKit Go.Joins
section
variable {H:Type} {enc:TypeId×Value→H} {W:World}
def four {α:Type} (a b c d z : α):Nat → α
 | 0=>a | 1=>b | 2=>c | 3=>d | _=>z
end
end Go.Proofs.YtkoicfghplmghaaGreatDoor

namespace Go.Proofs.YtkoicfghplmghaaGreatDoor
open Go.ChangeShapes Go.WideShapes Go.ChangeAt Go.RowKit Go.Joins
section
variable {H:Type} {enc:TypeId×Value→H} {W:World}
end
end Go.Proofs.YtkoicfghplmghaaGreatDoor

namespace Go.Proofs.YtkoicfghplmghaaGreatDoor
open Go.RowKit
theorem own_apart {w:World} {B1 B2 s1 s2 n1 n2:Nat} {e1 e2:TypeId} {v1 v2:Value} {x1 x2:List Value} (h1:w.ownsRow B1 e1 s1 v1 n1 x1) (h2:w.ownsRow B2 e2 s2 v2 n2 x2) (hne:e1≠e2) :
  ∀ k,v1.ownBlock=some k→v2.ownBlock≠some k:=by
 intro k hk hk2
 rcases h1.2 with ⟨rfl,_⟩ | ⟨g,cap,cur,rfl,_,hg,_⟩
 ·simp [Value.ownBlock] at hk
 ·rcases h2.2 with ⟨rfl,_⟩ | ⟨g2,cap2,cur2,rfl,_,hg2,_⟩
  ·simp [Value.ownBlock] at hk2
  ·simp only [Value.ownBlock,Option.some.injEq] at hk hk2
   subst hk
   subst hk2
   rw [hg] at hg2
   simp only [Option.some.injEq,Obj.cells.injEq] at hg2
   exact hne hg2.2.1
end Go.Proofs.YtkoicfghplmghaaGreatDoor

namespace Go.Proofs.YtkoicfghplmghaaGreatDoor
open Go.RowKit
theorem elSz:ElemOf Tryz.prog 53 47 (.slice none 0 0) 1 24:=⟨Tryz.underlying53,info_parts infoS,rfl,by decide⟩
structure OwnL (w:World) (B:Nat) (b:Option Addr) (d:Nat) (n:Nat) (L:List (Option Addr×Nat)) (ls:List (List Rat)):Prop where
 len:L.length=ls.length
 row:w.ownsRow B 47 1 (.slice b L.length d) L.length (L.map fun x => .slice x.1 n x.2)
 each:∀ i (h1:i < L.length) (h2:i < ls.length),OwnQ w B L[i].1 L[i].2 ls[i]
 lens:∀ l∈ls,l.length=n
theorem OwnL.below {w w':World} {B d n:Nat} {b:Option Addr} {L:List (Option Addr×Nat)} {ls:List (List Rat)} (h:OwnL w B b d n L ls) (hb:Below w.heap.size w w'):OwnL w' B b d n L ls :=
 ⟨h.len,own_below h.row hb nr_,fun i h1 h2=>(h.each i h1 h2).below hb nr_,h.lens⟩
theorem OwnL.rdl {w:World} {B d n:Nat} {b:Option Addr} {L:List (Option Addr×Nat)} {ls:List (List Rat)} (h:OwnL w B b d n L ls):RdL w b (ls.map (List.map qs)):=by
 by_cases h0:ls=[]
 ·left; rw [h0]; rfl
 ·have hpos:0 < L.length:=by rw [h.len]; exact List.length_pos_iff.2 h0
  obtain ⟨g,cap,hv,h1,h2,h3,h4,h5⟩:=own_open h.row hpos
  simp only [Value.slice.injEq] at hv
  obtain ⟨rfl,-,rfl⟩:=hv
  refine .inr ⟨g,0,rfl,h2,fun i hi=>?_⟩
  rw [List.length_map] at hi
  have hiL:i < L.length:=by rw [h.len]; exact hi
  refine ⟨L[i].1,L[i].2,?_,?_⟩
  ·rw [Nat.zero_add,h4 i (by omega),List.getElem?_map,List.getElem?_eq_getElem hiL,List.getD_eq_getElem?_getD,List.getElem?_map,List.getElem?_eq_getElem hi]
   simp only [Option.map_some,Option.getD_some,List.length_map]
   rw [h.lens _ (List.getElem_mem hi)]
  ·rw [List.getD_eq_getElem?_getD,List.getElem?_map,List.getElem?_eq_getElem hi]
   exact (h.each i hiL hi).rd
end Go.Proofs.YtkoicfghplmghaaGreatDoor

namespace Go.Proofs.YtkoicfghplmghaaGreatDoor
open Go.RowKit Go.Proofs.YtkoicfghplmghaaGreatDoor.RY
theorem OwnL.put {w1 w3:World} {B d n c:Nat} {b a:Option Addr} {L:List (Option Addr×Nat)} {ls:List (List Rat)} {l:List Rat} {v':Value} (h:OwnL w1 B b d n L ls) (ho:OwnQ w1 B a c l) (hl:l.length=n)
  (hown:w3.ownsRow B 47 1 v' (L.length + 1) ((L.map fun x=>Value.slice x.1 n x.2) ++ [.slice a n c])) (hg:(w1.alloc (.cells #[.slice a n c] 47)).grownBy w3 (Value.slice b L.length d).ownBlock) :
  ∃ b' d',v' = .slice b' (L.length + 1) d'∧OwnL w3 B b' d' n (L ++ [(a,c)]) (ls ++ [l]):=by
 obtain ⟨b',d',rfl⟩:=own_form hown
 have hA:Below w1.heap.size w1 (w1.alloc (.cells #[.slice a n c] 47)):=(Below.refl _ _).alloc nr_ _
 have hrow:=own_below h.row hA nr_
 have keep:∀ (a2:Option Addr) (c2:Nat) (l2:List Rat),OwnQ w1 B a2 c2 l2→OwnQ w3 B a2 c2 l2:=fun a2 c2 l2 h2=>by
  have h3:=ownS_own (h2.below hA nr_)
  refine own_ownQ (World.ownsRow.kept h3 hg ?_)
  have hap:=own_apart hrow h3 (by decide)
  cases hv:(Value.slice b L.length d).ownBlock with
  | none=>cases hv2:(Value.slice a2 l2.length c2).ownBlock <;> simp
  | some k=>exact .inr (hap k hv)
 refine ⟨b',d',rfl,?_,?_,?_,?_⟩
 ·simp [h.len]
 ·rw [List.length_append,List.map_append]
  exact hown
 ·intro i h1 h2
  by_cases hi:i < L.length
  ·have hi2:i < ls.length:=by rw [← h.len]; exact hi
   rw [List.getElem_append_left hi2]
   simp only [List.getElem_append_left hi]
   exact keep _ _ _ (h.each i hi hi2)
  ·have e:i=L.length:=by simp at h1; omega
   subst e
   rw [List.getElem_append_right (by rw [h.len]; exact Nat.le_refl _)]
   simp only [List.getElem_append_right nr_,h.len,Nat.sub_self,List.getElem_cons_zero]
   exact keep _ _ _ ho
 ·intro m hm
  rcases List.mem_append.1 hm with hm | hm
  ·exact h.lens m hm
  ·rw [List.mem_singleton.1 hm]; exact hl
theorem rdl_cells {W:World} {al:Option Addr} {LL:List (List Rat)} {n:Nat} (h:RdL W al (LL.map (List.map qs))) (hlen:∀ l∈LL,l.length=n) (h0:0 < LL.length) :
  ∃ b off,al=some ⟨b,off,none⟩∧b < W.heap.size∧∀ i,i < LL.length→∃ a' c',W.cell? ⟨b,off + i,none⟩=some (.slice a' n c')∧Rd W a' (cellsQ (LL.getD i [])):=by
 rcases h with h | ⟨b,off,h1,h2,h3⟩
 ·have:=congrArg List.length h
  simp at this
  rw [this] at h0
  simp at h0
 ·refine ⟨b,off,h1,h2,fun i hi=>?_⟩
  obtain ⟨a',c',k1,k2⟩:=h3 i (by simpa using hi)
  have e:(LL.map (List.map qs)).getD i []=(LL.getD i []).map qs:=by
   rw [List.getD_eq_getElem?_getD,List.getD_eq_getElem?_getD,List.getElem?_map]
   cases LL[i]? <;> rfl
  rw [e] at k1 k2
  rw [List.length_map,hlen _ (getD_memL hi)] at k1
  exact ⟨a',c',k1,k2⟩
end Go.Proofs.YtkoicfghplmghaaGreatDoor

namespace Go.Proofs.YtkoicfghplmghaaGreatDoor
open Go.RowKit
def Iv (n:Nat) (l:List (List Int)):Prop:=∀ x∈l,x.length=n∧Xs x
theorem mgo_iv {n:Nat}:∀ {l:List (List Int)},mgo n l=0↔Iv n l
 | []=>⟨fun _ x hx=>(by cases hx),fun _=>rfl⟩
 | x :: l=>by
  constructor
  ·intro h
   unfold mgo at h
   split at h
   ·rename_i h1
    intro y hy
    rcases List.mem_cons.1 hy with rfl | hy
    ·unfold mrow at h1
     split at h1
     ·rename_i h2; exact ⟨h2,mx_zero.1 h1⟩
     ·cases h1
    ·exact mgo_iv.1 h y hy
   ·rename_i h1; exact absurd h h1
  ·intro h
   unfold mgo
   obtain ⟨h1,h2⟩:=h x List.mem_cons_self
   rw [if_pos (mrow_ok h2 h1)]
   exact mgo_iv.2 fun y hy=>h y (List.mem_cons_of_mem _ hy)
theorem rdi_cells {W:World} {al:Option Addr} {l:List (List Int)} (h:RdI W al l) (h0:0 < l.length) :
  ∃ b off,al=some ⟨b,off,none⟩∧b < W.heap.size∧∀ (i:Nat) (hi:i < l.length),∃ a' c',W.cell? ⟨b,off + i,none⟩=some (.slice a' l[i].length c')∧Rd W a' (ints l[i]):=by
 rcases h with rfl | ⟨b,off,rfl,hb,hc⟩
 ·simp at h0
 ·refine ⟨b,off,rfl,hb,fun i hi=>?_⟩
  have:=hc i hi
  rw [List.getD_eq_getElem?_getD,List.getElem?_eq_getElem hi] at this
  exact this
theorem isizes_ok (w:World) (ps:List Int) (P:PrOk ps) (a0 al:Option Addr) (c0 cl:Nat) (l:List (List Int)) (rp:Rd w a0 (ints ps)) (rl:RdI w al l) (hl:l.length≤1000) (hr:Iv ps.length l) (L:Laid w) :
  Calls Tryz.prog 67 #[.slice a0 ps.length c0,.slice al l.length cl] w fun e w'=>∃ b d LL,e = .returned (.slice b l.length d)∧OwnL w' w.heap.size b d ps.length LL (l.map rq)∧Below w.heap.size w w':=by
 have HO:Hid (∀ x∈l,∀ W a c,Below w.heap.size w W→Rd W a (ints x)→Calls Tryz.prog 104 #[.slice a0 ps.length c0,.slice a ps.length c] W fun e w'=>∃ a c,e = .returned (.tuple #[.slice a ps.length c,.int .i64 0])∧OwnQ w' W.heap.size a c (rq x)∧Below W.heap.size W w'):=fun x hx W a c hW hrx=>by
  obtain ⟨h1,h2⟩:=hr x hx
  have:=of_ok W a0 a c0 c ps x (rp.below hW nr_) P.i64 hrx (fun y hy=>by have:=h2 y hy; omega) (mcode_one P.p0 h2 h1) (L.below hW)
  unfold GivesOk at this
  rw [List.length_map,h1] at this
  exact this
 have Hrl:=hd_ rl
 have Hlx:Hid (∀ x∈l,x.length=ps.length):=fun x hx=>(hr x hx).1
 have Hnil:Hid (OwnL w w.heap.size none 0 ps.length [] ((l.take 0).map rq)):=⟨rfl,World.ownsRow_nil ..,fun i h=>absurd h (Nat.not_lt_zero _),fun x hx=>by simp at hx⟩
 clear rp rl hr L P
 generalize hm:l.length=m at *
 have Hm:=hd_ hm
 clear hm
 generalize ps.length=n at *
 go_enter Tryz.func67,Tryz.ntmps67
 go_wp2_with fail
 go_loopw [5,12] (fun o i wr=>∃ (k:Nat) (b:Option Addr) (d:Nat) (LL:List (Option Addr×Nat)),k≤m∧i = .int .i64 k∧o = .slice b k d∧Hid (OwnL wr w.heap.size b d n LL ((l.take k).map rq))∧Hid (LL.length=k)∧Hid (Below w.heap.size w wr)) (fun _ i _=>m - (intOf i).toNat)
 case atStart=>exact ⟨0,none,0,[],Nat.zero_le _,rfl,rfl,Hnil,rfl,Below.refl _ _⟩
 case round =>
  clear Hnil
  obtain ⟨k,b,d,LL,hk,rfl,rfl,OL,HLL,B⟩:=hrel
  by_cases hlt:k < m
  ·have hlt':(k:Int) < m:=by omega
   have hkl:k < l.length:=by rw [Hm.out]; exact hlt
   obtain ⟨gb,off,rfl,hgb,hcs⟩:=rdi_cells Hrl.out (by omega)
   obtain ⟨ax,cx,kx,rx⟩:=hcs k hkl
   rw [Hlx.out _ (List.getElem_mem hkl)] at kx
   have k1:=(B.out.cell (p:=⟨gb,off + k,none⟩) hgb).trans kx
   have R1:=hd_ (rx.below B.out nr_)
   have HOk:=hd_ (HO.out l[k] (List.getElem_mem hkl))
   have Hsk:Hid ((l.take (k + 1)).map rq=(l.take k).map rq ++ [rq l[k]]):=by
    show _=_
    rw [List.take_add_one,List.getElem?_eq_getElem hkl,List.map_append]; rfl
   have Hq:Hid ((rq l[k]).length=n):=by show _=_; rw [rq_length]; exact Hlx.out _ (List.getElem_mem hkl)
   clear hcs kx rx
   generalize rq l[k]=q at *
   generalize l[k]=x at *
   go_wp2_with fail
   refine cm_ (HOk.out _ _ _ B.out R1.out) ?_
   rintro e_ w1 ⟨a1,c1,rfl,ho_,hb_⟩
   have OL1:=hd_ (OL.out.below hb_)
   have O1:=hd_ (ho_.lower B.out.size)
   have B1:=hd_ (B.out.trans (hb_.mono B.out.size))
   clear hb_ ho_ OL B HOk R1 k1
   have Ow:Hid (w1.ownsRow w.heap.size 47 1 (.slice b k d) k (LL.map fun x => .slice x.1 n x.2)):=by
    have:=OL1.out.row
    rw [HLL.out] at this
    exact this
   have hsz:=B1.out.size
   go_wp2_with (at_builtin; refine wpList_append_one rfl (.tmp 22) (.tmp 24) 53 rfl elSz _ (.slice a1 n c1) rfl rfl Ow.out hsz rfl (by omega) (by omega) ?_)
   intro v' w5 hown5 hg5 _
   have B5:Hid (Below w.heap.size w w5):=(B1.out.alloc hsz _).grown hg5 (by simp; omega) (fun kk hkk=>(Ow.out.lt kk hkk).1)
   have hll:=HLL.out
   subst hll
   obtain ⟨b5,d5,rfl,ol5⟩:=OwnL.put OL1.out O1.out Hq.out hown5 hg5
   have OL5:=hd_ ol5
   have HLL5:Hid ((LL ++ [(a1,c1)]).length=LL.length + 1):=by show _=_; simp
   rw [← Hsk.out] at OL5
   clear hown5 hg5 ol5 OL1 O1 B1 hsz Ow
   go_wp2_with fail
   go_roundw
   case rel=>exact ⟨LL.length + 1,b5,d5,_,by omega,by go_num,rfl,OL5,HLL5,B5⟩
   case measure=>simp [intOf]; omega
  ·have hlt':¬ (k:Int) < m:=by omega
   obtain rfl:k=m:=by omega
   have Hfull:Hid (l.take k=l):=by show _=_; exact List.take_of_length_le (by rw [Hm.out]; exact Nat.le_refl _)
   rw [Hfull.out] at OL
   go_wp2_with fail
   go_ret
   exact ⟨b,d,rfl,⟨LL,OL.out⟩,B.out⟩
theorem sortOk_iv {ps:List Int} (P:PrOk ps) {l:List (List Int)} (h:Iv ps.length l):SortOk ps (l.map rq):=by
 have h6:=P.n6
 refine ⟨P.p0,P.pr,P.pos,by omega,fun x hx=>?_,fun x hx=>?_,fun a ha b hb=>?_⟩
 ·obtain ⟨y,hy,rfl⟩:=List.mem_map.1 hx
  rw [rq_length]; exact (h y hy).1
 ·obtain ⟨y,hy,rfl⟩:=List.mem_map.1 hx
  exact (h y hy).2.bd.sm (by decide) (by decide)
 ·obtain ⟨x,hx,rfl⟩:=List.mem_map.1 ha
  obtain ⟨y,hy,rfl⟩:=List.mem_map.1 hb
  rw [difQ_rq ((h x hx).1.trans (h y hy).1.symm)]
  exact ((h x hx).2.bd.sub (h y hy).2.bd).good (by decide) P
theorem iSort_ok (w:World) (ps:List Int) (P:PrOk ps) (a0 al:Option Addr) (c0 cl:Nat) (l:List (List Int)) (rp:Rd w a0 (ints ps)) (rl:RdI w al l) (hn:Nil0 al l.length cl) (hl:l.length≤19) (hr:Iv ps.length l) (L:Laid w) :
  Calls Tryz.prog 57 #[.slice a0 ps.length c0,.slice al l.length cl] w fun e w'=>∃ a c F,e = .returned (.tuple #[.slice a l.length c,.int .i64 0])∧Fin' (cS ps (l.map rq)) l.length F∧Rd w' a (ints ((List.range l.length).map fun (k:Nat)=>((F k:Nat):Int)))∧Below w.heap.size w w':=by
 have h6:=P.n6
 have HOp:Hid (Gives Tryz.prog 93 #[.slice a0 ps.length c0,.slice al l.length cl,.slice none 0 0] w (.int .i64 0)):=by
  have:=open_any w a0 al none c0 cl 0 ps l [] rp P.i64 (by omega) rl (.inl rfl) hn (fun _=>⟨rfl,rfl⟩) (by omega) (by simp) (fun x hx=>by rw [List.append_nil] at hx; have:=(hr x hx).1; omega)
  unfold ocode at this
  rw [if_pos P.p0,if_neg (by omega),List.append_nil,mgo_iv.2 hr] at this
  exact this
 have HSz:Hid (∀ W,Below w.heap.size w W→Calls Tryz.prog 67 #[.slice a0 ps.length c0,.slice al l.length cl] W fun e w'=>∃ b d LL,e = .returned (.slice b l.length d)∧OwnL w' W.heap.size b d ps.length LL (l.map rq)∧Below W.heap.size W w'):=fun W hW =>
  isizes_ok W ps P a0 al c0 cl l (rp.below hW nr_) (rl.below hW nr_) (by omega) hr (L.below hW)
 have HSo:Hid (∀ W b d,Below w.heap.size w W→RdL W b ((l.map rq).map (List.map qs))→Calls Tryz.prog 66 #[.slice a0 ps.length c0,.slice b l.length d] W fun e w'=>∃ a c F,e = .returned (.tuple #[.slice a l.length c,.int .i64 0])∧Fin' (cS ps (l.map rq)) l.length F∧Rd w' a (ints ((List.range l.length).map fun (k:Nat)=>((F k:Nat):Int)))∧Below W.heap.size W w'):=fun W b d hW hrb=>by
  have:=Sort_ok W ps a0 b c0 d (l.map rq) (rp.below hW nr_) hrb (sortOk_iv P hr) (by rw [List.length_map]; exact hl) (L.below hW)
  rw [List.length_map] at this
  exact this
 clear rp rl hn hr L P h6
 generalize hll:l.map rq=ll at *
 clear hll
 generalize l.length=m at *
 generalize ps.length=n at *
 go_enter Tryz.func57,Tryz.ntmps57
 go_wp2_with fail
 refine cm_ HOp.out ?_
 rintro e_ w1 ⟨rfl,hb_⟩
 have B1:=hd_ hb_
 clear hb_ HOp
 go_wp2_with fail
 refine cm_ (HSz.out _ B1.out) ?_
 rintro e_ w2 ⟨b,d,LL,rfl,ho_,hb_⟩
 have R2:=hd_ ho_.rdl
 have B2:=hd_ (B1.out.trans (hb_.mono B1.out.size))
 clear hb_ ho_ HSz B1
 go_wp2_with fail
 refine cm_ (HSo.out _ _ _ B2.out R2.out) ?_
 rintro e_ w3 ⟨a,c,F,rfl,hF,hr_,hb_⟩
 have R3:=hd_ hr_
 have HF:=hd_ hF
 have B3:=hd_ (B2.out.trans (hb_.mono B2.out.size))
 clear hb_ hr_ hF HSo B2 R2
 go_wp2_with fail
 go_ret2
 exact ⟨a,c,F,rfl,HF.out,R3.out,B3.out⟩
end Go.Proofs.YtkoicfghplmghaaGreatDoor

namespace Go.Proofs.YtkoicfghplmghaaGreatDoor
open Go.RowKit
def idxB {α:Type} (pf : α→Bool):List α→Nat→Int
 | [],_ => -1
 | x :: l,k=>if pf x=true then (k:Int) else idxB pf l (k + 1)
theorem idxB_any {α:Type} (pf : α→Bool):∀ (l:List α) (k:Nat),decide (0≤idxB pf l k)=l.any pf
 | [],_=>by simp [idxB]
 | x :: l,k=>by
  unfold idxB
  rw [List.any_cons]
  by_cases h:pf x=true
  ·rw [if_pos h,h]; simp
  ·rw [if_neg h,idxB_any pf l (k + 1)]
   simp only [Bool.not_eq_true] at h
   rw [h,Bool.false_or]
theorem idxI_any (w:World) (a:Option Addr) (c:Nat) (l:List Int) (hr:Rd w a (ints l)) (hl:l.length≤1000000) (f:FuncId) (lb:Array Value) (eg:∀ args w,(callFunc f args).run Tryz.prog w = .ok (.enter f args) w) (pf:Int→Bool)
  (hcl:∀ W,Below w.heap.size w W→∀ x∈l,Gives Tryz.prog f (#[.int .i64 x] ++ lb) W (.bool (pf x))) :
  Gives Tryz.prog 120 #[.slice a l.length c,.func (.func f) #[] lb] w (.int .i64 (idxB pf l 0)):=by
 unfold Gives
 have Hr:=hd_ hr
 have Hcl:=hd_ hcl
 clear hr hcl
 generalize hm:l.length=m at *
 have Hm:=hd_ hm
 clear hm
 generalize hv:idxB pf l 0=v at *
 have Hvv:Hid (v=idxB pf l 0):=hv.symm
 clear hv
 go_enter Tryz.func120,Tryz.ntmps120
 go_wp2_with fail
 go_loopw [8] (fun i wr=>∃ k:Nat,k≤m∧i = .int .i64 k∧Hid (v=idxB pf (l.drop k) k)∧Hid (Below w.heap.size w wr)) (fun i _=>m - (intOf i).toNat)
 case atStart=>exact ⟨0,Nat.zero_le _,rfl,Hvv,Below.refl _ _⟩
 case round =>
  clear Hvv
  obtain ⟨k,hk,rfl,Hx,B⟩:=hrel
  by_cases hlt:k < m
  ·have hlt':(k:Int) < m:=by omega
   have hkb:k < l.length:=by rw [Hm.out]; exact hlt
   obtain ⟨b,off,rfl,hb,hcells⟩:=Hr.out.open (by rw [ints_length]; omega)
   have cy:=hcells k _ (ints_get l k hkb)
   rw [← B.out.cell (p:=⟨b,off + k,none⟩) hb] at cy
   have Hd:Hid (l.drop k=l[k] :: l.drop (k + 1)):=List.drop_eq_getElem_cons hkb
   have Hc:=hd_ (Hcl.out wr B.out l[k] (List.getElem_mem hkb))
   clear hcells
   generalize l[k]=x at *
   cases hf:pf x with
   | false =>
    have Hn:Hid (v=idxB pf (l.drop (k + 1)) (k + 1)):=by show _=_; rw [Hx.out,Hd.out,idxB,if_neg (by rw [hf]; decide)]
    rw [hf] at Hc
    go_wp2_with fail
    refine cm_ Hc.out ?_
    rintro e w1 ⟨rfl,hb1⟩
    have B1:=hd_ (B.out.trans (hb1.mono B.out.size))
    clear hb1 Hc B cy
    go_wp2_with fail
    go_roundw
    case rel=>exact ⟨k + 1,by omega,by go_num,Hn,B1⟩
    case measure=>simp [intOf]; omega
   | true =>
    have Hn:Hid (v=k):=by show _=_; rw [Hx.out,Hd.out,idxB,if_pos hf]
    rw [hf] at Hc
    go_wp2_with fail
    refine cm_ Hc.out ?_
    rintro e w1 ⟨rfl,hb1⟩
    have B1:=hd_ (B.out.trans (hb1.mono B.out.size))
    clear hb1 Hc B cy
    go_wp2_with fail
    go_ret
    exact ⟨by rw [Hn.out]; rfl,B1.out⟩
  ·have hlt':¬ (k:Int) < m:=by omega
   have Hn:Hid (v = -1):=by show _=_; rw [Hx.out,List.drop_of_length_le (by rw [Hm.out]; omega)]; rfl
   go_wp2_with fail
   go_ret
   exact ⟨by rw [Hn.out]; rfl,B.out⟩
theorem conI_any (w:World) (a:Option Addr) (c:Nat) (l:List Int) (hr:Rd w a (ints l)) (hl:l.length≤1000000) (f:FuncId) (lb:Array Value) (eg:∀ args w,(callFunc f args).run Tryz.prog w = .ok (.enter f args) w) (pf:Int→Bool)
  (hcl:∀ W,Below w.heap.size w W→∀ x∈l,Gives Tryz.prog f (#[.int .i64 x] ++ lb) W (.bool (pf x))) :
  Gives Tryz.prog 68 #[.slice a l.length c,.func (.func f) #[] lb] w (.bool (l.any pf)):=by
 unfold Gives
 have Hc:=hd_ (idxI_any w a c l hr hl f lb eg pf hcl)
 have Hv:=hd_ (idxB_any pf l 0)
 unfold Gives at Hc
 clear hr hcl
 generalize l.length=m at *
 generalize idxB pf l 0=v at *
 generalize l.any pf=z at *
 go_enter Tryz.func68,Tryz.ntmps68
 go_wp2_with fail
 refine cm_ Hc.out ?_
 rintro e w1 ⟨rfl,hb1⟩
 have B1:=hd_ hb1
 clear hb1 Hc
 go_wp2_with fail
 go_ret
 exact ⟨by rw [← Hv.out]; rfl,B1.out⟩
theorem enter_of {f : FuncId} {fn : Func} {c : Code} (hf : Tryz.prog.funcs[f]? = some fn) (hname : (fn.name == "runtime.NumGoroutine") = false) (hb : fn.body = some c) : ∀ args w, (callFunc f args).run Tryz.prog w = .ok (.enter f args) w := enters_of hf hname hb
end Go.Proofs.YtkoicfghplmghaaGreatDoor

namespace Go.Proofs.YtkoicfghplmghaaGreatDoor
open Go.RowKit
theorem islEq_any (w:World) (a1 a2:Option Addr) (c1 c2:Nat) (la lb:List Int) (r1:Rd w a1 (ints la)) (r2:Rd w a2 (ints lb)) (hbig:la.length≤1000000) :
  Gives Tryz.prog 32 #[.slice a1 la.length c1,.slice a2 lb.length c2] w (.bool (decide (la=lb))):=by
 unfold Gives
 by_cases hl:la.length=lb.length
 ·have R1:=hd_ r1
  have R2:=hd_ r2
  have Hyes:Hid (∀ k,(∀ j (h1:j < la.length) (h2:j < lb.length),j < k→la[j]=lb[j])→k=la.length→la=lb):=fun k h hk=>List.ext_getElem hl fun i h1 h2=>h i h1 h2 (by omega)
  have Hno:Hid (∀ k (h1:k < la.length) (h2:k < lb.length),la[k]≠lb[k]→¬ la=lb):=fun k h1 h2 hne he=>hne (by subst he; rfl)
  obtain ⟨n,hn⟩:∃ n,la.length=n:=⟨_,rfl⟩
  have hm:lb.length=n:=hl.symm.trans hn
  rw [hn] at hbig
  rw [hn,hm]
  have Hn:=hd_ hn
  have Hm:=hd_ hm
  clear hl r1 r2 hn hm
  go_enter Tryz.func32,Tryz.ntmps32
  go_wp2_with fail
  go_loopw [13] (fun i wr=>∃ k:Nat,k≤n∧i = .int .i64 k∧Hid (∀ j (h1:j < la.length) (h2:j < lb.length),j < k→la[j]=lb[j])∧Hid (Below w.heap.size w wr)) (fun i _=>n - (intOf i).toNat)
  case atStart=>exact ⟨0,Nat.zero_le _,rfl,fun j _ _ hj=>absurd hj (Nat.not_lt_zero _),Below.refl _ _⟩
  case round =>
   obtain ⟨k,hk,rfl,Hp,B⟩:=hrel
   by_cases hlt:k < n
   ·have hlt':(k:Int) < n:=by omega
    have h1:k < la.length:=by rw [Hn.out]; exact hlt
    have h2:k < lb.length:=by rw [Hm.out]; exact hlt
    obtain ⟨g1,o1,rfl,hg1,hc1⟩:=R1.out.open (by rw [ints_length]; omega)
    obtain ⟨g2,o2,rfl,hg2,hc2⟩:=R2.out.open (by rw [ints_length]; omega)
    have x1:=hc1 k _ (ints_get la k h1)
    have x2:=hc2 k _ (ints_get lb k h2)
    rw [← B.out.cell (p:=⟨g1,o1 + k,none⟩) hg1] at x1
    rw [← B.out.cell (p:=⟨g2,o2 + k,none⟩) hg2] at x2
    have Hp':Hid (la[k]=lb[k]→∀ j (h1:j < la.length) (h2:j < lb.length),j < k + 1→la[j]=lb[j]):=fun he j g1 g2 hj=>by
     rcases Nat.lt_or_ge j k with h | h
     ·exact Hp.out j g1 g2 h
     ·have e:j=k:=by omega
      subst e; exact he
    have Hnk:=hd_ (Hno.out k h1 h2)
    clear Hp hc1 hc2
    generalize la[k]=p at *
    generalize lb[k]=q at *
    have q1:=cell_regrown x1
    have q2:=cell_regrown x2
    have HK:=hd_ hlt
    by_cases hpq:p=q
    ·have Hq:=hd_ (Hp'.out hpq)
     subst hpq
     clear Hp' Hnk
     go_wp2_with fail
     clear x1 x2
     refine wp_region_quiet_below (by kernel_rfl) (by kernel_rfl) ?_
     repeat (first | go_big_quiet_step (fail) | quiet_step (fail))
     refine wpQuiet_nil ?_
     intro w6 hw6
     obtain ⟨⟨dq,osq⟩,rfl⟩:=hw6
     have B6:=hd_ (B.out.trans ((below_regrown wr dq osq).mono B.out.size))
     clear q1 q2 B
     generalize Go.Sort.grow (redrawn wr dq) osq=w6 at *
     go_wp2_with fail
     go_roundw
     case rel=>exact ⟨k + 1,HK.out,by go_num,Hq,B6⟩
     case measure=>simp [intOf]; omega
    ·have Hz:Hid (decide (la=lb)=false):=decide_eq_false (Hnk.out hpq)
     have hpq':(p == q)=false:=by rw [beq_eq_false_iff_ne]; exact hpq
     clear Hp' Hnk
     go_wp2_with fail
     clear x1 x2
     refine wp_region_quiet_below (by kernel_rfl) (by kernel_rfl) ?_
     repeat (first | go_big_quiet_step (fail) | quiet_step (fail))
     refine wpQuiet_nil ?_
     intro w6 hw6
     obtain ⟨⟨dq,osq⟩,rfl⟩:=hw6
     have B6:=hd_ (B.out.trans ((below_regrown wr dq osq).mono B.out.size))
     clear q1 q2 B
     generalize Go.Sort.grow (redrawn wr dq) osq=w6 at *
     go_wp2_with fail
     go_ret
     exact ⟨by rw [Hz.out]; rfl,B6.out⟩
   ·have hlt':¬ (k:Int) < n:=by omega
    have Hz:Hid (decide (la=lb)=true):=decide_eq_true (Hyes.out k Hp.out (by rw [Hn.out]; omega))
    clear Hp
    go_wp2_with fail
    go_ret
    exact ⟨by rw [Hz.out]; rfl,B.out⟩
 ·have Hz:Hid (decide (la=lb)=false):=decide_eq_false fun h=>hl (by rw [h])
  have hne:((la.length:Int) == lb.length)=false:=by rw [beq_eq_false_iff_ne]; omega
  clear r1 r2 hl
  generalize la.length=n at *
  generalize lb.length=m at *
  go_enter Tryz.func32,Tryz.ntmps32
  go_wp2_with fail
  go_ret
  exact ⟨by rw [Hz.out]; rfl,Below.refl _ _⟩
theorem islEqI_any (w:World) (a1 a2:Option Addr) (c1 c2:Nat) (la lb:List Int) (r1:Rd w a1 (ints la)) (r2:Rd w a2 (ints lb)) (hbig:la.length≤1000000) :
  Gives Tryz.prog 39 #[.slice a1 la.length c1,.slice a2 lb.length c2] w (.bool (decide (la=lb))):=by
 unfold Gives
 by_cases hl:la.length=lb.length
 ·have R1:=hd_ r1
  have R2:=hd_ r2
  have Hyes:Hid (∀ k,(∀ j (h1:j < la.length) (h2:j < lb.length),j < k→la[j]=lb[j])→k=la.length→la=lb):=fun k h hk=>List.ext_getElem hl fun i h1 h2=>h i h1 h2 (by omega)
  have Hno:Hid (∀ k (h1:k < la.length) (h2:k < lb.length),la[k]≠lb[k]→¬ la=lb):=fun k h1 h2 hne he=>hne (by subst he; rfl)
  obtain ⟨n,hn⟩:∃ n,la.length=n:=⟨_,rfl⟩
  have hm:lb.length=n:=hl.symm.trans hn
  rw [hn] at hbig
  rw [hn,hm]
  have Hn:=hd_ hn
  have Hm:=hd_ hm
  clear hl r1 r2 hn hm
  go_enter Tryz.func39,Tryz.ntmps39
  go_wp2_with fail
  go_loopw [13] (fun i wr=>∃ k:Nat,k≤n∧i = .int .i64 k∧Hid (∀ j (h1:j < la.length) (h2:j < lb.length),j < k→la[j]=lb[j])∧Hid (Below w.heap.size w wr)) (fun i _=>n - (intOf i).toNat)
  case atStart=>exact ⟨0,Nat.zero_le _,rfl,fun j _ _ hj=>absurd hj (Nat.not_lt_zero _),Below.refl _ _⟩
  case round =>
   obtain ⟨k,hk,rfl,Hp,B⟩:=hrel
   by_cases hlt:k < n
   ·have hlt':(k:Int) < n:=by omega
    have h1:k < la.length:=by rw [Hn.out]; exact hlt
    have h2:k < lb.length:=by rw [Hm.out]; exact hlt
    obtain ⟨g1,o1,rfl,hg1,hc1⟩:=R1.out.open (by rw [ints_length]; omega)
    obtain ⟨g2,o2,rfl,hg2,hc2⟩:=R2.out.open (by rw [ints_length]; omega)
    have x1:=hc1 k _ (ints_get la k h1)
    have x2:=hc2 k _ (ints_get lb k h2)
    rw [← B.out.cell (p:=⟨g1,o1 + k,none⟩) hg1] at x1
    rw [← B.out.cell (p:=⟨g2,o2 + k,none⟩) hg2] at x2
    have Hp':Hid (la[k]=lb[k]→∀ j (h1:j < la.length) (h2:j < lb.length),j < k + 1→la[j]=lb[j]):=fun he j g1 g2 hj=>by
     rcases Nat.lt_or_ge j k with h | h
     ·exact Hp.out j g1 g2 h
     ·have e:j=k:=by omega
      subst e; exact he
    have Hnk:=hd_ (Hno.out k h1 h2)
    clear Hp hc1 hc2
    generalize la[k]=p at *
    generalize lb[k]=q at *
    have q1:=cell_regrown x1
    have q2:=cell_regrown x2
    have HK:=hd_ hlt
    by_cases hpq:p=q
    ·have Hq:=hd_ (Hp'.out hpq)
     subst hpq
     clear Hp' Hnk
     go_wp2_with fail
     clear x1 x2
     refine wp_region_quiet_below (by kernel_rfl) (by kernel_rfl) ?_
     repeat (first | go_big_quiet_step (fail) | quiet_step (fail))
     refine wpQuiet_nil ?_
     intro w6 hw6
     obtain ⟨⟨dq,osq⟩,rfl⟩:=hw6
     have B6:=hd_ (B.out.trans ((below_regrown wr dq osq).mono B.out.size))
     clear q1 q2 B
     generalize Go.Sort.grow (redrawn wr dq) osq=w6 at *
     go_wp2_with fail
     go_roundw
     case rel=>exact ⟨k + 1,HK.out,by go_num,Hq,B6⟩
     case measure=>simp [intOf]; omega
    ·have Hz:Hid (decide (la=lb)=false):=decide_eq_false (Hnk.out hpq)
     have hpq':(p == q)=false:=by rw [beq_eq_false_iff_ne]; exact hpq
     clear Hp' Hnk
     go_wp2_with fail
     clear x1 x2
     refine wp_region_quiet_below (by kernel_rfl) (by kernel_rfl) ?_
     repeat (first | go_big_quiet_step (fail) | quiet_step (fail))
     refine wpQuiet_nil ?_
     intro w6 hw6
     obtain ⟨⟨dq,osq⟩,rfl⟩:=hw6
     have B6:=hd_ (B.out.trans ((below_regrown wr dq osq).mono B.out.size))
     clear q1 q2 B
     generalize Go.Sort.grow (redrawn wr dq) osq=w6 at *
     go_wp2_with fail
     go_ret
     exact ⟨by rw [Hz.out]; rfl,B6.out⟩
   ·have hlt':¬ (k:Int) < n:=by omega
    have Hz:Hid (decide (la=lb)=true):=decide_eq_true (Hyes.out k Hp.out (by rw [Hn.out]; omega))
    clear Hp
    go_wp2_with fail
    go_ret
    exact ⟨by rw [Hz.out]; rfl,B.out⟩
 ·have Hz:Hid (decide (la=lb)=false):=decide_eq_false fun h=>hl (by rw [h])
  have hne:((la.length:Int) == lb.length)=false:=by rw [beq_eq_false_iff_ne]; omega
  clear r1 r2 hl
  generalize la.length=n at *
  generalize lb.length=m at *
  go_enter Tryz.func39,Tryz.ntmps39
  go_wp2_with fail
  go_ret
  exact ⟨by rw [Hz.out]; rfl,Below.refl _ _⟩
theorem made_zeros15 (n:Nat):madeCells #[.int .i64 0] n=(ints (List.replicate n 0)).toArray:=by
 apply Array.ext'
 rw [toList_madeCells_one]
 simp [ints]
theorem made_i15 (n:Nat) (w:World) (hn:n≤100000000) :
  (Instr.makeSlice 25 (.int .i64 (n:Int)) (.int .i64 (n:Int))).run Tryz.prog w = .ok (.slice (some ⟨w.heap.size,0,none⟩) n n) (w.alloc (.cells (ints (List.replicate n 0)).toArray 3)):=by
 have:=run_make_row' (P:=Tryz.prog) 25 3 (.int .i64 0) 8 Tryz.underlying25 infoP rfl .i64 .i64 n (by omega) (by omega) w
 rw [made_zeros15] at this
 exact this
theorem own_made15 (w:World) (l:List Int) (hl:l.length≤100000000):OwnI (w.alloc (.cells (ints l).toArray 3)) w.heap.size (some ⟨w.heap.size,0,none⟩) l.length l :=
 ⟨by simp [ints_length],.inr ⟨w.heap.size,l.length,(ints l).toArray,rfl,Nat.le_refl _,heap_alloc_new _ _,Nat.le_refl _,by unfold maxLen; omega,by simp [ints_length],by rw [Nat.mul_one]; exact List.take_of_length_le (by simp [ints_length])⟩⟩
theorem OwnI.at15 {w:World} {B c g:Nat} {l:List Int} (h:OwnI w B (some ⟨g,0,none⟩) c l) {i:Nat} (hi:i < l.length) :
  w.cell? ⟨g,i,none⟩=some (.int .i64 (l.getD i 0))∧w.frozen? ⟨g,i,none⟩=false∧g < w.heap.size∧B≤g:=by
 obtain ⟨g',cap,hv,h1,h2,h3,h4,h5⟩:=own_open h (by omega)
 simp only [Value.slice.injEq,Option.some.injEq,Addr.mk.injEq,and_true] at hv
 obtain ⟨rfl,-,rfl⟩:=hv
 refine ⟨?_,h5 i,h2,h1⟩
 rw [h4 i (by omega),ints_get l i hi,List.getD_eq_getElem?_getD,List.getElem?_eq_getElem hi]
 rfl
theorem OwnI.put15 {w:World} {B c g:Nat} {l:List Int} (h:OwnI w B (some ⟨g,0,none⟩) c l) (i:Nat) (x:Int) :
  OwnI (w.setCell ⟨g,i,none⟩ (.int .i64 x)) B (some ⟨g,0,none⟩) c (l.set i x)∧w.grownBy (w.setCell ⟨g,i,none⟩ (.int .i64 x)) (some g):=by
 have:=World.ownsRow.stored h i (.int .i64 x)
 refine ⟨?_,this.2⟩
 unfold OwnI
 rw [List.length_set,show ints (l.set i x)=(ints l).set i (.int .i64 x) by simp [ints,List.map_set]]
 exact this.1
def cI (ps x y:List Int):Int:=LN.sz ps (difQ (rq x) (rq y))
theorem cmpA_ok {W:World} {ps:List Int} (P:PrOk ps) {a0 a1 a2:Option Addr} (c0 c1 c2:Nat) {la lb:List Rat} (rp:Rd W a0 (ints ps)) (r1:Rd W a1 (cellsQ la)) (r2:Rd W a2 (cellsQ lb))
  (l1:la.length=ps.length) (l2:lb.length=ps.length) (s1:∀ q∈la,Sm 30 q) (s2:∀ q∈lb,Sm 30 q) (g:Good ps (difQ la lb)) (L:Laid W) :
  Gives Tryz.prog 105 #[.slice a0 ps.length c0,.slice a1 ps.length c1,.slice a2 ps.length c2] W (.tuple #[.int .i64 (LN.sz ps (difQ la lb)),.int .i64 0]):=by
 have h6:=P.n6
 have e:sumQ ps.length [la,lb] [1,-1]=difQ la lb:=by
  rw [sumQ_two _ _ _ _ _ l1 l2]
  unfold difQ
  rw [rat_one_int,rat_mone_int]
 have h:=Compare_dec W ps a0 a1 a2 c0 c1 c2 la lb ⟨rp,r1,l1,by omega,P.pr,s1,by decide⟩ ⟨rp,r2,l2,by omega,P.pr,s2,by decide⟩ P.p0 L (by rw [e]; exact g)
 rw [e,l1,l2] at h
 exact h
theorem cmpI_ok {W:World} {ps:List Int} (P:PrOk ps) {a0 a1 a2:Option Addr} (c0 c1 c2:Nat) {x y:List Int} (rp:Rd W a0 (ints ps)) (r1:Rd W a1 (cellsQ (rq x))) (r2:Rd W a2 (cellsQ (rq y)))
  (l1:x.length=ps.length) (l2:y.length=ps.length) (s1:Bd 50000 x) (s2:Bd 50000 y) (L:Laid W) :
  Gives Tryz.prog 105 #[.slice a0 ps.length c0,.slice a1 ps.length c1,.slice a2 ps.length c2] W (.tuple #[.int .i64 (cI ps x y),.int .i64 0]) :=
 cmpA_ok P c0 c1 c2 rp r1 r2 (by rw [rq_length,l1]) (by rw [rq_length,l2]) (s1.sm (by decide) (by decide)) (s2.sm (by decide) (by decide)) (by rw [difQ_rq (l1.trans l2.symm)]; exact (s1.sub s2).good (by decide) P) L
theorem lcompare_ok (w:World) (ps:List Int) (P:PrOk ps) (a0 a1 a2:Option Addr) (c0 c1 c2:Nat) (x y:List Int) (rp:Rd w a0 (ints ps)) (r1:Rd w a1 (ints x)) (r2:Rd w a2 (ints y)) (l1:x.length=ps.length) (l2:y.length=ps.length) (s1:Xs x) (s2:Xs y) (L:Laid w) :
  Gives Tryz.prog 46 #[.slice a0 ps.length c0,.slice a1 ps.length c1,.slice a2 ps.length c2] w (.int .i64 (cI ps x y)):=by
 unfold Gives
 have HO:Hid (∀ W x a c,Below w.heap.size w W→Rd W a (ints x)→x.length=ps.length→Xs x→Calls Tryz.prog 104 #[.slice a0 ps.length c0,.slice a ps.length c] W fun e w'=>∃ a c,e = .returned (.tuple #[.slice a ps.length c,.int .i64 0])∧Rd w' a (cellsQ (rq x))∧Below W.heap.size W w'):=fun W x a c hW hrx h1 h2=>by
  have:=of_ok W a0 a c0 c ps x (rp.below hW nr_) P.i64 hrx (fun y hy=>by have:=h2 y hy; omega) (mcode_one P.p0 h2 h1) (L.below hW)
  unfold GivesOk at this
  rw [List.length_map,h1] at this
  refine cm_ this ?_
  rintro e w' ⟨a,c,rfl,ho,hb⟩
  exact ⟨a,c,rfl,ho.rd,hb⟩
 have HX:=hd_ (fun W a c hW hr=>HO.out W x a c hW hr l1 s1)
 have HY:=hd_ (fun W a c hW hr=>HO.out W y a c hW hr l2 s2)
 have HC:Hid (∀ W a a' c c',Below w.heap.size w W→Rd W a (cellsQ (rq x))→Rd W a' (cellsQ (rq y))→Gives Tryz.prog 105 #[.slice a0 ps.length c0,.slice a ps.length c,.slice a' ps.length c'] W (.tuple #[.int .i64 (cI ps x y),.int .i64 0])):=fun W a a' c c' hW h1 h2 =>
  cmpI_ok P c0 c c' (rp.below hW nr_) h1 h2 l1 l2 (s1.bd.le (by decide)) (s2.bd.le (by decide)) (L.below hW)
 have R1:=hd_ r1
 have R2:=hd_ r2
 clear HO rp r1 r2 l1 l2 s1 s2 L P
 generalize cI ps x y=z at *
 generalize ps.length=n at *
 have B:=hd_ (Below.refl w.heap.size w)
 go_enter Tryz.func46,Tryz.ntmps46
 go_wp2_with fail
 refine cm_ (HX.out _ _ _ B.out R1.out) ?_
 rintro e_ w1 ⟨a3,c3,rfl,hr_,hb_⟩
 have R3:=hd_ hr_
 replace R2:=hd_ (R2.out.below hb_ nr_)
 replace B:=hd_ (B.out.trans (hb_.mono B.out.size))
 clear hr_ hb_ HX R1
 go_wp2_with fail
 refine cm_ (HY.out _ _ _ B.out R2.out) ?_
 rintro e_ w2 ⟨a4,c4,rfl,hr_,hb_⟩
 have R4:=hd_ hr_
 replace R3:=hd_ (R3.out.below hb_ nr_)
 replace B:=hd_ (B.out.trans (hb_.mono B.out.size))
 clear hr_ hb_ HY R2
 go_wp2_with fail
 refine cm_ (HC.out _ _ _ _ _ B.out R3.out R4.out) ?_
 rintro e_ w3 ⟨rfl,hb_⟩
 replace B:=hd_ (B.out.trans (hb_.mono B.out.size))
 clear hb_ HC R3 R4
 go_wp2_with fail
 go_ret
 exact ⟨rfl,B.out⟩
end Go.Proofs.YtkoicfghplmghaaGreatDoor

namespace Go.Proofs.YtkoicfghplmghaaGreatDoor
open Go.RowKit
theorem iunit_ok (w:World) (a0:Option Addr) (c0 n:Nat) (h0:0 < n) (h6:n≤1000) :
  Calls Tryz.prog 98 #[.slice a0 n c0] w fun e w'=>∃ a c,e = .returned (.slice a n c)∧Rd w' a (ints (unitI n))∧Below w.heap.size w w':=by
 have hmk:=made_i15 n w (by omega)
 have O:=hd_ (own_made15 w (List.replicate n 0) (by simp; omega))
 have B:=hd_ ((Below.refl w.heap.size w).alloc nr_ (.cells (ints (List.replicate n 0)).toArray 3))
 obtain ⟨k0,f0,-,-⟩:=O.out.at15 (i:=0) (by simp; omega)
 rw [List.getD_eq_getElem?_getD,List.getElem?_replicate,if_pos h0] at k0
 simp only [Option.getD_some] at k0
 have O2:=hd_ (own_made15 w (unitI n) (by rw [unitI_length]; omega))
 have hset:Hid ((ints (List.replicate n 0)).set 0 (.int .i64 1)=ints (unitI n)):=by show _=_; simp [ints,unitI,List.map_set]
 have B2:=hd_ ((Below.refl w.heap.size w).alloc nr_ (.cells (ints (unitI n)).toArray 3))
 have hn0:(0:Int) < n:=by omega
 clear O B
 go_enter Tryz.func98,Tryz.ntmps98
 go_wp2_with fail
 go_ret
 rw [hset.out]
 exact ⟨some ⟨w.heap.size,0,none⟩,n,rfl,O2.out.rd,B2.out⟩
end Go.Proofs.YtkoicfghplmghaaGreatDoor

namespace Go.Proofs.YtkoicfghplmghaaGreatDoor
open Go.RowKit
theorem iclone_ok (w:World) (b o c:Nat) (l:List Int) (hr:Rd w (some ⟨b,o,none⟩) (ints l)) (hl:l.length≤1000) (h0:0 < l.length) :
  Calls Tryz.prog 89 #[.slice (some ⟨b,o,none⟩) l.length c] w fun e w'=>∃ g d,e = .returned (.slice (some ⟨g,0,none⟩) l.length d)∧OwnI w' w.heap.size (some ⟨g,0,none⟩) d l∧Below w.heap.size w w':=by
 obtain ⟨i0,hi,hz0,hz1,hz2⟩:=info_parts infoP
 have q22:∀ (w:World) (a:Option Addr) (n c n' c':Nat),(binOp .eql 25 (.slice a n c) (.slice none n' c')).run Tryz.prog w = .ok (.bool a.isNone) w:=fun w a n c n' c'=>Lib.run_eql_slice_nil w _ _ a n c n' c' Tryz.underlying25
 obtain ⟨b',off,e0,hb',hc0⟩:=hr.open (by rw [ints_length]; exact h0)
 simp only [Option.some.injEq,Addr.mk.injEq,and_true] at e0
 obtain ⟨rfl,rfl⟩:=e0
 have Hc:Hid (∀ j u,(ints l)[j]?=some u→w.cell? ⟨b,o + j,none⟩=some u):=hc0
 have Hone:Hid (∀ u∈ints l,u.oneCell'=true):=fun u hu=>by
  obtain ⟨x,_,rfl⟩:=List.mem_map.1 hu
  rfl
 have Hlen:Hid ((ints l).length=l.length):=ints_length l
 clear hc0 hr
 unfold OwnI
 generalize ints l=vs at *
 generalize l.length=n at *
 go_enter Tryz.func89,Tryz.ntmps89
 go_wp2_with (at_builtin; refine wpList_append_own _ rfl _ _ 25 rfl w.heap.size 3 i0 (.int .i64 0) 1 8 Tryz.underlying25 hi hz0 hz1 hz2 rfl (by decide) _ _ _ rfl (World.ownsRow_made w #[] 0 nr_ (Nat.zero_le _) rfl) ⟨b,o,none⟩ n c vs rfl ?qc1 ?qc2 ?qc3 ?qc4 ?qc5 ?qc6 ?_)
 case qc1=>rw [Hlen.out]; omega
 case qc2 =>
  intro j u hj
  rw [Addr.add_lit]
  exact Lib.cell?_alloc_some _ (Hc.out j u hj)
 case qc3=>exact Hone.out
 case qc4=>unfold maxLen; omega
 case qc5=>omega
 case qc6=>simp
 intro v' w1 hown hgrow hnil
 obtain ⟨a3,d3,rfl⟩:=own_form hown
 have hown':w1.ownsRow w.heap.size 3 1 (.slice a3 n d3) n vs:=by simpa using hown
 have B:=hd_ (((Below.refl _ w).alloc nr_ (.cells #[] 3)).grown hgrow (by simp) (by intro k hk; simp [Value.ownBlock] at hk; omega))
 obtain ⟨g,cap,hv,-,-,-,-,-⟩:=own_open hown' h0
 simp only [Value.slice.injEq] at hv
 obtain ⟨rfl,-,rfl⟩:=hv
 have O:=hd_ hown'
 clear hown hown' hgrow hnil
 go_wp2_with fail
 go_ret
 exact ⟨g,d3,rfl,O.out,B.out⟩
theorem unitI_xs (n:Nat):Xs (unitI n):=fun a ha=>by have:=unitI_bd n a ha; omega
structure TwoR (w:World) (n:Nat) (g:Nat) (la lb:List Rat):Prop where
 lt:g < w.heap.size
 k0:∃ a c,w.cell? ⟨g,0,none⟩=some (.slice a n c)∧Rd w a (cellsQ la)
 k1:∃ a c,w.cell? ⟨g,1,none⟩=some (.slice a n c)∧Rd w a (cellsQ lb)
theorem isizes_two (w:World) (ps:List Int) (P:PrOk ps) (a0 a1 a2:Option Addr) (c0 c1 c2 g:Nat) (x y:List Int) (rp:Rd w a0 (ints ps)) (hg:w.heap[g]?=some (.cells #[.slice a1 ps.length c1,.slice a2 ps.length c2] 25 (0,0))) (r1:Rd w a1 (ints x)) (r2:Rd w a2 (ints y))
  (l1:x.length=ps.length) (l2:y.length=ps.length) (s1:Xs x) (s2:Xs y) (L:Laid w) :
  Calls Tryz.prog 67 #[.slice a0 ps.length c0,.slice (some ⟨g,0,none⟩) 2 2] w fun e w'=>∃ g' d,e = .returned (.slice (some ⟨g',0,none⟩) 2 d)∧TwoR w' ps.length g' (rq x) (rq y)∧Below w.heap.size w w':=by
 have hiv:Iv ps.length [x,y]:=fun z hz=>by
  simp only [List.mem_cons,List.not_mem_nil,or_false] at hz
  rcases hz with rfl | rfl
  ·exact ⟨l1,s1⟩
  ·exact ⟨l2,s2⟩
 refine cm_ (isizes_ok w ps P a0 (some ⟨g,0,none⟩) c0 2 [x,y] rp (rdi_two (by rw [l1,l2]; exact hg) r1 r2) (by simp) hiv L) ?_
 rintro e w' ⟨b,d,LL,rfl,ho,hb⟩
 have hlen:LL.length=2:=ho.len
 obtain ⟨g',cap,hv,-,h2,-,-,-⟩:=own_open ho.row (by omega)
 simp only [Value.slice.injEq] at hv
 obtain ⟨rfl,-,rfl⟩:=hv
 obtain ⟨b',off,e',hlt,hc⟩:=rdl_cells ho.rdl ho.lens (by simp)
 simp only [Option.some.injEq,Addr.mk.injEq,and_true] at e'
 obtain ⟨rfl,rfl⟩:=e'
 obtain ⟨p0,q0,k0,z0⟩:=hc 0 (by simp)
 obtain ⟨p1,q1,k1,z1⟩:=hc 1 (by simp)
 exact ⟨g',d,rfl,⟨h2,⟨p0,q0,k0,z0⟩,⟨p1,q1,k1,z1⟩⟩,hb⟩
theorem ifloor_of (w:World) (ps:List Int) (P:PrOk ps) (a0 a1 a2:Option Addr) (c0 c1 c2:Nat) (x y:List Int) (q:Int) (rp:Rd w a0 (ints ps)) (r1:Rd w a1 (ints x)) (r2:Rd w a2 (ints y)) (l1:x.length=ps.length) (l2:y.length=ps.length) (s1:Xs x) (s2:Xs y) (L:Laid w)
  (hq : -9223372036854775808≤q∧q≤9223372036854775807)
  (hF:∀ W b1 b2 d1 d2,Below w.heap.size w W→Rd W b1 (cellsQ (rq x))→Rd W b2 (cellsQ (rq y))→Gives Tryz.prog 106 #[.slice a0 ps.length c0,.slice b1 ps.length d1,.slice b2 ps.length d2] W (.tuple #[.string (itx q),.int .i64 0])) :
  Gives Tryz.prog 97 #[.slice a0 ps.length c0,.slice a1 ps.length c1,.slice a2 ps.length c2] w (.tuple #[.int .i64 q,.int .i64 0]):=by
 unfold Gives
 have HS:Hid (∀ W g,Below w.heap.size w W→W.heap[g]?=some (.cells #[.slice a1 ps.length c1,.slice a2 ps.length c2] 25 (0,0))→Calls Tryz.prog 67 #[.slice a0 ps.length c0,.slice (some ⟨g,0,none⟩) 2 2] W fun e w'=>∃ g' d,e = .returned (.slice (some ⟨g',0,none⟩) 2 d)∧TwoR w' ps.length g' (rq x) (rq y)∧Below W.heap.size W w'):=fun W g hW hg =>
  isizes_two W ps P a0 a1 a2 c0 c1 c2 g x y (rp.below hW nr_) hg (r1.below hW nr_) (r2.below hW nr_) l1 l2 s1 s2 (L.below hW)
 have HF:=hd_ hF
 have HM:Hid (∀ W,Below w.heap.size w W→Gives Tryz.prog 149 #[.string (itx q)] W (.tuple #[.int .i64 q,.bool true])):=fun W hW=>by
  have:=smallz_any W q (num_pow (D:=20) (by omega) (by decide) (by decide)) (L.below hW)
  rw [if_pos hq] at this
  exact this
 clear rp r1 r2 l1 l2 s1 s2 L hF P
 generalize itx q=s at *
 generalize ps.length=n at *
 have B0:=hd_ ((Below.refl w.heap.size w).alloc nr_ (.cells #[.slice a1 n c1,.slice a2 n c2] 25))
 go_enter Tryz.func97,Tryz.ntmps97
 go_wp2_with fail
 refine cm_ (HS.out _ _ B0.out (heap_at w _ _ _ rfl)) ?_
 rintro e_ w1 ⟨g,d,rfl,T,hb_⟩
 have B1:=hd_ (B0.out.trans (hb_.mono B0.out.size))
 obtain ⟨b1,d1,k0,z0⟩:=T.k0
 obtain ⟨b2,d2,k1,z1⟩:=T.k1
 have q0:=BW.cell k0
 have q1:=BW.cell k1
 have hnon:Nonempty (BW w1):=⟨⟨w1,Below.refl _ _⟩⟩
 have I:Hid (Below w1.heap.size w1 w1.drew):=(Below.refl _ _).drew
 have HFl:Hid (∀ W,Below w1.heap.size w1 W→Gives Tryz.prog 106 #[.slice a0 n c0,.slice b1 n d1,.slice b2 n d2] W (.tuple #[.string s,.int .i64 0])):=fun W hW =>
  HF.out W b1 b2 d1 d2 (B1.out.trans (hW.mono B1.out.size)) (z0.below hW nr_) (z1.below hW nr_)
 clear hb_ T z0 z1 HF HS B0
 go_wp2_with fail
 clear k0 k1
 refine RY.wp_region_readers 7 [(1,0),(1,1),(1,2),(1,3),(1,4),(1,5),(1,6),(0,7),(0,8),(2,9),(2,10),(0,11),(0,12)] (fun w'=>∃ p:BW w1,w'=p.w) (by kernel_rfl) (by kernel_rfl) ?_ ?_
 ·exact ⟨⟨_,I.out⟩,rfl⟩
 iterate 7 (refine RY.walkR_read ?_; simp only [dsc_,dz_,tsc_,tz_]; go_big_quiet_step (fail); refine wpQuiet_nil ?_)
 clear hnon q0 q1
 refine RY.walkR_move ?_
 simp only [dsc_,dz_,tsc_,tz_]
 go_wp2_with fail
 refine cm_ (HFl.out _ I.out) ?_
 rintro e_ w2 ⟨rfl,hb_⟩
 have I2:=hd_ (I.out.trans (hb_.mono I.out.size))
 have B2:=hd_ (B1.out.trans (I2.out.mono B1.out.size))
 clear hb_ I HFl I2 B1
 go_wp2_with fail
 refine RY.walkR_move ?_
 simp only [dsc_,dz_,tsc_,tz_]
 go_wp2_with fail
 iterate 2 (refine RY.walkR_any ?_; simp only [dsc_,dz_,tsc_,tz_]; go_big_quiet_step (fail); refine wpQuiet_nil ?_)
 refine RY.walkR_move ?_
 simp only [dsc_,dz_,tsc_,tz_]
 go_wp2_with fail
 refine RY.walkR_move ?_
 simp only [dsc_,dz_,tsc_,tz_]
 go_wp2_with fail
 simp only [RY.walkR]
 go_wp2_with fail
 refine cm_ (HM.out _ B2.out) ?_
 rintro e_ w3 ⟨rfl,hb_⟩
 have B3:=hd_ (B2.out.trans (hb_.mono B2.out.size))
 clear hb_ HM B2
 go_wp2_with fail
 go_ret2
 exact ⟨rfl,B3.out⟩
end Go.Proofs.YtkoicfghplmghaaGreatDoor

namespace Go.Proofs.YtkoicfghplmghaaGreatDoor
open Go.RowKit
def addE (k:Int) (x:List Int):List Int:=x.set 0 (x.getD 0 0 + k)
theorem addE_length (k:Int) (x:List Int):(addE k x).length=x.length:=by simp [addE]
theorem iequaves_ok (w:World) (ps:List Int) (P:PrOk ps) (a0 a1:Option Addr) (c0 c1:Nat) (x:List Int) (k:Int) (rp:Rd w a0 (ints ps)) (r1:Rd w a1 (ints x)) (l1:x.length=ps.length) (s1:Xs x) (hk:k.natAbs≤1000000000) :
  Calls Tryz.prog 99 #[.slice a0 ps.length c0,.slice a1 ps.length c1,.int .i64 k] w fun e w'=>ResI w' ps.length (addE k x) e∧Below w.heap.size w w':=by
 have h6:=P.n6
 have hn0:=P.n0
 obtain ⟨b1,o1,rfl,hb1,hc1⟩:=r1.open (by rw [ints_length]; omega)
 have HC:Hid (Calls Tryz.prog 89 #[.slice (some ⟨b1,o1,none⟩) ps.length c1] w fun e w'=>∃ g d,e = .returned (.slice (some ⟨g,0,none⟩) ps.length d)∧OwnI w' w.heap.size (some ⟨g,0,none⟩) d x∧Below w.heap.size w w'):=by
  have:=iclone_ok w b1 o1 c1 x r1 (by omega) (by omega)
  rw [l1] at this
  exact this
 have HK:Hid (∀ W a c,Below w.heap.size w W→Rd W a (ints (addE k x))→Gives Tryz.prog 17 #[.slice a0 ps.length c0,.slice a ps.length c] W (.int .i64 (mx (addE k x)))):=fun W a c hW hr=>by
  have:=monCheck_any W a0 a c0 c ps (addE k x) (rp.below hW nr_) P.i64 (by omega) hr (by rw [addE_length]; omega)
  rw [addE_length,l1] at this
  have e:mcode1 ps (addE k x)=mx (addE k x):=by
   unfold mcode1 mcode
   rw [if_pos P.p0,mgo,mrow,if_pos ((addE_length k x).trans l1),mgo]
   split
   ·rename_i h; exact h.symm
   ·rfl
  rw [e] at this
  exact this
 have hx0 : -1000≤x.getD 0 0∧x.getD 0 0≤1000:=by
  rw [List.getD_eq_getElem?_getD,List.getElem?_eq_getElem (by omega)]
  exact s1 _ (List.getElem_mem _)
 have Hset:Hid (x.set 0 (x.getD 0 0 + k)=addE k x):=rfl
 have h2:=mx_two (addE k x)
 have Hl1:=hd_ l1
 have hwr:IntKind.i64.wrap (x.getD 0 0 + k)=x.getD 0 0 + k:=iw_ _ (by omega)
 have h0:0 < x.length:=by omega
 clear rp r1 l1 s1 hk hc1 hb1
 have HV:Hid (∀ W e,ResI W ps.length (addE k x) e=((mx (addE k x)=0∧∃ a c,e = .returned (.tuple #[.slice a ps.length c,.int .i64 0])∧Rd W a (ints (addE k x)))∨(mx (addE k x)≠0∧e = .returned (.tuple #[.slice none 0 0,.int .i64 4])))):=fun _ _=>rfl
 generalize hy:addE k x=y at *
 clear hy
 generalize mx y=m at *
 generalize ps.length=n at *
 go_enter Tryz.func99,Tryz.ntmps99
 go_wp2_with fail
 refine cm_ HC.out ?_
 rintro e_ w1 ⟨g,d,rfl,ho_,hb_⟩
 have B1:=hd_ hb_
 obtain ⟨k0,f0,hlt,hB⟩:=ho_.at15 h0
 have O2:=hd_ (ho_.put15 0 (x.getD 0 0 + k)).1
 rw [Hset.out] at O2
 have B2:=hd_ (B1.out.setCell (p:=⟨g,0,none⟩) hB (.int .i64 (x.getD 0 0 + k)))
 clear hb_ ho_ HC B1 Hset hlt hB
 generalize x.getD 0 0=x0 at *
 have hn0':(0:Int) < n:=by omega
 go_wp2_with fail
 generalize w1.setCell ⟨g,0,none⟩ (.int .i64 (x0 + k))=w2 at *
 refine cm_ (HK.out _ _ _ B2.out O2.out.rd) ?_
 rintro e_ w3 ⟨rfl,hb_⟩
 have B3:=hd_ (B2.out.trans (hb_.mono B2.out.size))
 have R3:=hd_ (O2.out.rd.below hb_ nr_)
 clear hb_ HK B2 O2
 rcases h2 with rfl | rfl
 ·go_wp2_with fail
  go_ret2
  exact ⟨by rw [HV.out]; exact .inl ⟨(by first | trivial | rfl),_,d,rfl,R3.out⟩,B3.out⟩
 ·go_wp2_with fail
  go_ret2
  exact ⟨by rw [HV.out]; exact .inr ⟨by decide,rfl⟩,B3.out⟩
def ResJ (w:World) (n:Nat) (l:List Int) (q:Int) (e:Ending):Prop:=(mx l=0∧∃ a c,e = .returned (.tuple #[.slice a n c,.int .i64 q,.int .i64 0])∧Rd w a (ints l))∨(mx l≠0∧e = .returned (.tuple #[.slice none 0 0,.int .i64 0,.int .i64 4]))
theorem ResJ.form {w:World} {n:Nat} {l:List Int} {q:Int} {e:Ending} (h:ResJ w n l q e):∃ v1 v2 v3,e = .returned (.tuple #[v1,v2,v3]):=by
 rcases h with ⟨_,a,c,h,_⟩ | ⟨_,h⟩
 ·exact ⟨_,_,_,h⟩
 ·exact ⟨_,_,_,h⟩
theorem ocode_one {ps x:List Int} (P:PrOk ps) (l1:x.length=ps.length) (s1:Xs x):ocode ps [] [x]=0:=by
 unfold ocode
 rw [if_pos P.p0,if_neg (by simp),List.nil_append,mgo,if_pos (mrow_ok s1 l1),mgo]
theorem iReduce_of (w:World) (ps:List Int) (P:PrOk ps) (a0 a1:Option Addr) (c0 c1:Nat) (x:List Int) (rp:Rd w a0 (ints ps)) (r1:Rd w a1 (ints x)) (l1:x.length=ps.length) (s1:Xs x) (q:Int) (hf : -2000000≤q∧q≤2000000) (hF:∀ W b1 b2 d1 d2,Below w.heap.size w W→Rd W b1 (cellsQ (rq x))→Rd W b2 (cellsQ (rq (unitI ps.length)))→Gives Tryz.prog 106 #[.slice a0 ps.length c0,.slice b1 ps.length d1,.slice b2 ps.length d2] W (.tuple #[.string (itx q),.int .i64 0])) (L:Laid w) :
  Calls Tryz.prog 40 #[.slice a0 ps.length c0,.slice a1 ps.length c1] w fun e w'=>ResJ w' ps.length (addE (-q) x) (q) e∧Below w.heap.size w w':=by
 have h6:=P.n6
 have hn0:=P.n0
 have HOp:Hid (∀ W g,Below w.heap.size w W→W.heap[g]?=some (.cells #[.slice a1 ps.length c1] 25 (0,0))→Gives Tryz.prog 93 #[.slice a0 ps.length c0,.slice none 0 0,.slice (some ⟨g,0,none⟩) 1 1] W (.int .i64 0)):=fun W g hW hg=>by
  have:=open_any W a0 none (some ⟨g,0,none⟩) c0 0 1 ps [] [x] (rp.below hW nr_) P.i64 (by omega) (.inl rfl) (rdi_one (by rw [l1]; exact hg) (r1.below hW nr_)) (fun _=>⟨rfl,rfl⟩) (fun h=>by cases h) (by simp) (by simp) (fun y hy=>by simp at hy; subst hy; omega)
  rw [ocode_one P l1 s1] at this
  exact this
 have HU:Hid (∀ W,Calls Tryz.prog 98 #[.slice a0 ps.length c0] W fun e w'=>∃ a c,e = .returned (.slice a ps.length c)∧Rd w' a (ints (unitI ps.length))∧Below W.heap.size W w'):=fun W=>iunit_ok W a0 c0 ps.length hn0 (by omega)
 have HF:Hid (∀ W a c,Below w.heap.size w W→Rd W a (ints (unitI ps.length))→Gives Tryz.prog 97 #[.slice a0 ps.length c0,.slice a1 ps.length c1,.slice a ps.length c] W (.tuple #[.int .i64 (q),.int .i64 0])):=fun W a c hW hr =>
  ifloor_of W ps P a0 a1 a c0 c1 c x (unitI ps.length) (q) (rp.below hW nr_) (r1.below hW nr_) hr l1 (unitI_length _) s1 (unitI_xs _) (L.below hW) (by omega) fun W' b1 b2 d1 d2 hW' h1 h2=>hF W' b1 b2 d1 d2 (hW.trans (hW'.mono hW.size)) h1 h2
 have HE:Hid (∀ W,Below w.heap.size w W→Calls Tryz.prog 99 #[.slice a0 ps.length c0,.slice a1 ps.length c1,.int .i64 (-q)] W fun e w'=>ResI w' ps.length (addE (-q) x) e∧Below W.heap.size W w'):=fun W hW =>
  iequaves_ok W ps P a0 a1 c0 c1 x (-q) (rp.below hW nr_) (r1.below hW nr_) l1 s1 (by omega)
 have HV:Hid (∀ W e,ResJ W ps.length (addE (-q) x) (q) e=((mx (addE (-q) x)=0∧∃ a c,e = .returned (.tuple #[.slice a ps.length c,.int .i64 (q),.int .i64 0])∧Rd W a (ints (addE (-q) x)))∨(mx (addE (-q) x)≠0∧e = .returned (.tuple #[.slice none 0 0,.int .i64 0,.int .i64 4])))):=fun _ _=>rfl
 clear rp r1 l1 s1 L P h6 hn0 hF
 generalize addE (-q) x=y at *
 generalize ps.length=n at *
 have hneg:IntKind.i64.wrap (-q) = -q:=iw_ _ (by omega)
 have B0:=hd_ ((Below.refl w.heap.size w).alloc nr_ (.cells #[.slice a1 n c1] 25))
 go_enter Tryz.func40,Tryz.ntmps40
 go_wp2_with fail
 refine cm_ (HOp.out _ _ B0.out (heap_at w _ _ _ rfl)) ?_
 rintro e_ w1 ⟨rfl,hb_⟩
 have B1:=hd_ (B0.out.trans (hb_.mono B0.out.size))
 clear hb_ HOp B0
 go_wp2_with fail
 refine cm_ (HU.out _) ?_
 rintro e_ w2 ⟨a2,c2,rfl,hr_,hb_⟩
 have B2:=hd_ (B1.out.trans (hb_.mono B1.out.size))
 have R2:=hd_ hr_
 clear hb_ hr_ HU B1
 go_wp2_with fail
 refine cm_ (HF.out _ _ _ B2.out R2.out) ?_
 rintro e_ w3 ⟨rfl,hb_⟩
 have B3:=hd_ (B2.out.trans (hb_.mono B2.out.size))
 clear hb_ HF B2 R2
 go_wp2_with fail
 refine cm_ (HE.out _ B3.out) ?_
 rintro e_ w4 ⟨hres,hb_⟩
 have B4:=hd_ (B3.out.trans (hb_.mono B3.out.size))
 clear hb_ HE B3
 rcases hres with ⟨h0,a4,c4,rfl,hr⟩ | ⟨h0,rfl⟩
 ·have R4:=hd_ hr
  have H0:=hd_ h0
  clear hr h0
  go_wp2_with fail
  go_ret3
  exact ⟨by rw [HV.out]; exact .inl ⟨H0.out,a4,c4,rfl,R4.out⟩,B4.out⟩
 ·have H0:=hd_ h0
  clear h0
  go_wp2_with fail
  go_ret3
  exact ⟨by rw [HV.out]; exact .inr ⟨H0.out,rfl⟩,B4.out⟩
end Go.Proofs.YtkoicfghplmghaaGreatDoor

namespace Go.Proofs.YtkoicfghplmghaaGreatDoor
open Go.RowKit
end Go.Proofs.YtkoicfghplmghaaGreatDoor

namespace Go.Proofs.YtkoicfghplmghaaGreatDoor
def startB (n:Nat) (m:Int):List Int:=List.replicate n (-m)
def nextB (m:Int):List Int→List Int
 | []=>[]
 | a :: r=>if a=m then -m :: nextB m r else (a + 1) :: r
def seqB (n:Nat) (m:Int):Nat→List Int
 | 0=>startB n m
 | k + 1=>nextB m (seqB n m k)
theorem nextB_length (m:Int):∀ x:List Int,(nextB m x).length=x.length
 | []=>rfl
 | a :: r=>by
  unfold nextB
  split
  ·simp [nextB_length m r]
  ·simp
theorem seqB_length (n:Nat) (m:Int):∀ k,(seqB n m k).length=n
 | 0=>by simp [seqB,startB]
 | k + 1=>by rw [seqB,nextB_length,seqB_length n m k]
def InBox (m:Int) (x:List Int):Prop:=∀ a∈x,-m≤a∧a≤m
theorem nextB_box {m:Int} (hm:0≤m):∀ {x:List Int},InBox m x→InBox m (nextB m x)
 | [],h=>h
 | a :: r,h=>by
  have h0:=h a List.mem_cons_self
  have hr:InBox m r:=fun b hb=>h b (List.mem_cons_of_mem _ hb)
  unfold nextB
  split
  ·intro b hb
   rcases List.mem_cons.1 hb with rfl | hb
   ·omega
   ·exact nextB_box hm hr b hb
  ·intro b hb
   rcases List.mem_cons.1 hb with rfl | hb
   ·omega
   ·exact hr b hb
theorem seqB_box {m:Int} (hm:0≤m) (n:Nat):∀ k,InBox m (seqB n m k)
 | 0=>fun a ha=>by
  obtain ⟨_,rfl⟩:=List.mem_replicate.1 ha
  omega
 | k + 1=>nextB_box hm (seqB_box hm n k)
def valB (m:Nat):List Int→Nat
 | []=>0
 | a :: r=>(a + m).toNat + (2 * m + 1) * valB m r
theorem valB_lt {m:Nat}:∀ {x:List Int},InBox m x→valB m x < (2 * m + 1) ^ x.length
 | [],_=>by simp [valB]
 | a :: r,h=>by
  have h0:=h a List.mem_cons_self
  have ih:=valB_lt (m:=m) (x:=r) fun b hb=>h b (List.mem_cons_of_mem _ hb)
  rw [valB,List.length_cons,Nat.pow_succ,Nat.mul_comm _ (2 * m + 1)]
  have h1:(2 * m + 1) * (valB m r + 1)≤(2 * m + 1) * (2 * m + 1) ^ r.length:=Nat.mul_le_mul_left _ ih
  rw [Nat.mul_succ] at h1
  omega
theorem valB_next {m:Nat}:∀ {x:List Int},InBox m x→¬ (∀ a∈x,a=(m:Int))→valB m (nextB m x)=valB m x + 1
 | [],_,h=>absurd (fun a ha=>by cases ha) h
 | a :: r,h,hn=>by
  have h0:=h a List.mem_cons_self
  have hr:InBox m r:=fun b hb=>h b (List.mem_cons_of_mem _ hb)
  unfold nextB
  split
  ·rename_i ha
   have hn':¬ ∀ b∈r,b=(m:Int):=fun hc=>hn fun b hb=>by
    rcases List.mem_cons.1 hb with rfl | hb
    ·exact ha
    ·exact hc b hb
   rw [valB,valB,valB_next hr hn',Nat.mul_succ]
   omega
  ·rw [valB,valB]
   omega
theorem valB_top {m:Nat}:∀ {x:List Int},(∀ a∈x,a=(m:Int))→valB m x + 1=(2 * m + 1) ^ x.length
 | [],_=>by simp [valB]
 | a :: r,h=>by
  have h0:=h a List.mem_cons_self
  have ih:=valB_top (m:=m) (x:=r) fun b hb=>h b (List.mem_cons_of_mem _ hb)
  rw [valB,List.length_cons,Nat.pow_succ,Nat.mul_comm _ (2 * m + 1),← ih,Nat.mul_succ]
  omega
theorem valB_inj {m:Nat}:∀ {x y:List Int},InBox m x→InBox m y→x.length=y.length→valB m x=valB m y→x=y
 | [],[],_,_,_,_=>rfl
 | [],_ :: _,_,_,h,_=>by simp at h
 | _ :: _,[],_,_,h,_=>by simp at h
 | a :: r,b :: s,hx,hy,hl,hv=>by
  have h0:=hx a List.mem_cons_self
  have h1:=hy b List.mem_cons_self
  rw [valB,valB] at hv
  have e1:(a + m).toNat=(b + m).toNat:=by
   have:=congrArg (fun z=>z % (2 * m + 1)) hv
   simp only [Nat.add_mul_mod_self_left] at this
   rw [Nat.mod_eq_of_lt (by omega),Nat.mod_eq_of_lt (by omega)] at this
   exact this
  have e2:(2 * m + 1) * valB m r=(2 * m + 1) * valB m s:=by omega
  have e3:valB m r=valB m s:=Nat.eq_of_mul_eq_mul_left (by omega) e2
  have e4:=valB_inj (fun c hc=>hx c (List.mem_cons_of_mem _ hc)) (fun c hc=>hy c (List.mem_cons_of_mem _ hc)) (by simpa using hl) e3
  rw [e4,show a=b by omega]
def numB (n m:Nat):Nat:=(2 * m + 1) ^ n
theorem numB_pos (n m:Nat):0 < numB n m:=Nat.pow_pos (by omega)
theorem seqB_val (n m:Nat):∀ k,k < numB n m→valB m (seqB n m k)=k
 | 0,_=>by
  show valB m (List.replicate n (-(m:Int)))=0
  induction n with
  | zero=>rfl
  | succ n ih =>
   rw [List.replicate_succ,valB,ih (numB_pos n m)]
   omega
 | k + 1,h=>by
  have ih:=seqB_val n m k (by omega)
  have hb:=seqB_box (m:=(m:Int)) (by omega) n k
  show valB m (nextB m (seqB n m k))=k + 1
  rw [valB_next hb,ih]
  intro ht
  have:=valB_top ht
  rw [seqB_length,ih] at this
  unfold numB at h
  omega
theorem seqB_top {n m k:Nat} (h:k < numB n m):(∀ a∈seqB n m k,a=(m:Int))↔k + 1=numB n m:=by
 have hv:=seqB_val n m k h
 constructor
 ·intro ht
  have:=valB_top ht
  rw [seqB_length,hv] at this
  exact this
 ·intro hk
  refine Classical.byContradiction fun hn=>?_
  have hb:=seqB_box (m:=(m:Int)) (by omega) n k
  have h1:=valB_next hb hn
  have h2:=valB_lt (nextB_box (by omega) hb)
  rw [nextB_length,seqB_length,h1,hv] at h2
  unfold numB at hk
  omega
theorem seqB_mem {n m:Nat} {x:List Int} (hx:InBox m x) (hl:x.length=n):∃ k,k < numB n m∧seqB n m k=x:=by
 have hlt:=valB_lt hx
 rw [hl] at hlt
 refine ⟨valB m x,hlt,valB_inj (seqB_box (by omega) n _) hx ((seqB_length n m _).trans hl.symm) (seqB_val n m _ hlt)⟩
theorem seqB_inj {n m j k:Nat} (hj:j < numB n m) (hk:k < numB n m) (h:seqB n m j=seqB n m k):j=k:=by
 rw [← seqB_val n m j hj,← seqB_val n m k hk,h]
def mixB (m:Int) (v:List Int) (j:Nat):List Int:=List.replicate j (-m) ++ v.drop j
theorem mixB_length (m:Int) (v:List Int) {j:Nat} (h:j≤v.length):(mixB m v j).length=v.length:=by simp [mixB]; omega
theorem mixB_zero (m:Int) (v:List Int):mixB m v 0=v:=by simp [mixB]
theorem mixB_get (m:Int) (v:List Int) {j:Nat} (_:j≤v.length):(mixB m v j).getD j 0=v.getD j 0:=by
 unfold mixB
 rw [List.getD_eq_getElem?_getD,List.getElem?_append_right (by simp),List.length_replicate,Nat.sub_self,List.getElem?_drop,Nat.add_zero,List.getD_eq_getElem?_getD]
theorem mixB_step (m:Int) (v:List Int) {j:Nat} (h:j < v.length):(mixB m v j).set j (-m)=mixB m v (j + 1):=by
 unfold mixB
 rw [List.set_append_right _ _ (by simp),List.length_replicate,Nat.sub_self,List.drop_eq_getElem_cons h,List.set_cons_zero,List.replicate_succ',List.append_assoc]
 rfl
theorem mixB_next (m:Int):∀ (v:List Int) (j:Nat),j < v.length→(∀ t,t < j→v.getD t 0=m)→v.getD j 0≠m→(mixB m v j).set j (v.getD j 0 + 1)=nextB m v
 | [],_,h,_,_=>by simp at h
 | a :: r,0,_,_,hn=>by
  have ha:¬ a=m:=by simpa using hn
  rw [mixB_zero]
  unfold nextB
  rw [if_neg ha]
  simp
 | a :: r,j + 1,h,hp,hn=>by
  have ha:a=m:=by simpa using hp 0 (by omega)
  have ih:=mixB_next m r j (by simpa using h) (fun t ht=>by have:=hp (t + 1) (by omega); simpa using this) (by simpa using hn)
  unfold nextB
  rw [if_pos ha,← ih]
  simp [mixB,List.replicate_succ]
theorem all_top {m:Int} {v:List Int} (h:∀ t,t < v.length→v.getD t 0=m):∀ a∈v,a=m:=fun a ha=>by
 obtain ⟨i,hi,rfl⟩:=List.mem_iff_getElem.1 ha
 have:=h i hi
 rwa [List.getD_eq_getElem?_getD,List.getElem?_eq_getElem hi] at this
end Go.Proofs.YtkoicfghplmghaaGreatDoor

namespace Go.Proofs.YtkoicfghplmghaaGreatDoor
open Go.RowKit
theorem four_cells {w:World} {g:Nat} {a b c d:Value} {t:TypeId} (h:w.heap[g]?=some (.cells #[a,b,c,d] t (0,0))):w.cell? ⟨g,0,none⟩=some a∧w.cell? ⟨g,1,none⟩=some b∧w.cell? ⟨g,2,none⟩=some c∧w.cell? ⟨g,3,none⟩=some d :=
 ⟨by rw [cell_of_row w g 0 _ t (0,0) h]; rfl,by rw [cell_of_row w g 1 _ t (0,0) h]; rfl,by rw [cell_of_row w g 2 _ t (0,0) h]; rfl,by rw [cell_of_row w g 3 _ t (0,0) h]; rfl⟩
def boxV (a0:Option Addr) (n c0:Nat) (most:Int) (a1:Option Addr) (m1 c1:Nat) (a2:Option Addr) (m2 c2:Nat):Array Value := #[.slice a0 n c0,.int .i64 most,.slice a1 m1 c1,.slice a2 m2 c2]
def bcode (ps:List Int) (most:Int) (low high:List Int):Int:=if pcode ps=0 then (if most < 0∨6 < most then 3 else mgo ps.length [low,high]) else pcode ps
theorem icheck_any (w:World) (a0 a1 a2:Option Addr) (c0 c1 c2:Nat) (ps low high:List Int) (most:Int) (rp:Rd w a0 (ints ps)) (hi:I64s ps) (hl0:ps.length≤1000000) (r1:Rd w a1 (ints low)) (r2:Rd w a2 (ints high)) (hl1:low.length≤1000000) (hl2:high.length≤1000000) :
  Gives Tryz.prog 63 #[.agg (boxV a0 ps.length c0 most a1 low.length c1 a2 high.length c2)] w (.int .i64 (bcode ps most low high)):=by
 unfold Gives boxV
 have H1:Hid (∀ W,Below w.heap.size w W→Gives Tryz.prog 70 #[.slice a0 ps.length c0] W (.int .i64 (pcode ps))):=fun W hW=>primeCheck_any W a0 c0 ps (rp.below hW nr_) hi hl0
 have HM:Hid (pcode ps=0→∀ W g,Below w.heap.size w W→W.heap[g]?=some (.cells #[.slice a1 low.length c1,.slice a2 high.length c2] 25 (0,0))→Gives Tryz.prog 71 #[.slice a0 ps.length c0,.slice (some ⟨g,0,none⟩) 2 2] W (.int .i64 (mgo ps.length [low,high]))):=fun h0 W g hW hg=>by
  have:=monCheckAll_any W a0 (some ⟨g,0,none⟩) c0 2 ps [low,high] (rp.below hW nr_) hi hl0 (rdi_two hg (r1.below hW nr_) (r2.below hW nr_)) (by simp) (fun z hz=>by simp at hz; rcases hz with rfl | rfl <;> assumption)
  unfold mcode at this
  rw [if_pos h0] at this
  exact this
 have Hv:Hid (bcode ps most low high=if pcode ps=0 then (if most < 0∨6 < most then 3 else mgo ps.length [low,high]) else pcode ps):=rfl
 clear rp hi hl0 r1 r2 hl1 hl2
 generalize bcode ps most low high=v at *
 generalize mgo ps.length [low,high]=mg at *
 generalize pcode ps=p at *
 generalize ps.length=n at *
 generalize low.length=m1 at *
 generalize high.length=m2 at *
 have B0:=hd_ ((Below.refl w.heap.size w).alloc nr_ (.cells #[.slice a0 n c0,.int .i64 most,.slice a1 m1 c1,.slice a2 m2 c2] 32))
 have P0:=hd_ (heap_at w #[.slice a0 n c0,.int .i64 most,.slice a1 m1 c1,.slice a2 m2 c2] 32 _ rfl)
 by_cases h0:p=0
 ·subst h0
  rw [if_pos rfl] at Hv
  replace HM:=hd_ (HM.out rfl)
  by_cases h1:most < 0
  ·rw [if_pos (.inl h1)] at Hv
   clear HM
   go_enter Tryz.func63,Tryz.ntmps63
   obtain ⟨k0,k1,k2,k3⟩:=four_cells P0.out
   go_wp2_with fail
   generalize w.alloc (.cells #[.slice a0 n c0,.int .i64 most,.slice a1 m1 c1,.slice a2 m2 c2] 32)=w0 at *
   clear k0 k1 k2 k3
   refine cm_ (H1.out _ B0.out) ?_
   rintro e w1 ⟨rfl,hb⟩
   have B1:=hd_ (B0.out.trans (hb.mono B0.out.size))
   have P1:=hd_ (heap_kept P0.out hb nr_)
   obtain ⟨k0,k1,k2,k3⟩:=four_cells P1.out
   clear hb H1 B0 P0
   go_wp2_with fail
   go_ret
   exact ⟨by rw [Hv.out]; rfl,B1.out⟩
  ·by_cases h2:6 < most
   ·rw [if_pos (.inr h2)] at Hv
    clear HM
    go_enter Tryz.func63,Tryz.ntmps63
    obtain ⟨k0,k1,k2,k3⟩:=four_cells P0.out
    go_wp2_with fail
    generalize w.alloc (.cells #[.slice a0 n c0,.int .i64 most,.slice a1 m1 c1,.slice a2 m2 c2] 32)=w0 at *
    clear k0 k1 k2 k3
    refine cm_ (H1.out _ B0.out) ?_
    rintro e w1 ⟨rfl,hb⟩
    have B1:=hd_ (B0.out.trans (hb.mono B0.out.size))
    have P1:=hd_ (heap_kept P0.out hb nr_)
    obtain ⟨k0,k1,k2,k3⟩:=four_cells P1.out
    clear hb H1 B0 P0
    go_wp2_with fail
    go_ret
    exact ⟨by rw [Hv.out]; rfl,B1.out⟩
   ·rw [if_neg (by omega)] at Hv
    go_enter Tryz.func63,Tryz.ntmps63
    obtain ⟨k0,k1,k2,k3⟩:=four_cells P0.out
    go_wp2_with fail
    generalize w.alloc (.cells #[.slice a0 n c0,.int .i64 most,.slice a1 m1 c1,.slice a2 m2 c2] 32)=w0 at *
    clear k0 k1 k2 k3
    refine cm_ (H1.out _ B0.out) ?_
    rintro e w1 ⟨rfl,hb⟩
    have B1:=hd_ (B0.out.trans (hb.mono B0.out.size))
    have P1:=hd_ (heap_kept P0.out hb nr_)
    obtain ⟨k0,k1,k2,k3⟩:=four_cells P1.out
    clear hb H1 B0 P0
    go_wp2_with fail
    have B2:=hd_ (B1.out.alloc B1.out.size (.cells #[.slice a1 m1 c1,.slice a2 m2 c2] 25))
    clear k0 k1 k2 k3
    refine cm_ (HM.out _ _ B2.out (heap_at w1 _ _ _ rfl)) ?_
    rintro e w2 ⟨rfl,hb⟩
    have B3:=hd_ (B2.out.trans (hb.mono B2.out.size))
    clear hb HM B1 B2
    go_wp2_with fail
    go_ret
    exact ⟨by rw [Hv.out]; rfl,B3.out⟩
 ·have hp0:(p == 0)=false:=by rw [beq_eq_false_iff_ne]; exact h0
  rw [if_neg h0] at Hv
  clear HM h0
  go_enter Tryz.func63,Tryz.ntmps63
  obtain ⟨k0,k1,k2,k3⟩:=four_cells P0.out
  go_wp2_with fail
  generalize w.alloc (.cells #[.slice a0 n c0,.int .i64 most,.slice a1 m1 c1,.slice a2 m2 c2] 32)=w0 at *
  clear k0 k1 k2 k3
  refine cm_ (H1.out _ B0.out) ?_
  rintro e w1 ⟨rfl,hb⟩
  have B1:=hd_ (B0.out.trans (hb.mono B0.out.size))
  have P1:=hd_ (heap_kept P0.out hb nr_)
  obtain ⟨k0,k1,k2,k3⟩:=four_cells P1.out
  clear hb H1 B0 P0
  go_wp2_with fail
  go_ret
  exact ⟨by rw [Hv.out]; rfl,B1.out⟩
theorem lcheck_any (w:World) (a0 a1 a2:Option Addr) (c0 c1 c2:Nat) (ps low high:List Int) (most:Int) (rp:Rd w a0 (ints ps)) (hi:I64s ps) (hl0:ps.length≤1000000) (r1:Rd w a1 (ints low)) (r2:Rd w a2 (ints high)) (hl1:low.length≤1000000) (hl2:high.length≤1000000) :
  Gives Tryz.prog 16 #[.agg (boxV a0 ps.length c0 most a1 low.length c1 a2 high.length c2)] w (.int .i64 (bcode ps most low high)):=by
 unfold Gives boxV
 have H1:Hid (∀ W,Below w.heap.size w W→Gives Tryz.prog 70 #[.slice a0 ps.length c0] W (.int .i64 (pcode ps))):=fun W hW=>primeCheck_any W a0 c0 ps (rp.below hW nr_) hi hl0
 have HM:Hid (pcode ps=0→∀ W,Below w.heap.size w W→Gives Tryz.prog 17 #[.slice a0 ps.length c0,.slice a1 low.length c1] W (.int .i64 (mrow ps.length low))∧Gives Tryz.prog 17 #[.slice a0 ps.length c0,.slice a2 high.length c2] W (.int .i64 (mrow ps.length high))):=fun h0 W hW=>by
  have e:∀ x:List Int,mcode1 ps x=mrow ps.length x:=fun x=>by
   unfold mcode1 mcode
   rw [if_pos h0,mgo,mgo]
   split
   ·rename_i h; exact h.symm
   ·rfl
  have q1:=monCheck_any W a0 a1 c0 c1 ps low (rp.below hW nr_) hi hl0 (r1.below hW nr_) hl1
  have q2:=monCheck_any W a0 a2 c0 c2 ps high (rp.below hW nr_) hi hl0 (r2.below hW nr_) hl2
  rw [e] at q1 q2
  exact ⟨q1,q2⟩
 have Hmg:Hid (mgo ps.length [low,high]=if mrow ps.length low=0 then (if mrow ps.length high=0 then 0 else mrow ps.length high) else mrow ps.length low):=rfl
 have Hv:Hid (bcode ps most low high=if pcode ps=0 then (if most < 0∨6 < most then 3 else mgo ps.length [low,high]) else pcode ps):=rfl
 clear rp hi hl0 r1 r2 hl1 hl2
 generalize bcode ps most low high=v at *
 generalize mgo ps.length [low,high]=mg at *
 generalize mrow ps.length low=er1 at *
 generalize mrow ps.length high=er2 at *
 generalize pcode ps=p at *
 generalize ps.length=n at *
 generalize low.length=m1 at *
 generalize high.length=m2 at *
 have B0:=hd_ ((Below.refl w.heap.size w).alloc nr_ (.cells #[.slice a0 n c0,.int .i64 most,.slice a1 m1 c1,.slice a2 m2 c2] 32))
 have P0:=hd_ (heap_at w #[.slice a0 n c0,.int .i64 most,.slice a1 m1 c1,.slice a2 m2 c2] 32 _ rfl)
 by_cases h0:p=0
 ·subst h0
  rw [if_pos rfl] at Hv
  replace HM:=hd_ (HM.out rfl)
  by_cases h1:most < 0
  ·rw [if_pos (.inl h1)] at Hv
   clear HM Hmg
   go_enter Tryz.func16,Tryz.ntmps16
   obtain ⟨k0,k1,k2,k3⟩:=four_cells P0.out
   go_wp2_with fail
   generalize w.alloc (.cells #[.slice a0 n c0,.int .i64 most,.slice a1 m1 c1,.slice a2 m2 c2] 32)=w0 at *
   clear k0 k1 k2 k3
   refine cm_ (H1.out _ B0.out) ?_
   rintro e w1 ⟨rfl,hb⟩
   have B1:=hd_ (B0.out.trans (hb.mono B0.out.size))
   have P1:=hd_ (heap_kept P0.out hb nr_)
   obtain ⟨k0,k1,k2,k3⟩:=four_cells P1.out
   clear hb H1 B0 P0
   go_wp2_with fail
   go_ret
   exact ⟨by rw [Hv.out]; rfl,B1.out⟩
  ·by_cases h2:6 < most
   ·rw [if_pos (.inr h2)] at Hv
    clear HM Hmg
    go_enter Tryz.func16,Tryz.ntmps16
    obtain ⟨k0,k1,k2,k3⟩:=four_cells P0.out
    go_wp2_with fail
    generalize w.alloc (.cells #[.slice a0 n c0,.int .i64 most,.slice a1 m1 c1,.slice a2 m2 c2] 32)=w0 at *
    clear k0 k1 k2 k3
    refine cm_ (H1.out _ B0.out) ?_
    rintro e w1 ⟨rfl,hb⟩
    have B1:=hd_ (B0.out.trans (hb.mono B0.out.size))
    have P1:=hd_ (heap_kept P0.out hb nr_)
    obtain ⟨k0,k1,k2,k3⟩:=four_cells P1.out
    clear hb H1 B0 P0
    go_wp2_with fail
    go_ret
    exact ⟨by rw [Hv.out]; rfl,B1.out⟩
   ·rw [if_neg (by omega)] at Hv
    go_enter Tryz.func16,Tryz.ntmps16
    obtain ⟨k0,k1,k2,k3⟩:=four_cells P0.out
    go_wp2_with fail
    generalize w.alloc (.cells #[.slice a0 n c0,.int .i64 most,.slice a1 m1 c1,.slice a2 m2 c2] 32)=w0 at *
    clear k0 k1 k2 k3
    refine cm_ (H1.out _ B0.out) ?_
    rintro e w1 ⟨rfl,hb⟩
    have B1:=hd_ (B0.out.trans (hb.mono B0.out.size))
    have P1:=hd_ (heap_kept P0.out hb nr_)
    obtain ⟨k0,k1,k2,k3⟩:=four_cells P1.out
    clear hb H1 B0 P0
    go_wp2_with fail
    have B2:=hd_ (B1.out.alloc B1.out.size (.cells #[.slice a1 m1 c1,.slice a2 m2 c2] 25))
    have P2:=hd_ (heap_old P1.out (.cells #[.slice a1 m1 c1,.slice a2 m2 c2] 25))
    have A2:=hd_ (heap_at w1 #[.slice a1 m1 c1,.slice a2 m2 c2] 25 _ rfl)
    have Hv0:Hid (v=if er1=0 then (if er2=0 then 0 else er2) else er1):=by show _=_; rw [Hv.out,Hmg.out]
    clear k0 k1 k2 k3 Hv Hmg B1 P1
    generalize w1.heap.size=ga at *
    go_loopw [27] (fun i wr=>((i = .int .i64 0∧Hid (v=if er1=0 then (if er2=0 then 0 else er2) else er1))∨(i = .int .i64 1∧Hid (v=if er2=0 then 0 else er2))∨(i = .int .i64 2∧Hid (v=0)))∧Hid (Below w.heap.size w wr)∧Hid (wr.heap[w.heap.size]?=some (.cells #[.slice a0 n c0,.int .i64 most,.slice a1 m1 c1,.slice a2 m2 c2] 32 (0,0)))∧Hid (wr.heap[ga]?=some (.cells #[.slice a1 m1 c1,.slice a2 m2 c2] 25 (0,0)))) (fun i _=>2 - (intOf i).toNat)
    case atStart=>exact ⟨.inl ⟨rfl,Hv0⟩,B2,P2,A2⟩
    case round =>
     clear B2 P2 A2 Hv0
     obtain ⟨h,B,P,A⟩:=hrel
     obtain ⟨k0,k1,k2,k3⟩:=four_cells P.out
     obtain ⟨j0,j1,f0,f1⟩:=two_cells A.out
     rcases h with ⟨rfl,Hx⟩ | ⟨rfl,Hx⟩ | ⟨rfl,Hx⟩
     ·skip
      go_wp2_with fail
      refine cm_ (HM.out _ B.out).1 ?_
      rintro e w3 ⟨rfl,hb⟩
      have B3:=hd_ (B.out.trans (hb.mono B.out.size))
      have P3:=hd_ (heap_kept P.out hb nr_)
      have A3:=hd_ (heap_kept A.out hb nr_)
      clear hb B P A k0 k1 k2 k3 j0 j1 f0 f1
      by_cases hu:er1=0
      ·subst hu
       have Hvv:=(show Hid (v=if er2=0 then 0 else er2) from (by show _=_; rw [Hx.out,if_pos rfl]))
       go_wp2_with fail
       go_roundw
       case rel=>exact ⟨.inr (.inl ⟨rfl,Hvv⟩),B3,P3,A3⟩
       case measure=>simp [intOf]
      ·have hu':(er1 == 0)=false:=by rw [beq_eq_false_iff_ne]; exact hu
       have Hvv:Hid (v=er1):=by show _=_; rw [Hx.out,if_neg hu]
       clear hu
       go_wp2_with fail
       go_ret
       exact ⟨by rw [Hvv.out]; rfl,B3.out⟩
     ·skip
      go_wp2_with fail
      refine cm_ (HM.out _ B.out).2 ?_
      rintro e w3 ⟨rfl,hb⟩
      have B3:=hd_ (B.out.trans (hb.mono B.out.size))
      have P3:=hd_ (heap_kept P.out hb nr_)
      have A3:=hd_ (heap_kept A.out hb nr_)
      clear hb B P A k0 k1 k2 k3 j0 j1 f0 f1
      by_cases hu:er2=0
      ·subst hu
       have Hvv:=(show Hid (v=0) from (by show _=_; rw [Hx.out,if_pos rfl]))
       go_wp2_with fail
       go_roundw
       case rel=>exact ⟨.inr (.inr ⟨rfl,Hvv⟩),B3,P3,A3⟩
       case measure=>simp [intOf]
      ·have hu':(er2 == 0)=false:=by rw [beq_eq_false_iff_ne]; exact hu
       have Hvv:Hid (v=er2):=by show _=_; rw [Hx.out,if_neg hu]
       clear hu
       go_wp2_with fail
       go_ret
       exact ⟨by rw [Hvv.out]; rfl,B3.out⟩
     ·go_wp2_with fail
      go_ret
      exact ⟨by rw [Hx.out]; rfl,B.out⟩
 ·have hp0:(p == 0)=false:=by rw [beq_eq_false_iff_ne]; exact h0
  rw [if_neg h0] at Hv
  clear HM h0 Hmg
  go_enter Tryz.func16,Tryz.ntmps16
  obtain ⟨k0,k1,k2,k3⟩:=four_cells P0.out
  go_wp2_with fail
  generalize w.alloc (.cells #[.slice a0 n c0,.int .i64 most,.slice a1 m1 c1,.slice a2 m2 c2] 32)=w0 at *
  clear k0 k1 k2 k3
  refine cm_ (H1.out _ B0.out) ?_
  rintro e w1 ⟨rfl,hb⟩
  have B1:=hd_ (B0.out.trans (hb.mono B0.out.size))
  have P1:=hd_ (heap_kept P0.out hb nr_)
  obtain ⟨k0,k1,k2,k3⟩:=four_cells P1.out
  clear hb H1 B0 P0
  go_wp2_with fail
  go_ret
  exact ⟨by rw [Hv.out]; rfl,B1.out⟩
end Go.Proofs.YtkoicfghplmghaaGreatDoor

namespace Go.Proofs.YtkoicfghplmghaaGreatDoor
open Go.ChangeShapes Go.WideShapes Go.ChangeAt Go.RowKit Go.Joins
theorem open_ints_cap {H:Type} {enc:TypeId×Value→H} {W:World} {v:Value} {d:DataW H} {p:List MemPlace} {t:TypeId} (ht:Tryz.prog.underlying t=some (.slice 3))
  (h:DataW.Trod enc Tryz.prog W 0 (fun _=>true) true t v d p) (hv:∃ a len cap,v = .slice a len cap) :
  ∃ (a:Option Addr) (c:Nat) (l:List Int),v = .slice a l.length c∧Rd W a (ints l)∧I64s l∧l.length≤c∧l.length≤maxLen:=by
 obtain ⟨a,len,cap,rfl⟩:=hv
 obtain ⟨fuel,hf⟩:=h
 rcases open_ints ht Tryz.underlying3 cellsInt hf with ⟨hcs,_⟩ | ⟨a,len,cap,zs,hcs,_,hl,hm,hz,_,hcell,hwz⟩
 ·simp [Value.cells] at hcs
  obtain ⟨rfl,rfl,rfl⟩:=hcs
  exact ⟨none,0,[],rfl,.inl rfl,(fun x hx=>by cases hx),Nat.zero_le _,Nat.zero_le _⟩
 ·simp [Value.cells] at hcs
  obtain ⟨rfl,rfl,rfl⟩:=hcs
  simp only [if_true] at hz
  refine ⟨some a,cap,zs.take len,by simp; omega,?_,?_,by simp; omega,by simp; omega⟩
  ·by_cases h0:len=0
   ·subst h0; exact .inl (by simp [ints])
   ·obtain ⟨b,off,rfl,hc⟩:=ints_at hcell (by omega)
    refine .inr ⟨b,off,rfl,block_lt_of_cell (hc 0 (by omega)),fun i v hi=>?_⟩
    unfold ints at hi
    rw [List.getElem?_map,Option.map_eq_some_iff] at hi
    obtain ⟨x,hx,rfl⟩:=hi
    obtain ⟨hil,hxe⟩:=List.getElem?_eq_some_iff.1 hx
    rw [List.length_take] at hil
    rw [hc i (by omega),List.getD_eq_getElem?_getD,List.getElem?_eq_getElem (by omega)]
    rw [List.getElem_take] at hxe
    rw [← hxe]; rfl
  ·intro x hx
   exact bounds_i64 (hwz x (List.mem_of_mem_take hx))
theorem open_ints_cell {H:Type} {enc:TypeId×Value→H} {W:World} {c0:Value} {fuel:Nat} {x:DataW H×List MemPlace} {t:TypeId} (ht:Tryz.prog.underlying t=some (.slice 3))
  (hf:DataW.trod enc Tryz.prog W 0 (fun _=>true) true fuel t [c0]=some x) :
  ∃ (a:Option Addr) (c:Nat) (l:List Int),c0 = .slice a l.length c∧Rd W a (ints l)∧I64s l∧l.length≤c∧l.length≤maxLen:=by
 have hv:∃ a len cap,c0 = .slice a len cap:=by
  rcases open_ints ht Tryz.underlying3 cellsInt hf with ⟨hcs,_⟩ | ⟨a,len,cap,zs,hcs,_⟩
  ·simp only [List.cons.injEq,and_true] at hcs; exact ⟨_,_,_,hcs⟩
  ·simp only [List.cons.injEq,and_true] at hcs; exact ⟨_,_,_,hcs⟩
 obtain ⟨a,len,cap,rfl⟩:=hv
 exact open_ints_cap (d:=x.1) (p:=x.2) ht ⟨fuel,by simpa [Value.cells] using hf⟩ ⟨a,len,cap,rfl⟩
theorem cellsBox:Tryz.prog.cellsOf 32=4:=by kernel_rfl
theorem cellsPrm:Tryz.prog.cellsOf 24=1:=by kernel_rfl
theorem cellsRw:Tryz.prog.cellsOf 25=1:=by kernel_rfl
theorem open_box {H:Type} {enc:TypeId×Value→H} {W:World} {r:Reach} {b0:Nat} {v:Value} {d:DataW H} {p:List MemPlace} (hv:Value.okWide Tryz.prog W r b0 32 v) (h:DataW.Trod enc Tryz.prog W 0 (fun _=>true) true 32 v d p) :
  ∃ (a0 a1 a2:Option Addr) (c0 c1 c2:Nat) (ps low high:List Int) (most:Int),v = .agg (boxV a0 ps.length c0 most a1 low.length c1 a2 high.length c2)∧(Rd W a0 (ints ps)∧I64s ps∧ps.length≤maxLen)∧(-9223372036854775808≤most∧most≤9223372036854775807)∧(Rd W a1 (ints low)∧low.length≤maxLen)∧(Rd W a2 (ints high)∧high.length≤maxLen):=by
 obtain ⟨cs,rfl,hsz⟩:=okWide_struct Tryz.underlying32 hv
 obtain ⟨fuel,hf⟩:=h
 rw [cellsBox] at hsz
 obtain ⟨y0,y1,y2,y3,n,hx,_,h0,h1,h2,h3⟩:=trod_struct4 Tryz.underlying32 hf
 obtain ⟨l⟩:=cs
 have hl:l.length=4:=by simpa using hsz
 match l,hl with
 | [e0,e1,e2,e3],_ =>
  simp only [Value.cells,List.drop_zero,List.drop_succ_cons,cellsPrm,cellsInt,cellsRw,List.take_succ_cons,List.take_zero] at h0 h1 h2 h3
  obtain ⟨a0,c0,ps,rfl,p1,p2,_,p3⟩:=open_ints_cell Tryz.underlying24 h0
  obtain ⟨m,hm,_,wm⟩:=DataW.trod_int Tryz.underlying3 h1
  obtain ⟨a1,c1,low,rfl,q1,_,_,q3⟩:=open_ints_cell Tryz.underlying25 h2
  obtain ⟨a2,c2,high,rfl,r1,_,_,r3⟩:=open_ints_cell Tryz.underlying25 h3
  simp only [List.cons.injEq,and_true] at hm
  subst hm
  exact ⟨a0,a1,a2,c0,c1,c2,ps,low,high,m,rfl,⟨p1,p2,p3⟩,bounds_i64 wm,⟨q1,q3⟩,⟨r1,r3⟩⟩
end Go.Proofs.YtkoicfghplmghaaGreatDoor

namespace Go.Proofs.YtkoicfghplmghaaGreatDoor
open Go.RowKit
theorem isizes_one (w:World) (ps:List Int) (P:PrOk ps) (a0 a1:Option Addr) (c0 c1 g:Nat) (x:List Int) (rp:Rd w a0 (ints ps)) (hg:w.heap[g]?=some (.cells #[.slice a1 ps.length c1] 25 (0,0))) (r1:Rd w a1 (ints x))
  (l1:x.length=ps.length) (s1:Xs x) (L:Laid w) :
  Calls Tryz.prog 67 #[.slice a0 ps.length c0,.slice (some ⟨g,0,none⟩) 1 1] w fun e w'=>∃ g' d b c,e = .returned (.slice (some ⟨g',0,none⟩) 1 d)∧w'.cell? ⟨g',0,none⟩=some (.slice b ps.length c)∧Rd w' b (cellsQ (rq x))∧Below w.heap.size w w':=by
 have hiv:Iv ps.length [x]:=fun z hz=>by
  simp only [List.mem_cons,List.not_mem_nil,or_false] at hz
  subst hz
  exact ⟨l1,s1⟩
 refine cm_ (isizes_ok w ps P a0 (some ⟨g,0,none⟩) c0 1 [x] rp (rdi_one (by rw [l1]; exact hg) r1) (by simp) hiv L) ?_
 rintro e w' ⟨b,d,LL,rfl,ho,hb⟩
 have hlen:LL.length=1:=ho.len
 obtain ⟨g',cap,hv,-,h2,-,-,-⟩:=own_open ho.row (by omega)
 simp only [Value.slice.injEq] at hv
 obtain ⟨rfl,-,rfl⟩:=hv
 obtain ⟨b',off,e',hlt,hc⟩:=rdl_cells ho.rdl ho.lens (by simp)
 simp only [Option.some.injEq,Addr.mk.injEq,and_true] at e'
 obtain ⟨rfl,rfl⟩:=e'
 obtain ⟨p0,q0,k0,z0⟩:=hc 0 (by simp)
 exact ⟨g',d,p0,q0,rfl,k0,z0,hb⟩
structure InsAt (W:World) (ps low high:List Int) (a0:Option Addr) (c0:Nat) (g1 g2:Nat):Prop where
 box:∃ most a1 m1 c1 a2 m2 c2,W.heap[g1]?=some (.cells (boxV a0 ps.length c0 most a1 m1 c1 a2 m2 c2) 32 (0,0))
 lst:∃ g d,W.heap[g2]?=some (.cells #[.slice (some ⟨g,0,none⟩) 2 d] 53 (0,0))∧TwoR W ps.length g (rq low) (rq high)
 rp:Rd W a0 (ints ps)
theorem TwoR.below {W W':World} {n g:Nat} {la lb:List Rat} (h:TwoR W n g la lb) (hb:Below W.heap.size W W'):TwoR W' n g la lb:=by
 obtain ⟨h1,⟨a,c,k0,r0⟩,⟨a',c',k1,r1⟩⟩:=h
 exact ⟨Nat.lt_of_lt_of_le h1 hb.size,⟨a,c,(hb.cell (p:=⟨g,0,none⟩) h1).trans k0,r0.below hb nr_⟩,⟨a',c',(hb.cell (p:=⟨g,1,none⟩) h1).trans k1,r1.below hb nr_⟩⟩
theorem InsAt.below {W W':World} {ps low high:List Int} {a0:Option Addr} {c0 g1 g2:Nat} (h:InsAt W ps low high a0 c0 g1 g2) (hb:Below W.heap.size W W'):InsAt W' ps low high a0 c0 g1 g2:=by
 obtain ⟨⟨most,a1,m1,c1,a2,m2,c2,h1⟩,⟨g,d,h2,T⟩,rp⟩:=h
 exact ⟨⟨most,a1,m1,c1,a2,m2,c2,heap_kept h1 hb nr_⟩,⟨g,d,heap_kept h2 hb nr_,T.below hb⟩,rp.below hb nr_⟩
def insB (ps low high x:List Int):Bool:=decide (cI ps low x≤0) && decide (cI ps x high < 0)
theorem inside_any (w:World) (ps:List Int) (P:PrOk ps) (a0 a1 a2:Option Addr) (c0 c1 c2:Nat) (low high:List Int) (most:Int) (rp:Rd w a0 (ints ps)) (r1:Rd w a1 (ints low)) (r2:Rd w a2 (ints high)) (l1:low.length=ps.length) (l2:high.length=ps.length) (s1:Xs low) (s2:Xs high) (L:Laid w) :
  Calls Tryz.prog 64 #[.agg (boxV a0 ps.length c0 most a1 ps.length c1 a2 ps.length c2)] w fun e w'=>∃ g1 g2,e = .returned (.func (.func 116) #[] #[.pointer (some ⟨g1,0,none⟩),.pointer (some ⟨g2,0,none⟩)])∧InsAt w' ps low high a0 c0 g1 g2∧Below w.heap.size w w':=by
 have HS:Hid (∀ W g,Below w.heap.size w W→W.heap[g]?=some (.cells #[.slice a1 ps.length c1,.slice a2 ps.length c2] 25 (0,0))→Calls Tryz.prog 67 #[.slice a0 ps.length c0,.slice (some ⟨g,0,none⟩) 2 2] W fun e w'=>∃ g' d,e = .returned (.slice (some ⟨g',0,none⟩) 2 d)∧TwoR w' ps.length g' (rq low) (rq high)∧Below W.heap.size W w'):=fun W g hW hg =>
  isizes_two W ps P a0 a1 a2 c0 c1 c2 g low high (rp.below hW nr_) hg (r1.below hW nr_) (r2.below hW nr_) l1 l2 s1 s2 (L.below hW)
 have Hfin:Hid (∀ W g1 g2 g d,Below w.heap.size w W→W.heap[g1]?=some (.cells (boxV a0 ps.length c0 most a1 ps.length c1 a2 ps.length c2) 32 (0,0))→W.heap[g2]?=some (.cells #[.slice (some ⟨g,0,none⟩) 2 d] 53 (0,0))→TwoR W ps.length g (rq low) (rq high)→InsAt W ps low high a0 c0 g1 g2) :=
  fun W g1 g2 g d hW h1 h2 T=>⟨⟨most,a1,_,c1,a2,_,c2,h1⟩,⟨g,d,h2,T⟩,rp.below hW nr_⟩
 clear rp r1 r2 l1 l2 s1 s2 L P
 generalize rq low=ql at *
 generalize rq high=qh at *
 unfold boxV at *
 have B0:=hd_ ((Below.refl w.heap.size w).alloc nr_ (.cells #[.slice a0 ps.length c0,.int .i64 most,.slice a1 ps.length c1,.slice a2 ps.length c2] 32))
 have P0:=hd_ (heap_at w #[.slice a0 ps.length c0,.int .i64 most,.slice a1 ps.length c1,.slice a2 ps.length c2] 32 _ rfl)
 go_enter Tryz.func64,Tryz.ntmps64
 obtain ⟨k0,k1,k2,k3⟩:=four_cells P0.out
 go_wp2_with fail
 have hs0:(w.alloc (.cells #[.slice a0 ps.length c0,.int .i64 most,.slice a1 ps.length c1,.slice a2 ps.length c2] 32)).heap.size=w.heap.size + 1:=World.size_alloc _ _
 have Hs0:=hd_ hs0
 clear hs0
 generalize w.alloc (.cells #[.slice a0 ps.length c0,.int .i64 most,.slice a1 ps.length c1,.slice a2 ps.length c2] 32)=w0 at *
 have B1:=hd_ (B0.out.alloc B0.out.size (.cells #[.slice a1 ps.length c1,.slice a2 ps.length c2] 25))
 have P1:=hd_ (heap_old P0.out (.cells #[.slice a1 ps.length c1,.slice a2 ps.length c2] 25))
 clear k0 k1 k2 k3
 refine cm_ (HS.out _ _ B1.out (heap_at w0 _ _ _ Hs0.out)) ?_
 rintro e_ w2 ⟨g,d,rfl,T,hb_⟩
 have B2:=hd_ (B1.out.trans (hb_.mono B1.out.size))
 have P2:=hd_ (heap_kept P1.out hb_ nr_)
 have T2:=hd_ T
 clear hb_ T HS B1 P1
 go_wp2_with fail
 have Pn:=hd_ (heap_at w2 #[.slice none 0 0] 53 _ rfl)
 obtain ⟨n0,n1⟩:=one_cell Pn.out
 go_wp2_with fail
 go_ret
 have Bn:Below w2.heap.size w2 (w2.alloc (.cells #[.slice (some ⟨g,0,none⟩) 2 d] 53)):=(Below.refl _ w2).alloc nr_ _
 have B3:=B2.out.trans (Bn.mono B2.out.size)
 have Ps:=heap_at w2 #[.slice (some ⟨g,0,none⟩) 2 d] 53 _ rfl
 exact ⟨_,_,rfl,Hfin.out _ _ _ g d B3 (heap_kept P2.out Bn nr_) Ps (T2.out.below Bn),B3⟩
theorem inside1_any (w:World) (ps:List Int) (P:PrOk ps) (a0 ax:Option Addr) (c0 cx g1 g2:Nat) (low high x:List Int) (S:InsAt w ps low high a0 c0 g1 g2) (rx:Rd w ax (ints x)) (lx:x.length=ps.length) (l1:low.length=ps.length) (l2:high.length=ps.length) (sx:Xs x) (s1:Xs low) (s2:Xs high) (L:Laid w) :
  Gives Tryz.prog 116 #[.slice ax ps.length cx,.pointer (some ⟨g1,0,none⟩),.pointer (some ⟨g2,0,none⟩)] w (.bool (insB ps low high x)):=by
 unfold Gives
 obtain ⟨⟨most,a1,m1,c1,a2,m2,c2,hbox⟩,⟨g,d,hlst,T⟩,rp⟩:=S
 have HS:Hid (∀ W gg,Below w.heap.size w W→W.heap[gg]?=some (.cells #[.slice ax ps.length cx] 25 (0,0))→Calls Tryz.prog 67 #[.slice a0 ps.length c0,.slice (some ⟨gg,0,none⟩) 1 1] W fun e w'=>∃ g' d b c,e = .returned (.slice (some ⟨g',0,none⟩) 1 d)∧w'.cell? ⟨g',0,none⟩=some (.slice b ps.length c)∧Rd w' b (cellsQ (rq x))∧Below W.heap.size W w'):=fun W gg hW hg =>
  isizes_one W ps P a0 ax c0 cx gg x (rp.below hW nr_) hg (rx.below hW nr_) lx sx (L.below hW)
 obtain ⟨hgl,⟨b0,d0,t0,z0⟩,⟨b1,d1,t1,z1⟩⟩:=T
 have HA:Hid (∀ W b c,Below w.heap.size w W→Rd W b (cellsQ (rq x))→Gives Tryz.prog 105 #[.slice a0 ps.length c0,.slice b0 ps.length d0,.slice b ps.length c] W (.tuple #[.int .i64 (cI ps low x),.int .i64 0])):=fun W b c hW hr =>
  cmpI_ok P c0 d0 c (rp.below hW nr_) (z0.below hW nr_) hr l1 lx (s1.bd.le (by decide)) (sx.bd.le (by decide)) (L.below hW)
 have HB:Hid (∀ W b c,Below w.heap.size w W→Rd W b (cellsQ (rq x))→Gives Tryz.prog 105 #[.slice a0 ps.length c0,.slice b ps.length c,.slice b1 ps.length d1] W (.tuple #[.int .i64 (cI ps x high),.int .i64 0])):=fun W b c hW hr =>
  cmpI_ok P c0 c d1 (rp.below hW nr_) hr (z1.below hW nr_) lx l2 (sx.bd.le (by decide)) (s2.bd.le (by decide)) (L.below hW)
 have Hv:Hid (insB ps low high x=(decide (cI ps low x≤0) && decide (cI ps x high < 0))):=rfl
 unfold boxV at hbox
 have Pb:=hd_ hbox
 have Pl:=hd_ hlst
 have t0:=hd_ t0
 have t1:=hd_ t1
 clear z0 z1 rp rx lx l1 l2 sx s1 s2 L P hbox hlst
 generalize insB ps low high x=v at *
 generalize cI ps low x=ca at *
 generalize cI ps x high=cb at *
 generalize rq x=qx at *
 generalize ps.length=n at *
 go_enter Tryz.func116,Tryz.ntmps116
 obtain ⟨k0,k1,k2,k3⟩:=four_cells Pb.out
 go_wp2_with fail
 have B0:=hd_ ((Below.refl w.heap.size w).alloc nr_ (.cells #[.slice ax n cx] 25))
 clear k0 k1 k2 k3
 refine cm_ (HS.out _ _ B0.out (heap_at w _ _ _ rfl)) ?_
 rintro e_ w1 ⟨g',d',b,c,rfl,hc_,hr_,hb_⟩
 have B1:=hd_ (B0.out.trans (hb_.mono B0.out.size))
 have R1:=hd_ hr_
 have Pb1:=hd_ (heap_kept Pb.out B1.out nr_)
 have Pl1:=hd_ (heap_kept Pl.out B1.out nr_)
 have t0':=hd_ ((B1.out.cell (p:=⟨g,0,none⟩) hgl).trans t0.out)
 have t1':=hd_ ((B1.out.cell (p:=⟨g,1,none⟩) hgl).trans t1.out)
 clear hb_ hr_ HS B0 Pb Pl t0 t1
 go_wp2_with fail
 clear hc_
 obtain ⟨k0,k1,k2,k3⟩:=four_cells Pb1.out
 obtain ⟨j0,j1⟩:=one_cell Pl1.out
 have y0:=t0'.out
 have q0:=BW.cell k0
 have q1:=BW.cell j0
 have q2:=BW.cell y0
 have hnon:Nonempty (BW w1):=⟨⟨w1,Below.refl _ _⟩⟩
 have I:Hid (Below w1.heap.size w1 w1.drew):=(Below.refl _ _).drew
 clear k0 k1 k2 k3 j0 j1 y0
 refine RY.wp_region_readers 6 [(1,0),(1,1),(1,2),(1,3),(1,4),(1,5),(0,6),(0,7),(2,8),(2,9),(0,10),(0,11)] (fun w'=>∃ p:BW w1,w'=p.w) (by kernel_rfl) (by kernel_rfl) ?_ ?_
 ·exact ⟨⟨_,I.out⟩,rfl⟩
 iterate 6 (refine RY.walkR_read ?_; simp only [dsc_,dz_,tsc_,tz_]; go_big_quiet_step (fail); refine wpQuiet_nil ?_)
 clear hnon q0 q1 q2
 refine RY.walkR_move ?_
 simp only [dsc_,dz_,tsc_,tz_]
 go_wp2_with fail
 refine cm_ (HA.out _ _ _ (B1.out.trans (I.out.mono B1.out.size)) (R1.out.below I.out nr_)) ?_
 rintro e_ w2 ⟨rfl,hb_⟩
 have I2:=hd_ (I.out.trans (hb_.mono I.out.size))
 have B2:=hd_ (B1.out.trans (I2.out.mono B1.out.size))
 have R2:=hd_ (R1.out.below I2.out nr_)
 have Pb2:=hd_ (heap_kept Pb1.out I2.out nr_)
 have Pl2:=hd_ (heap_kept Pl1.out I2.out nr_)
 have t1'':=hd_ ((I2.out.cell (p:=⟨g,1,none⟩) (Nat.lt_of_lt_of_le hgl B1.out.size)).trans t1'.out)
 clear hb_ I HA I2 B1 R1 Pb1 Pl1 t0' t1'
 go_wp2_with fail
 refine RY.walkR_move ?_
 simp only [dsc_,dz_,tsc_,tz_]
 go_wp2_with fail
 iterate 2 (refine RY.walkR_any ?_; simp only [dsc_,dz_,tsc_,tz_]; go_big_quiet_step (fail); refine wpQuiet_nil ?_)
 refine RY.walkR_move ?_
 simp only [dsc_,dz_,tsc_,tz_]
 go_wp2_with fail
 refine RY.walkR_move ?_
 simp only [dsc_,dz_,tsc_,tz_]
 go_wp2_with fail
 simp only [RY.walkR]
 by_cases hca:0 < ca
 ·rw [decide_eq_false (show ¬ ca≤0 by omega),Bool.false_and] at Hv
  go_wp2_with fail
  go_ret
  exact ⟨by rw [Hv.out]; rfl,B2.out⟩
 ·rw [decide_eq_true (show ca≤0 by omega),Bool.true_and] at Hv
  go_wp2_with fail
  obtain ⟨k0,k1,k2,k3⟩:=four_cells Pb2.out
  obtain ⟨j0,j1⟩:=one_cell Pl2.out
  have y0:=t1''.out
  have q0:=BW.cell k0
  have q1:=BW.cell j0
  have q2:=BW.cell y0
  have hnon:Nonempty (BW w2):=⟨⟨w2,Below.refl _ _⟩⟩
  have I:Hid (Below w2.heap.size w2 w2.drew):=(Below.refl _ _).drew
  clear k0 k1 k2 k3 j0 j1 y0
  refine RY.wp_region_readers 6 [(1,0),(1,1),(1,2),(1,3),(1,4),(1,5),(0,6),(0,7),(2,8),(2,9),(0,10),(0,11)] (fun w'=>∃ p:BW w2,w'=p.w) (by kernel_rfl) (by kernel_rfl) ?_ ?_
  ·exact ⟨⟨_,I.out⟩,rfl⟩
  iterate 6 (refine RY.walkR_read ?_; simp only [dsc_,dz_,tsc_,tz_]; go_big_quiet_step (fail); refine wpQuiet_nil ?_)
  clear hnon q0 q1 q2
  refine RY.walkR_move ?_
  simp only [dsc_,dz_,tsc_,tz_]
  go_wp2_with fail
  refine cm_ (HB.out _ _ _ (B2.out.trans (I.out.mono B2.out.size)) (R2.out.below I.out nr_)) ?_
  rintro e_ w3 ⟨rfl,hb_⟩
  have I2:=hd_ (I.out.trans (hb_.mono I.out.size))
  have B3:=hd_ (B2.out.trans (I2.out.mono B2.out.size))
  clear hb_ I HB I2 B2 R2
  go_wp2_with fail
  refine RY.walkR_move ?_
  simp only [dsc_,dz_,tsc_,tz_]
  go_wp2_with fail
  iterate 2 (refine RY.walkR_any ?_; simp only [dsc_,dz_,tsc_,tz_]; go_big_quiet_step (fail); refine wpQuiet_nil ?_)
  refine RY.walkR_move ?_
  simp only [dsc_,dz_,tsc_,tz_]
  go_wp2_with fail
  refine RY.walkR_move ?_
  simp only [dsc_,dz_,tsc_,tz_]
  go_wp2_with fail
  simp only [RY.walkR]
  go_wp2_with fail
  go_ret
  exact ⟨by rw [Hv.out]; rfl,B3.out⟩
end Go.Proofs.YtkoicfghplmghaaGreatDoor

namespace Go.Proofs.YtkoicfghplmghaaGreatDoor
open Go.RowKit Go.Shelf
attribute [local go_sem] Oper.semAt_some
structure KpW (n₀ gv bp:Nat) (X Y:World):Prop where
 b:Below n₀ X Y
 v:Y.heap[gv]?=X.heap[gv]?
 p:Y.heap[bp]?=X.heap[bp]?
theorem grown_ofB {A B:World} (h:Below A.heap.size A B) (r:Option Nat):A.grownBy B r:=⟨h.os,h.tape,h.output,h.size,fun k hk _=>h.block k hk⟩
theorem OwnI.block15 {w w':World} {B c g:Nat} {l:List Int} (h:OwnI w B (some ⟨g,0,none⟩) c l) (he:w'.heap[g]?=w.heap[g]?):OwnI w' B (some ⟨g,0,none⟩) c l:=by
 refine ⟨h.1,?_⟩
 rcases h.2 with h1 | ⟨g',cap,cur,hv,hb,hg,rest⟩
 ·exact .inl h1
 ·simp only [Value.slice.injEq,Option.some.injEq,Addr.mk.injEq,and_true,true_and] at hv
  obtain ⟨rfl,rfl⟩:=hv
  exact .inr ⟨g,c,cur,rfl,hb,by rw [he]; exact hg,rest⟩
theorem OwnI.lower15 {w:World} {B B' c:Nat} {a:Option Addr} {l:List Int} (h:OwnI w B a c l) (hb:B'≤B):OwnI w B' a c l :=
 ⟨h.1,h.2.imp id fun ⟨g,cap,cur,h1,h2,h3⟩=>⟨g,cap,cur,h1,Nat.le_trans hb h2,h3⟩⟩
theorem mixB_fill (m:Int) (n k:Nat) (h:k≤n):((List.replicate k (-m) ++ List.replicate (n - k) 0:List Int)).length=n:=by simp; omega
theorem fillB_set (m:Int) (n k:Nat) (h:k < n):(List.replicate k (-m) ++ List.replicate (n - k) (0:Int)).set k (-m)=List.replicate (k + 1) (-m) ++ List.replicate (n - (k + 1)) 0:=by
 refine List.ext_getElem (by simp; omega) fun i h1 h2=>?_
 simp only [List.getElem_set,List.getElem_append,List.length_replicate,List.getElem_replicate]
 repeat' split
 all_goals first | rfl | omega
theorem rows_seq (r:Nat) (hr1:1≤r) (n m:Nat) (a0:Option Addr) (c0:Nat) (hn:n≤1000) (hn0:0 < n) (hm:m≤6) (a1 a2:Option Addr) (m1 c1 m2 c2:Nat) (w00 W:World) (hb:Below w00.heap.size w00 W) (bp:Nat)
  (hbp:W.heap[bp]?=some (.cells (boxV a0 n c0 (m:Int) a1 m1 c1 a2 m2 c2) 32 (0,0)))
  (l:Nat) (J Jx:Nat→World→Prop) (hJ:∀ k A B,J k A→A.grownBy B (some W.heap.size)→J k B)
  (hY:∀ k X c d,k < numB n m→J k X→Below w00.heap.size w00 X→W.heap.size < X.heap.size→OwnI X (W.heap.size + 1) (some ⟨c,0,none⟩) d (seqB n m k)→YieldAt Fence.wide (r - 1) Tryz.prog l #[.slice (some ⟨c,0,none⟩) n d] X fun e Y =>
   (e = .returned (.bool true)∧J (k + 1) Y∧KpW w00.heap.size W.heap.size bp X Y)∨(e = .returned (.bool false)∧Jx k Y))
  (h0:J 0 W) :
  CallsIn Fence.wide r Tryz.prog 117 #[.func (.yield l) #[] #[],.pointer (some ⟨bp,0,none⟩)] W fun e X=>(∃ v,e = .returned v)∧(J (numB n m) X∨∃ k,Jx k X):=by
 unfold boxV at hbp
 have hmk:=made_i15 n W (by omega)
 have hwn:IntKind.i64.wrap (n:Int)=n:=iw_ _ (by omega)
 have hwm:IntKind.i64.wrap (-(m:Int)) = -(m:Int):=iw_ _ (by omega)
 have O0:Hid (OwnI (W.alloc (.cells (ints (List.replicate n 0)).toArray 3)) W.heap.size (some ⟨W.heap.size,0,none⟩) n (List.replicate 0 (-(m:Int)) ++ List.replicate (n - 0) 0)):=by
  have:=own_made15 W (List.replicate n 0) (by simp; omega)
  rw [List.length_replicate] at this
  show OwnI _ _ _ _ _
  simpa using this
 have B0:=hd_ ((Below.refl W.heap.size W).alloc nr_ (.cells (ints (List.replicate n 0)).toArray 3))
 have HW:=hd_ hb
 have Hset:Hid (∀ k,k < n→(List.replicate k (-(m:Int)) ++ List.replicate (n - k) (0:Int)).set k (-(m:Int))=List.replicate (k + 1) (-(m:Int)) ++ List.replicate (n - (k + 1)) 0):=fun k hk=>fillB_set m n k hk
 have Hlen:Hid (∀ k,k≤n→((List.replicate k (-(m:Int)) ++ List.replicate (n - k) 0:List Int)).length=n):=fun k hk=>mixB_fill m n k hk
 have Hfin:Hid (List.replicate n (-(m:Int)) ++ List.replicate (n - n) 0=seqB n m 0):=by show _=_; simp [seqB,startB]
 have Hsl:Hid (∀ k,(seqB n m k).length=n):=seqB_length n m
 have Hbox:Hid (∀ k,InBox m (seqB n m k)):=seqB_box (Int.natCast_nonneg m) n
 have Htop:Hid (∀ k,k < numB n m→(∀ t,t < n→(seqB n m k).getD t 0=(m:Int))→k + 1=numB n m):=fun k hk ht=>(seqB_top hk).1 (all_top fun t h=>ht t (by rw [seqB_length] at h; exact h))
 have Hnt:Hid (∀ k j,k < numB n m→j < n→(seqB n m k).getD j 0≠(m:Int)→k + 1 < numB n m):=fun k j hk hj hne=>by
  rcases Nat.lt_or_ge (k + 1) (numB n m) with h | h
  ·exact h
  ·exfalso
   have h1:=(seqB_top hk).2 (by omega)
   refine hne (h1 _ ?_)
   rw [List.getD_eq_getElem?_getD,List.getElem?_eq_getElem (by rw [seqB_length]; exact hj),Option.getD_some]
   exact List.getElem_mem _
 have Hpos:Hid (0 < numB n m):=numB_pos n m
 have HWs:=hd_ hb.size
 have Mp:=hd_ hbp
 have Hne:Hid (bp≠W.heap.size):=fun e=>by have:=(Array.getElem?_eq_some_iff.1 hbp).1; omega
 clear hb
 generalize hN:numB n m=N at *
 refine callsIn_of_wp Tryz.func117 rfl trivial ?_ rfl
 simp only [Tryz.ntmps117,List.size_toArray,List.length_cons,List.length_nil,Nat.reduceAdd,Nat.reduceSub,Array.replicate_succ,Array.replicate_zero,List.push_toArray,List.append_toArray,List.nil_append,List.cons_append]
 obtain ⟨p0,p1,p2,p3⟩:=four_cells hbp
 clear hbp hN
 gi_wp2
 gi_loopw [12] (fun x wr=>∃ k:Nat,k≤n∧x = .int .i64 k∧Hid (OwnI wr W.heap.size (some ⟨W.heap.size,0,none⟩) n (List.replicate k (-(m:Int)) ++ List.replicate (n - k) 0))∧Hid (Below W.heap.size W wr)) (fun x _=>n - (intOf x).toNat)
 case atStart=>exact ⟨0,Nat.zero_le _,rfl,O0,B0⟩
 case round =>
  clear O0 B0
  obtain ⟨k,hk,rfl,O,B⟩:=hrel
  have Mp':=hd_ ((B.out.block bp (Array.getElem?_eq_some_iff.1 Mp.out).1).trans Mp.out)
  obtain ⟨p0,p1,p2,p3⟩:=four_cells Mp'.out
  have Bw:Hid (Below w00.heap.size w00 wr):=HW.out.trans (B.out.mono HW.out.size)
  by_cases hlt:k < n
  ·have hlt':(k:Int) < n:=by omega
   have Hs:=hd_ (Hset.out k hlt)
   have Hl:=hd_ (Hlen.out k (by omega))
   obtain ⟨x0,x1,x2,x3⟩:=O.out.at15 (i:=k) (by rw [Hl.out]; exact hlt)
   have P:=hd_ (O.out.put15 k (-(m:Int)))
   rw [Hs.out] at P
   clear x2 x3 O
   gi_wp2
   go_roundw
   case rel=>exact ⟨k + 1,by omega,by go_num,P.out.1,B.out.setCell (p:=⟨W.heap.size,k,none⟩) nr_ _⟩
   case measure=>simp [intOf]; omega
  ·have hkm:k=n:=by omega
   have hlt':¬ (k:Int) < n:=by omega
   have O2:Hid (OwnI wr W.heap.size (some ⟨W.heap.size,0,none⟩) n (seqB n m 0)):=by
    have:=O.out
    rw [hkm,Hfin.out] at this
    exact this
   have J0:Hid (J 0 wr):=hJ 0 W wr h0 ⟨B.out.os,B.out.tape,B.out.output,B.out.size,fun i hi _=>B.out.block i hi⟩
   have S0:Hid (W.heap.size < wr.heap.size):=(O.out.at15 (i:=0) (by rw [Hlen.out k hk]; exact hn0)).2.2.1
   clear O B p0 p1 p2 p3 Hfin h0
   gi_wp2_with fail
   gi_loopg [5] (N + 1) (fun z x wr=>∃ k:Nat,k < N∧k + z=N + 1∧Hid (J k wr)∧Hid (OwnI wr W.heap.size (some ⟨W.heap.size,0,none⟩) n (seqB n m k))∧Hid (Below w00.heap.size w00 wr)∧Hid (wr.heap[bp]?=some (.cells #[.slice a0 n c0,.int .i64 (m:Int),.slice a1 m1 c1,.slice a2 m2 c2] 32 (0,0)))∧Hid (W.heap.size < wr.heap.size))
   case atStart=>exact ⟨0,Hpos.out,by omega,J0,O2,Bw,Mp',S0⟩
   case round =>
    clear J0 O2 Bw Mp' S0 Mp HW
    obtain ⟨k,hkN,hkz,Jk,O,B,M,S⟩:=hrel
    have hl:=Hsl.out k
    have Hbk:=hd_ (Hbox.out k)
    have Htk:=hd_ (Htop.out k hkN)
    have Hntk:Hid (∀ j,j < n→(seqB n m k).getD j 0≠(m:Int)→k + 1 < N):=fun j=>Hnt.out k j hkN
    have Hnx:Hid (seqB n m (k + 1)=nextB m (seqB n m k)):=rfl
    have Hy:Hid (∀ X c d,J k X→Below w00.heap.size w00 X→W.heap.size < X.heap.size→OwnI X (W.heap.size + 1) (some ⟨c,0,none⟩) d (seqB n m k)→YieldAt Fence.wide (r - 1) Tryz.prog l #[.slice (some ⟨c,0,none⟩) n d] X fun e Y =>
     (e = .returned (.bool true)∧J (k + 1) Y∧KpW w00.heap.size W.heap.size bp X Y)∨(e = .returned (.bool false)∧Jx k Y)):=fun X c d h1 h2 h3 h4=>hY k X c d hkN h1 h2 h3 h4
    generalize hv':seqB n m (k + 1)=v' at *
    have Hv':Hid (seqB n m (k + 1)=v'):=hv'
    clear hv'
    generalize seqB n m k=v at *
    have Hcl:=hd_ (iclone_ok wr W.heap.size 0 n v O.out.rd (by omega) (by omega))
    rw [hl] at Hcl
    have Hvl:=hd_ hl
    clear hl
    gi_wp2_with fail
    refine ⟨trivial,?_⟩
    refine (callsIn_wide.2 Hcl.out).mono ?_
    rintro e w1 ⟨g,d,rfl,ho,hb1⟩
    have B1:=hd_ (B.out.trans (hb1.mono B.out.size))
    have O1:=hd_ (O.out.below hb1 nr_)
    have J1:Hid (J k w1):=hJ k wr w1 Jk.out (grown_ofB hb1 _)
    have M1:=hd_ ((hb1.block bp (Array.getElem?_eq_some_iff.1 M.out).1).trans M.out)
    have S1:=hd_ (Nat.lt_of_lt_of_le S.out hb1.size)
    obtain ⟨fn,tmps,assign,body,hy,hR⟩:=Hy.out w1 g d J1.out B1.out S1.out (ho.lower15 S.out)
    clear ho hb1 Hcl Hy J1 B O Jk M S
    gi_wp2_with fail
    refine hR.mono ?_
    rintro e W3 (⟨rfl,hJ3,hk3⟩ | ⟨rfl,hJx3⟩)
    ·have B3:=hd_ (B1.out.trans hk3.b)
     have O3:Hid (OwnI W3 W.heap.size (some ⟨W.heap.size,0,none⟩) n (mixB m v 0)):=by rw [mixB_zero]; exact O1.out.block15 hk3.v
     have M3:=hd_ (hk3.p.trans M1.out)
     have J3:=hd_ hJ3
     clear hJ3 hk3 hR hy B1 O1 M1 S1
     gi_wp2_with fail
     gi_loopw [5] (fun x wr=>∃ j:Nat,j≤n∧x = .int .i64 j∧Hid (∀ t,t < j→v.getD t 0=(m:Int))∧Hid (J (k + 1) wr)∧Hid (OwnI wr W.heap.size (some ⟨W.heap.size,0,none⟩) n (mixB m v j))∧Hid (Below w00.heap.size w00 wr)∧Hid (wr.heap[bp]?=some (.cells #[.slice a0 n c0,.int .i64 (m:Int),.slice a1 m1 c1,.slice a2 m2 c2] 32 (0,0)))) (fun x _=>n - (intOf x).toNat)
     case atStart=>exact ⟨0,Nat.zero_le _,rfl,fun t ht=>absurd ht (Nat.not_lt_zero _),J3,O3,B3,M3⟩
     case round =>
      clear J3 O3 B3 M3
      obtain ⟨j,hj,rfl,Ht,Jw,O,B,M⟩:=hrel
      obtain ⟨p0,p1,p2,p3⟩:=four_cells M.out
      by_cases hlt:j < n
      ·have hlt':(j:Int) < n:=by omega
       have hjl:j < v.length:=by rw [Hvl.out]; exact hlt
       obtain ⟨x0,x1,x2,x3⟩:=O.out.at15 (i:=j) (by rw [mixB_length _ _ (by omega)]; exact hjl)
       rw [mixB_get _ _ (by omega)] at x0
       have hbx : -(m:Int)≤v.getD j 0∧v.getD j 0≤m:=by
        refine Hbk.out _ ?_
        rw [List.getD_eq_getElem?_getD,List.getElem?_eq_getElem hjl,Option.getD_some]
        exact List.getElem_mem _
       by_cases hq:v.getD j 0=(m:Int)
       ·have Hmx:Hid ((mixB m v j).set j (-(m:Int))=mixB m v (j + 1)):=mixB_step _ _ hjl
        rw [hq] at x0
        have Ht2:Hid (∀ t,t < j + 1→v.getD t 0=(m:Int)):=fun t ht=>by
         rcases Nat.lt_or_ge t j with h | h
         ·exact Ht.out t h
         ·rw [show t=j by omega]; exact hq
        have Hj:=hd_ hlt
        have hmm:((m:Int) == m)=true:=beq_self_eq_true _
        clear hq hbx Ht x2 x3
        gi_wp2_with fail
        refine wpIn_wide.2 ?_
        go_quiet (fail)
        gi_wp2
        go_roundw
        case rel =>
         refine ⟨j + 1,by have:=Hj.out; omega,by go_num,Ht2,?_,?_,?_,?_⟩
         ·exact hJ _ _ _ (hJ _ _ _ Jw.out (grown_ofB (below_drawn _ _) _)) ((O.out.below (below_drawn _ _) nr_).put15 j _).2
         ·show OwnI _ _ _ _ _
          rw [← Hmx.out]
          exact ((O.out.below (below_drawn _ _) nr_).put15 j _).1
         ·exact (below_dn B.out _).setCell (p:=⟨W.heap.size,j,none⟩) HWs.out _
         ·show _=_
          rw [Below.heap_setCell _ _ _ _ (fun e=>Hne.out e)]
          exact M.out
        case measure=>simp [intOf]; omega
       ·have Hmx:Hid ((mixB m v j).set j (v.getD j 0 + 1)=v'):=by
         show _=_
         rw [mixB_next _ _ _ hjl Ht.out hq]
         exact Hnx.out.symm
        have hNk:=Hntk.out j hlt hq
        have f1:IntKind.i64.wrap (v.getD j 0 + 1)=v.getD j 0 + 1:=iw_ _ (by omega)
        have hq1:(v.getD j 0 == (m:Int))=false:=by rw [beq_eq_false_iff_ne]; exact hq
        have hne:((j:Int) == n)=false:=by rw [beq_eq_false_iff_ne]; omega
        have Sx:=hd_ x2
        clear hq Ht x2 x3
        generalize v.getD j 0=xb at *
        gi_wp2_with fail
        refine wpIn_wide.2 ?_
        go_quiet (fail)
        gi_wp2
        go_roundg (gk - 1)
        case measure=>omega
        case rel =>
         refine ⟨k + 1,hNk,by omega,?_,?_,?_,?_,?_⟩
         ·exact hJ _ _ _ (hJ _ _ _ Jw.out (grown_ofB (below_drawn _ _) _)) ((O.out.below (below_drawn _ _) nr_).put15 j _).2
         ·show OwnI _ _ _ _ _
          rw [Hv'.out,← Hmx.out]
          exact ((O.out.below (below_drawn _ _) nr_).put15 j _).1
         ·exact (below_dn B.out _).setCell (p:=⟨W.heap.size,j,none⟩) HWs.out _
         ·show _=_
          rw [Below.heap_setCell _ _ _ _ (fun e=>Hne.out e)]
          exact M.out
         ·exact Nat.lt_of_lt_of_le Sx.out ((Below.refl 0 (wr.drewN _)).setCell (p:=⟨W.heap.size,j,none⟩) (Nat.zero_le _) _).size
      ·have hlt':¬ (j:Int) < n:=by omega
       have hjn:j=n:=by omega
       have hNk:=Htk.out (by rw [← hjn]; exact Ht.out)
       have heq:((j:Int) == n)=true:=by rw [beq_iff_eq]; omega
       have JX:Hid (J N wr):=by rw [← hNk]; exact Jw.out
       clear hjn
       gi_wp2_with fail
       refine wpIn_wide.2 ?_
       go_quiet (fail)
       gi_wp2
       refine bodyPost_ret (results_none rfl _ _ _) rfl ?_
       exact ⟨⟨_,rfl⟩,.inl (hJ _ _ _ JX.out (grown_ofB (below_drawn _ _) _))⟩
    ·have JX:=hd_ hJx3
     clear hJx3 hR hy B1 O1 M1 S1
     gi_wp2
     refine bodyPost_ret (results_none rfl _ _ _) rfl ?_
     exact ⟨⟨_,rfl⟩,.inr ⟨k,JX.out⟩⟩
end Go.Proofs.YtkoicfghplmghaaGreatDoor

namespace Go.Proofs.YtkoicfghplmghaaGreatDoor
open Go.RowKit Go.Shelf
structure KpC (n₀:Nat) (S:List Nat) (X Y:World):Prop where
 b:Below n₀ X Y
 same:∀ i∈S,Y.heap[i]?=X.heap[i]?
theorem KpC.refl (n₀:Nat) (S:List Nat) (X:World):KpC n₀ S X X:=⟨Below.refl _ _,fun _ _=>rfl⟩
theorem KpC.trans {n₀:Nat} {S:List Nat} {X Y Z:World} (h:KpC n₀ S X Y) (k:KpC n₀ S Y Z):KpC n₀ S X Z:=⟨h.b.trans k.b,fun i hi=>(k.same i hi).trans (h.same i hi)⟩
theorem KpC.of {n₀ B:Nat} {S:List Nat} {X Y:World} (h:Below B X Y) (h0:n₀≤B) (hS:∀ i∈S,i < B):KpC n₀ S X Y:=⟨h.mono h0,fun i hi=>h.block i (hS i hi)⟩
theorem KpC.grown {n₀ r:Nat} {S:List Nat} {X Y:World} (h:X.grownBy Y (some r)) (h0:n₀≤r) (h1:n₀≤X.heap.size) (hS:∀ i∈S,i < X.heap.size∧i≠r):KpC n₀ S X Y :=
 ⟨⟨h.os,h.tape,h.output,h.size,fun i hi=>h.block i (by omega) (fun e=>by have:=Option.some.inj e; omega)⟩,fun i hi=>h.block i (hS i hi).1 (fun e=>(hS i hi).2 (Option.some.inj e))⟩
def rowPost (n₀ D bp:Nat) (I:Nat→World→Prop) (Ix:Code→World→Prop) (k:Nat) (X:World):Exit→Act→World→Prop
 | .normal,_,Y=>I (k + 1) Y∧KpC n₀ [D,D + 1,D + 2,bp] X Y
 | .ret,_,Y=>Ix .ret Y∧KpC n₀ [D,D + 1,D + 2,bp] X Y
 | .exit id,_,Y=>Ix (.exit id) Y∧KpC n₀ [D,D + 1,D + 2,bp] X Y
 | .goto t,_,Y=>Ix (.goto t) Y∧KpC n₀ [D,D + 1,D + 2,bp] X Y
 | .panic _,_,_=>False
 | .outgrown,_,_=>False
theorem range_rows {g:Operand} {pt:Tmp} {assign body:Code} {Q:Exit→Act→World→Prop} {a:Act} {n:Nat} (h1:2≤n)
  (nn m:Nat) (a0:Option Addr) (c0:Nat) (hnn:nn≤1000) (hn0:0 < nn) (hm:m≤6) (x1 x2:Option Addr) (m1 c1 m2 c2:Nat) (w00 w:World) (hb:Below w00.heap.size w00 w) (bp:Nat)
  (hbp:w.heap[bp]?=some (.cells (boxV a0 nn c0 (m:Int) x1 m1 c1 x2 m2 c2) 32 (0,0)))
  (hg:a.eval g = .func (.func 117) #[] #[.pointer (some ⟨bp,0,none⟩)])
  (I:Nat→World→Prop) (Ix:Code→World→Prop)
  (hI:∀ k A B r,I k A→A.grownBy B (some r)→w.heap.size≤r∧r≤w.heap.size + 2→I k B)
  (hIx:∀ c A B r,Ix c A→A.grownBy B (some r)→w.heap.size≤r∧r≤w.heap.size + 2→Ix c B) (h0:I 0 w) (a₁:Nat→Nat→Act)
  (hassign:∀ (c d:Nat) (W:World) (K:Act→World→Prop),K (a₁ c d) W →
   assign.wpIn (Fence.wide.inRound (w.heap.size + 1)) (n - 1 - 1) Tryz.prog (Exit.then K (fun _ _ _=>False)) { tmps:=a.tmps.setIfInBounds pt (.slice (some ⟨c,0,none⟩) nn d),defers:=[] } W)
  (hbody:∀ (k:Nat) (X:World) (c d:Nat),k < numB nn m→I k X→Below w00.heap.size w00 X→w.heap.size + 2 < X.heap.size→OwnI X (w.heap.size + 3) (some ⟨c,0,none⟩) d (seqB nn m k) →
   body.wpIn (Fence.wide.inRound (w.heap.size + 1)) (n - 1 - 1) Tryz.prog (rowPost w00.heap.size w.heap.size bp I Ix k X) (a₁ c d) X)
  (hstop:∀ (c:Code) (W:World),Ix c W→W.heap[w.heap.size]?=some (.deferred (some []))→c.wpIn Fence.wide n Tryz.prog Q { a with defers:={ target := .collected w.heap.size,args := #[] } :: a.defers } W)
  (hdone:∀ (W:World),I (numB nn m) W→W.heap[w.heap.size]?=some (.deferred (some []))→Q .normal { a with defers:={ target := .collected w.heap.size,args := #[] } :: a.defers } W) :
  (Code.rangeFunc g #[pt] assign body).wpIn Fence.wide n Tryz.prog Q a w:=by
 refine wpIn_rangeFunc ?_
 intro fn hfn
 rw [show Fence.wide.round=none from rfl]
 obtain ⟨rec,hrec⟩:∃ rec:LoopState→Option Code→Loop,rec=fun st pe=>{ state:=st,pending:=pe,fn,tmps:=a.tmps,params := #[pt],assign,body,defers:=w.heap.size }:=⟨_,rfl⟩
 obtain ⟨W1,hW1⟩:∃ W1,(w.alloc (.deferred (some []))).alloc (.loop (rec .ready none))=W1:=⟨_,rfl⟩
 have hs1:W1.heap.size=w.heap.size + 2:=by rw [← hW1]; simp
 have hL1:W1.heap[w.heap.size + 1]?=some (.loop (rec .ready none)):=by
  rw [← hW1]; have:=World.alloc_heap_new (w.alloc (.deferred (some []))) (.loop (rec .ready none)); rwa [World.size_alloc] at this
 have hK1:W1.heap[w.heap.size]?=some (.deferred (some [])):=by
  rw [← hW1]; exact (Below.heap_alloc _ _ _ (by simp)).trans (World.alloc_heap_new w _)
 have hG1:Below w.heap.size w W1:=by rw [← hW1]; exact ((Below.refl _ w).alloc nr_ _).alloc (by simp) _
 have hI1:I 0 W1:=hI 0 w W1 w.heap.size h0 (grown_ofB hG1 _) ⟨Nat.le_refl _,by omega⟩
 have hb1:Below w00.heap.size w00 W1:=hb.trans (hG1.mono hb.size)
 have sp:=(Array.getElem?_eq_some_iff.1 hbp).1
 have hbp1:=(hG1.block bp sp).trans hbp
 have eg:=enters_of Tryz.func117 (by kernel_rfl) rfl
 refine ⟨w.heap.size + 1,[{ target := .collected w.heap.size,args := #[] }],W1,{ target := .fn (.func 117) #[.pointer (some ⟨bp,0,none⟩)],args := #[.func (.yield (w.heap.size + 1)) #[] #[]] },W1,117,
  #[.func (.yield (w.heap.size + 1)) #[] #[]] ++ #[.pointer (some ⟨bp,0,none⟩)],W1,?_,?_,?_,?_,fun _=>by omega,?_⟩
 ·rw [← hW1,hrec]; exact run_enterLoop_outer _ _ _ _ _
 ·simp only [resolve,hg]
  simp [go_sem]
 ·intro f' hf'; simp [Target.leads] at hf'; subst hf'; trivial
 ·simp [invoke,go_sem]
 ·refine (rows_seq (n - 1) (by omega) nn m a0 c0 hnn hn0 hm x1 x2 m1 c1 m2 c2 w00 W1 hb1 bp hbp1 (w.heap.size + 1)
   (fun k X=>I k X∧X.heap[w.heap.size + 1]?=some (.loop (rec .ready none))∧X.heap[w.heap.size]?=some (.deferred (some [])))
   (fun k X=>∃ c,Ix c X∧X.heap[w.heap.size + 1]?=some (.loop (rec .done (some c)))∧X.heap[w.heap.size]?=some (.deferred (some [])))
   ?_ ?_ ⟨hI1,hL1,hK1⟩).mono ?_
  ·intro k A B hs hg'
   rw [hs1] at hg'
   refine ⟨hI k A B _ hs.1 hg' ⟨by omega,Nat.le_refl _⟩,(hg'.block _ (Array.getElem?_eq_some_iff.1 hs.2.1).1 (fun e=>by have:=Option.some.inj e; omega)).trans hs.2.1,(hg'.block _ (Array.getElem?_eq_some_iff.1 hs.2.2).1 (fun e=>by have:=Option.some.inj e; omega)).trans hs.2.2⟩
  ·-- ONE ROUND
   rintro k W c d hkN ⟨hi,hl,hk⟩ hbW hsW hO
   rw [hs1] at hsW hO
   have hlt:w.heap.size + 1 < W.heap.size:=(Array.getElem?_eq_some_iff.1 hl).1
   have hy:=run_yield (P:=Tryz.prog) (args := #[.slice (some ⟨c,0,none⟩) nn d]) hl (by rw [hrec]; simp)
   rw [hrec] at hy
   obtain ⟨W2,hW2⟩:∃ W2,W.putObj (w.heap.size + 1) (.loop { rec .ready none with state := .busy })=W2:=⟨_,rfl⟩
   have hl2:W2.heap[w.heap.size + 1]?=some (.loop { rec .ready none with state := .busy }):=by rw [← hW2]; exact World.putObj_heap_same hlt
   have hg2:W.grownBy W2 (some (w.heap.size + 1)):=by rw [← hW2]; exact grownBy_putObj' W _ _
   have hk2:W2.heap[w.heap.size]?=some (.deferred (some [])):=(hg2.block _ (by omega) (fun e=>by have:=Option.some.inj e; omega)).trans hk
   have hi2:I k W2:=hI k W W2 _ hi hg2 ⟨by omega,by omega⟩
   have hz:w00.heap.size≤w.heap.size:=hb.size
   have hbW2:Below w00.heap.size W W2:=⟨hg2.os,hg2.tape,hg2.output,hg2.size,fun i hj=>hg2.block i (by omega) (fun e=>by have:=Option.some.inj e; omega)⟩
   have hO2:OwnI W2 (w.heap.size + 3) (some ⟨c,0,none⟩) d (seqB nn m k):=by
    refine hO.block15 (hg2.block c ?_ ?_)
    ·exact (hO.at15 (i:=0) (by rw [seqB_length]; exact hn0)).2.2.1
    ·intro e
     have:=(hO.at15 (i:=0) (by rw [seqB_length]; exact hn0)).2.2.2
     have:=Option.some.inj e
     omega
   have hw:=hbody k W2 c d hkN hi2 (hbW.trans hbW2) (Nat.lt_of_lt_of_le hsW hg2.size) hO2
   refine ⟨fn,_,assign,body,hy,roundIn_of_wpIn hfn ?_⟩
   have ht:((#[pt]:Array Tmp).zip #[Value.slice (some ⟨c,0,none⟩) nn d]).foldl (fun tmps (t,a)=>tmps.setIfInBounds t a) a.tmps=a.tmps.setIfInBounds pt (.slice (some ⟨c,0,none⟩) nn d):=by simp
   rw [ht]
   refine hassign c d W _ ⟨W2,?_,?_⟩
   ·rw [← hW2]; exact run_beginRound hl (by rw [hrec])
   refine wpIn_mono hw ?_
   have fin:∀ (jump:Option Code) (W3:World),KpC w00.heap.size [w.heap.size,w.heap.size + 1,w.heap.size + 2,bp] W2 W3 →
     (Instr.endRound (w.heap.size + 1) jump).run Tryz.prog W3 = .ok (.bool jump.isNone) (W3.putObj (w.heap.size + 1) (.loop (rec (if jump.isNone then .ready else .done) jump))) ∧
     (W3.putObj (w.heap.size + 1) (.loop (rec (if jump.isNone then .ready else .done) jump))).heap[w.heap.size + 1]?=some (.loop (rec (if jump.isNone then .ready else .done) jump)) ∧
     (W3.putObj (w.heap.size + 1) (.loop (rec (if jump.isNone then .ready else .done) jump))).heap[w.heap.size]?=some (.deferred (some [])) ∧
     W3.grownBy (W3.putObj (w.heap.size + 1) (.loop (rec (if jump.isNone then .ready else .done) jump))) (some (w.heap.size + 1)):=fun jump W3 hk3=>by
    have hl3:=(hk3.same (w.heap.size + 1) (by simp)).trans hl2
    have:=run_endRound (P:=Tryz.prog) jump hl3
    rw [hrec] at this ⊢
    exact ⟨this,World.putObj_heap_same (Array.getElem?_eq_some_iff.1 hl3).1,(World.putObj_heap_other (by omega)).trans ((hk3.same _ (by simp)).trans hk2),grownBy_putObj' _ _ _⟩
   rintro e a3 W3 hpst
   cases e with
   | normal =>
    obtain ⟨hi3,hk3⟩:=hpst
    obtain ⟨hr,hl4,hk4,hg4⟩:=fin none W3 hk3
    refine ⟨_,_,hr,.inl ⟨rfl,⟨hI _ W3 _ _ hi3 hg4 ⟨by omega,by omega⟩,hl4,hk4⟩,⟨?_,?_,?_⟩⟩⟩
    ·refine (hbW2.trans hk3.b).trans ⟨hg4.os,hg4.tape,hg4.output,hg4.size,fun i hj=>hg4.block i ?_ (fun e=>by have:=Option.some.inj e; omega)⟩
     have:=hk3.b.size
     have:=hg2.size
     omega
    ·rw [hs1]
     exact (World.putObj_heap_other (by omega)).trans ((hk3.same _ (by simp)).trans (hg2.block _ hsW (fun e=>by have:=Option.some.inj e; omega)))
    ·exact (World.putObj_heap_other (by omega)).trans ((hk3.same _ (by simp)).trans (hg2.block _ (by omega) (fun e=>by have:=Option.some.inj e; omega)))
   | ret =>
    obtain ⟨hi3,hk3⟩:=hpst
    obtain ⟨hr,hl4,hk4,hg4⟩:=fin (some .ret) W3 hk3
    exact ⟨_,_,hr,.inr ⟨rfl,.ret,hIx _ W3 _ _ hi3 hg4 ⟨by omega,by omega⟩,hl4,hk4⟩⟩
   | exit id =>
    obtain ⟨hi3,hk3⟩:=hpst
    obtain ⟨hr,hl4,hk4,hg4⟩:=fin (some (.exit id)) W3 hk3
    exact ⟨_,_,hr,.inr ⟨rfl,.exit id,hIx _ W3 _ _ hi3 hg4 ⟨by omega,by omega⟩,hl4,hk4⟩⟩
   | goto t =>
    obtain ⟨hi3,hk3⟩:=hpst
    obtain ⟨hr,hl4,hk4,hg4⟩:=fin (some (.goto t)) W3 hk3
    exact ⟨_,_,hr,.inr ⟨rfl,.goto t,hIx _ W3 _ _ hi3 hg4 ⟨by omega,by omega⟩,hl4,hk4⟩⟩
   | panic ch=>exact hpst.elim
   | outgrown=>exact hpst.elim
  ·-- BEHIND THE ITERATOR
   rintro e W2 ⟨⟨v,rfl⟩,(⟨hi,hl,hk⟩ | ⟨k,c,hi,hl,hk⟩)⟩
   ·refine ⟨none,_,by have:=run_endLoop (P:=Tryz.prog) hl (by rw [hrec]; simp); rw [hrec] at this; exact this,?_⟩
    exact hdone _ (hI _ W2 _ _ hi (grownBy_putObj' _ _ _) ⟨by omega,by omega⟩) ((World.putObj_heap_other (by omega)).trans hk)
   ·refine ⟨some c,_,by have:=run_endLoop (P:=Tryz.prog) hl (by rw [hrec]; simp); rw [hrec] at this; exact this,?_⟩
    exact hstop c _ (hIx c W2 _ _ hi (grownBy_putObj' _ _ _) ⟨by omega,by omega⟩) ((World.putObj_heap_other (by omega)).trans hk)
theorem rowsF_any (w:World) (a0:Option Addr) (c0 n:Nat) (most:Int) (a1 a2:Option Addr) (m1 c1 m2 c2:Nat) :
  Calls Tryz.prog 65 #[.agg (boxV a0 n c0 most a1 m1 c1 a2 m2 c2)] w fun e w' =>
   e = .returned (.func (.func 117) #[] #[.pointer (some ⟨w.heap.size,0,none⟩)])∧w'=w.alloc (.cells (boxV a0 n c0 most a1 m1 c1 a2 m2 c2) 32):=by
 unfold boxV
 go_enter Tryz.func65,Tryz.ntmps65
 go_wp2
 go_ret
 exact ⟨rfl,rfl⟩
end Go.Proofs.YtkoicfghplmghaaGreatDoor

namespace Go.Proofs.YtkoicfghplmghaaGreatDoor
open Go.RowKit Go.Shelf
attribute [local go_sem] Oper.semAt_some
theorem wpListIn_append_row {F:Fence} {nF:Nat} {P:Program} {W:World} {ops:Array Oper} {rest:List Oper} {o:Oper} {a:Act} {Q:Exit→Act→World→Prop} (hgd:o.guard=none) (s x:Operand) (t:TypeId)
  (ho:o.op = .call { callee := .builtin .append,args := #[s,x],argTypes := #[t,t] })
  {e:TypeId} {z:Value} {bytes:Nat} (E:ElemOf P t e z 1 bytes)
  (v u:Value) (hs:a.eval s=v) (hx:a.eval x = .slice (some ⟨W.heap.size,0,none⟩) 1 1)
  {base n:Nat} {xs:List Value} (hown:W.ownsRow base e 1 v n xs) (hbase:base≤W.heap.size)
  (h1:u.oneCell'=true) (h63:n + 1≤4611686018427387904) (hbytes:(n + 1) * bytes≤140737488355328)
  (h:∀ v' w',w'.ownsRow base e 1 v' (n + 1) (xs ++ [u])→(W.alloc (.cells #[u] e)).grownBy w' v.ownBlock→(v'.ownBlock=v.ownBlock∨v'.ownBlock=some (W.alloc (.cells #[u] e)).heap.size)→wpListIn F nF P ops Q rest (a.put o.dst v') w') :
  wpListIn F nF P ops Q (o :: rest) a (W.alloc (.cells #[u] e)):=by
 obtain ⟨i,hi,hz,hsize,hby⟩:=E.info
 exact wpListIn_append_own_at _ hgd s x t ho base e i z 1 bytes E.ht hi hz hsize hby E.hzs E.pos v n xs hs (hown.alloc _) ⟨W.heap.size,0,none⟩ 1 1 [u] hx rfl (cell_one_new W u e) (fun y hy=>by obtain rfl:=List.mem_singleton.1 hy; exact h1) (by unfold maxLen; omega) hbytes (by simp; omega) fun v' w' h2 h3 _ h5=>h v' w' h2 h3 h5
structure OwnW (w:World) (B:Nat) (b:Option Addr) (d n:Nat) (L:List (Nat×Nat)) (ls:Nat→List Int):Prop where
 row:w.ownsRow B 25 1 (.slice b L.length d) L.length (L.map fun x => .slice (some ⟨x.1,0,none⟩) n x.2)
 each:∀ i (h1:i < L.length),OwnI w B (some ⟨L[i].1,0,none⟩) L[i].2 (ls i)
 lens:∀ i,(ls i).length=n
theorem OwnW.nil (w:World) (B n:Nat) (ls:Nat→List Int) (h:∀ i,(ls i).length=n):OwnW w B none 0 n [] ls:=⟨⟨rfl,.inl ⟨rfl,rfl⟩⟩,fun i h1=>by simp at h1,h⟩
theorem ownI_lt15 {w:World} {B c g:Nat} {l:List Int} (h:OwnI w B (some ⟨g,0,none⟩) c l):B≤g∧g < w.heap.size:=World.ownsRow.lt h g rfl
theorem OwnW.kept {w w':World} {B r:Nat} {b:Option Addr} {d n:Nat} {L:List (Nat×Nat)} {ls:Nat→List Int} (h:OwnW w B b d n L ls) (hg:w.grownBy w' (some r)) (hr:r < B):OwnW w' B b d n L ls:=by
 refine ⟨h.row.kept hg (.inr fun e=>?_),fun i h1=>(h.each i h1).block15 (hg.block _ (ownI_lt15 (h.each i h1)).2 fun e=>?_),h.lens⟩
 ·have:=(h.row.lt r e).1
  omega
 ·have:=(ownI_lt15 (h.each i h1)).1
  have:=Option.some.inj e
  omega
theorem OwnW.below {w w':World} {B B':Nat} {b:Option Addr} {d n:Nat} {L:List (Nat×Nat)} {ls:Nat→List Int} (h:OwnW w B b d n L ls) (hb:Below B' w w') (hB:w.heap.size≤B'):OwnW w' B b d n L ls :=
 ⟨own_below h.row hb hB,fun i h1=>(h.each i h1).block15 (hb.block _ (by have:=(ownI_lt15 (h.each i h1)).2; omega)),h.lens⟩
theorem OwnW.lower {w:World} {B B':Nat} {b:Option Addr} {d n:Nat} {L:List (Nat×Nat)} {ls:Nat→List Int} (h:OwnW w B b d n L ls) (hb:B'≤B):OwnW w B' b d n L ls :=
 ⟨⟨h.row.1,h.row.2.imp id fun ⟨g,cap,cur,h1,h2,h3⟩=>⟨g,cap,cur,h1,Nat.le_trans hb h2,h3⟩⟩,fun i h1=>(h.each i h1).lower15 hb,h.lens⟩
theorem ownW_apart {w:World} {B1 B2 s1 s2 n1 n2:Nat} {e1 e2:TypeId} {v1 v2:Value} {x1 x2:List Value} (h1:w.ownsRow B1 e1 s1 v1 n1 x1) (h2:w.ownsRow B2 e2 s2 v2 n2 x2) (hne:e1≠e2) :
  ∀ k,v1.ownBlock=some k→v2.ownBlock≠some k:=by
 intro k hk hk2
 rcases h1.2 with ⟨rfl,_⟩ | ⟨g,cap,cur,rfl,_,hg,_⟩
 ·simp [Value.ownBlock] at hk
 ·rcases h2.2 with ⟨rfl,_⟩ | ⟨g2,cap2,cur2,rfl,_,hg2,_⟩
  ·simp [Value.ownBlock] at hk2
  ·simp only [Value.ownBlock,Option.some.injEq] at hk hk2
   subst hk
   subst hk2
   rw [hg] at hg2
   simp only [Option.some.injEq,Obj.cells.injEq] at hg2
   exact hne hg2.2.1
theorem OwnW.put {w1 w3:World} {B d n c g:Nat} {b:Option Addr} {L:List (Nat×Nat)} {ls:Nat→List Int} {v':Value} (h:OwnW w1 B b d n L ls) (ho:OwnI w1 B (some ⟨g,0,none⟩) c (ls L.length))
  (hown:w3.ownsRow B 25 1 v' (L.length + 1) ((L.map fun x=>Value.slice (some ⟨x.1,0,none⟩) n x.2) ++ [.slice (some ⟨g,0,none⟩) n c])) (hg:(w1.alloc (.cells #[.slice (some ⟨g,0,none⟩) n c] 25)).grownBy w3 (Value.slice b L.length d).ownBlock) :
  ∃ b' d',v' = .slice b' (L.length + 1) d'∧OwnW w3 B b' d' n (L ++ [(g,c)]) ls:=by
 obtain ⟨b',d',rfl⟩:=own_form hown
 have hA:Below w1.heap.size w1 (w1.alloc (.cells #[.slice (some ⟨g,0,none⟩) n c] 25)):=(Below.refl _ _).alloc nr_ _
 have hrow:=own_below h.row hA nr_
 have keep:∀ (a2:Option Addr) (c2:Nat) (l2:List Int),OwnI w1 B a2 c2 l2→OwnI w3 B a2 c2 l2:=fun a2 c2 l2 h2=>by
  have h3:OwnI _ B a2 c2 l2:=h2.below hA nr_
  unfold OwnI at h3 ⊢
  refine World.ownsRow.kept h3 hg ?_
  have hap:=ownW_apart hrow h3 (by decide)
  cases hv:(Value.slice b L.length d).ownBlock with
  | none=>cases hv2:(Value.slice a2 l2.length c2).ownBlock <;> simp
  | some k=>exact .inr (hap k hv)
 refine ⟨b',d',rfl,?_,?_,h.lens⟩
 ·rw [List.length_append,List.map_append]
  exact hown
 ·intro i h1
  by_cases hi:i < L.length
  ·simp only [List.getElem_append_left hi]
   exact keep _ _ _ (h.each i hi)
  ·have e:i=L.length:=by simp at h1; omega
   subst e
   simp only [List.getElem_append_right nr_,Nat.sub_self,List.getElem_cons_zero]
   exact keep _ _ _ ho
end Go.Proofs.YtkoicfghplmghaaGreatDoor

namespace Go.Proofs.YtkoicfghplmghaaGreatDoor
def SoB (G:Nat→Nat) (a b:Nat):Prop:=∀ i j,a≤i→i < j→j < b→G i < G j
structure PmB (F F':Nat→Nat) (a b:Nat):Prop where
 out:∀ k,k < a∨b≤k→F' k=F k
 src:∀ k,a≤k→k < b→∃ m,a≤m∧m < b∧F' k=F m
theorem PmB.refl (F:Nat→Nat) (a b:Nat):PmB F F a b:=⟨fun _ _=>rfl,fun k h1 h2=>⟨k,h1,h2,rfl⟩⟩
theorem PmB.trans {F F' F'':Nat→Nat} {a b:Nat} (h:PmB F F' a b) (k:PmB F' F'' a b):PmB F F'' a b :=
 ⟨fun i hi=>(k.out i hi).trans (h.out i hi),fun i h1 h2=>by
  obtain ⟨m,m1,m2,e⟩:=k.src i h1 h2
  obtain ⟨l,l1,l2,e2⟩:=h.src m m1 m2
  exact ⟨l,l1,l2,e.trans e2⟩⟩
theorem PmB.wide {F F':Nat→Nat} {a b c d:Nat} (h:PmB F F' c d) (h1:a≤c) (h2:d≤b):PmB F F' a b :=
 ⟨fun i hi=>h.out i (by omega),fun i h3 h4=>by
  by_cases hc:c≤i∧i < d
  ·obtain ⟨m,m1,m2,e⟩:=h.src i hc.1 hc.2
   exact ⟨m,by omega,by omega,e⟩
  ·exact ⟨i,h3,h4,h.out i (by omega)⟩⟩
def rotF (F:Nat→Nat) (lo i j k:Nat):Nat:=if k < lo then F k else if k < lo + j then F (k + i) else if k < lo + i + j then F (k - j) else F k
def swR (F:Nat→Nat) (a b n k:Nat):Nat:=if a≤k∧k < a + n then F (k - a + b) else if b≤k∧k < b + n then F (k - b + a) else F k
def sw2 (F:Nat→Nat) (x y k:Nat):Nat:=if k=x then F y else if k=y then F x else F k
theorem rot_gt {F:Nat→Nat} {lo i j:Nat} (h:j < i) (h0:0 < j):rotF (swR F lo (lo + i) j) (lo + j) (i - j) j=rotF F lo i j:=by
 funext k
 unfold rotF swR
 repeat' split
 all_goals first | rfl | omega | (congr 1; omega)
theorem rot_lt {F:Nat→Nat} {lo i j:Nat} (h:i < j) (h0:0 < i):rotF (swR F lo (lo + j) i) lo i (j - i)=rotF F lo i j:=by
 funext k
 unfold rotF swR
 repeat' split
 all_goals first | rfl | omega | (congr 1; omega)
theorem rot_eq (F:Nat→Nat) (lo i:Nat):swR F lo (lo + i) i=rotF F lo i i:=by
 funext k
 unfold rotF swR
 repeat' split
 all_goals first | rfl | omega | (congr 1; omega)
theorem swR_zero (F:Nat→Nat) (a b:Nat):swR F a b 0=F:=by
 funext k
 unfold swR
 rw [if_neg (by omega),if_neg (by omega)]
theorem swR_succ {F:Nat→Nat} {a b n t:Nat} (h:a + n≤b) (ht:t < n):sw2 (swR F a b t) (a + t) (b + t)=swR F a b (t + 1):=by
 funext k
 unfold sw2 swR
 repeat' split
 all_goals first | rfl | omega | (congr 1; omega)
theorem rotF_up (F:Nat→Nat) (a t:Nat):sw2 (rotF F a 1 t) (a + t) (a + t + 1)=rotF F a 1 (t + 1):=by
 funext k
 unfold sw2 rotF
 repeat' split
 all_goals first | rfl | omega | (congr 1; omega)
theorem rotF_dn (F:Nat→Nat) (l t:Nat):sw2 (rotF F (l + 1) t 1) (l + 1) l=rotF F l (t + 1) 1:=by
 funext k
 unfold sw2 rotF
 repeat' split
 all_goals first | rfl | omega | (congr 1; omega)
theorem rotF_z1 (F:Nat→Nat) (l i:Nat):rotF F l i 0=F:=by
 funext k
 unfold rotF
 repeat' split
 all_goals first | rfl | omega
theorem rotF_z2 (F:Nat→Nat) (l j:Nat):rotF F l 0 j=F:=by
 funext k
 unfold rotF
 repeat' split
 all_goals first | rfl | omega | (congr 1; omega)
theorem rotF_comp (r F:Nat→Nat) (l i j k:Nat):r (rotF F l i j k)=rotF (fun x=>r (F x)) l i j k:=by
 unfold rotF
 repeat' split
 all_goals rfl
theorem rotF_pm (F:Nat→Nat) {l i j a b:Nat} (h1:a≤l) (h2:l + i + j≤b):PmB F (rotF F l i j) a b:=by
 refine ⟨fun k hk=>?_,fun k h3 h4=>?_⟩
 ·unfold rotF
  repeat' split
  all_goals first | rfl | omega
 ·unfold rotF
  repeat' split
  ·exact ⟨k,h3,h4,rfl⟩
  ·exact ⟨k + i,by omega,by omega,rfl⟩
  ·exact ⟨k - j,by omega,by omega,rfl⟩
  ·exact ⟨k,h3,h4,rfl⟩
theorem sw2_pm (F:Nat→Nat) {x y a b:Nat} (h1:a≤x) (h2:x < b) (h3:a≤y) (h4:y < b):PmB F (sw2 F x y) a b:=by
 refine ⟨fun k hk=>?_,fun k h5 h6=>?_⟩
 ·unfold sw2
  rw [if_neg (by omega),if_neg (by omega)]
 ·unfold sw2
  repeat' split
  ·exact ⟨y,h3,h4,rfl⟩
  ·exact ⟨x,h1,h2,rfl⟩
  ·exact ⟨k,h5,h6,rfl⟩
theorem ins_up {G:Nat→Nat} {a b i:Nat} (h:SoB G (a + 1) b) (h1:a + 1≤i) (h2:i≤b) (hl:∀ k,a + 1≤k→k < i→G k < G a) (hg:∀ k,i≤k→k < b→G a < G k):SoB (rotF G a 1 (i - 1 - a)) a b:=by
 intro x y hx hxy hy
 have val:∀ z,a≤z→z < b→(z + 1 < i∧rotF G a 1 (i - 1 - a) z=G (z + 1))∨(z + 1=i∧rotF G a 1 (i - 1 - a) z=G a)∨(i≤z∧rotF G a 1 (i - 1 - a) z=G z):=by
  intro z h3 h4
  unfold rotF
  repeat' split
  ·omega
  ·exact .inl ⟨by omega,rfl⟩
  ·exact .inr (.inl ⟨by omega,by congr 1; omega⟩)
  ·exact .inr (.inr ⟨by omega,rfl⟩)
 rcases val x hx (by omega) with ⟨c1,e1⟩ | ⟨c1,e1⟩ | ⟨c1,e1⟩ <;> rcases val y (by omega) hy with ⟨c2,e2⟩ | ⟨c2,e2⟩ | ⟨c2,e2⟩ <;> rw [e1,e2]
 ·exact h _ _ (by omega) (by omega) (by omega)
 ·exact hl _ (by omega) (by omega)
 ·exact h _ _ (by omega) (by omega) (by omega)
 ·omega
 ·omega
 ·exact hg _ (by omega) (by omega)
 ·omega
 ·omega
 ·exact h _ _ (by omega) (by omega) (by omega)
theorem ins_dn {G:Nat→Nat} {a m i:Nat} (h:SoB G a m) (h1:a≤i) (h2:i≤m) (hl:∀ k,a≤k→k < i→G k < G m) (hg:∀ k,i≤k→k < m→G m < G k):SoB (rotF G i (m - i) 1) a (m + 1):=by
 intro x y hx hxy hy
 have val:∀ z,a≤z→z < m + 1→(z < i∧rotF G i (m - i) 1 z=G z)∨(z=i∧rotF G i (m - i) 1 z=G m)∨(i < z∧rotF G i (m - i) 1 z=G (z - 1)):=by
  intro z h3 h4
  unfold rotF
  repeat' split
  ·exact .inl ⟨by omega,rfl⟩
  ·exact .inr (.inl ⟨by omega,by congr 1; omega⟩)
  ·exact .inr (.inr ⟨by omega,rfl⟩)
  ·omega
 rcases val x hx (by omega) with ⟨c1,e1⟩ | ⟨c1,e1⟩ | ⟨c1,e1⟩ <;> rcases val y (by omega) hy with ⟨c2,e2⟩ | ⟨c2,e2⟩ | ⟨c2,e2⟩ <;> rw [e1,e2]
 ·exact h _ _ (by omega) (by omega) (by omega)
 ·exact hl _ (by omega) (by omega)
 ·exact h _ _ (by omega) (by omega) (by omega)
 ·omega
 ·omega
 ·exact hg _ (by omega) (by omega)
 ·omega
 ·omega
 ·exact h _ _ (by omega) (by omega) (by omega)
theorem rot_parts {G:Nat→Nat} {a m b s e mid:Nat} (h1:SoB G a m) (h2:SoB G m b) (q1:a≤s) (q2:s≤m) (q3:m≤e) (q4:e≤b) (hmid:mid + m=s + e)
  (x1:∀ i j,a≤i→i < s→e≤j→j < b→G i < G j) (x2:∀ i j,m≤i→i < e→s≤j→j < m→G i < G j) :
  SoB (rotF G s (m - s) (e - m)) a s∧SoB (rotF G s (m - s) (e - m)) s mid∧SoB (rotF G s (m - s) (e - m)) mid e∧SoB (rotF G s (m - s) (e - m)) e b ∧
  ∀ i j,a≤i→i < mid→mid≤j→j < b→rotF G s (m - s) (e - m) i < rotF G s (m - s) (e - m) j:=by
 have v1:∀ z,z < s→rotF G s (m - s) (e - m) z=G z:=fun z hz=>by unfold rotF; rw [if_pos hz]
 have v2:∀ z,s≤z→z < mid→rotF G s (m - s) (e - m) z=G (z + (m - s)):=fun z hz hz2=>by unfold rotF; rw [if_neg (by omega),if_pos (by omega)]
 have v3:∀ z,mid≤z→z < e→rotF G s (m - s) (e - m) z=G (z - (e - m)):=fun z hz hz2=>by unfold rotF; rw [if_neg (by omega),if_neg (by omega),if_pos (by omega)]
 have v4:∀ z,e≤z→rotF G s (m - s) (e - m) z=G z:=fun z hz=>by unfold rotF; rw [if_neg (by omega),if_neg (by omega),if_neg (by omega)]
 refine ⟨fun x y c1 c2 c3=>?_,fun x y c1 c2 c3=>?_,fun x y c1 c2 c3=>?_,fun x y c1 c2 c3=>?_,fun x y c1 c2 c3 c4=>?_⟩
 ·rw [v1 x (by omega),v1 y (by omega)]; exact h1 _ _ (by omega) c2 (by omega)
 ·rw [v2 x (by omega) (by omega),v2 y (by omega) (by omega)]; exact h2 _ _ (by omega) (by omega) (by omega)
 ·rw [v3 x (by omega) (by omega),v3 y (by omega) (by omega)]; exact h1 _ _ (by omega) (by omega) (by omega)
 ·rw [v4 x (by omega),v4 y (by omega)]; exact h2 _ _ (by omega) (by omega) (by omega)
 ·by_cases k1:x < s
  ·rw [v1 x k1]
   by_cases k2:y < e
   ·rw [v3 y c3 k2]; exact h1 _ _ c1 (by omega) (by omega)
   ·rw [v4 y (by omega)]; exact x1 _ _ c1 k1 (by omega) c4
  ·rw [v2 x (by omega) c2]
   by_cases k2:y < e
   ·rw [v3 y c3 k2]; exact x2 _ _ (by omega) (by omega) (by omega) (by omega)
   ·rw [v4 y (by omega)]; exact h2 _ _ (by omega) (by omega) c4
theorem join_parts {r F F':Nat→Nat} {a mid b:Nat} (hx:∀ i j,a≤i→i < mid→mid≤j→j < b→r (F i) < r (F j)) (p1:PmB F F' a mid) :
  ∀ i j,a≤i→i < mid→mid≤j→j < b→r (F' i) < r (F' j):=fun i j c1 c2 c3 c4=>by
 obtain ⟨m,m1,m2,e⟩:=p1.src i c1 c2
 rw [e,p1.out j (by omega)]
 exact hx _ _ m1 m2 c3 c4
theorem join_parts2 {r F F':Nat→Nat} {a mid b:Nat} (hx:∀ i j,a≤i→i < mid→mid≤j→j < b→r (F i) < r (F j)) (p1:PmB F F' mid b) :
  ∀ i j,a≤i→i < mid→mid≤j→j < b→r (F' i) < r (F' j):=fun i j c1 c2 c3 c4=>by
 obtain ⟨m,m1,m2,e⟩:=p1.src j c3 c4
 rw [e,p1.out i (by omega)]
 exact hx _ _ c1 c2 m1 m2
theorem SoB.join {G:Nat→Nat} {a mid b:Nat} (h1:SoB G a mid) (h2:SoB G mid b) (hx:∀ i j,a≤i→i < mid→mid≤j→j < b→G i < G j):SoB G a b:=fun i j c1 c2 c3=>by
 by_cases k1:j < mid
 ·exact h1 i j c1 c2 k1
 ·by_cases k2:i < mid
  ·exact hx i j c1 k2 (by omega) c3
  ·exact h2 i j (by omega) c2 c3
theorem SoB.out {r F F':Nat→Nat} {a b c d:Nat} (h:SoB (fun k=>r (F k)) a b) (p:PmB F F' c d) (hd:b≤c∨d≤a):SoB (fun k=>r (F' k)) a b:=fun i j c1 c2 c3=>by
 show r (F' i) < r (F' j)
 rw [p.out i (by omega),p.out j (by omega)]
 exact h i j c1 c2 c3
theorem SoB.one (G:Nat→Nat) (a b:Nat) (h:b≤a + 1):SoB G a b:=fun i j c1 c2 c3=>by omega
structure CutAt (G:Nat→Nat) (lo hi p s:Nat):Prop where
 le1:lo≤s
 le2:s≤hi
 below:∀ c,lo≤c→c < s→G c < G (p - c)
 above:∀ c,s≤c→c < hi→G (p - c) < G c
theorem CutAt.cross {G:Nat→Nat} {a m b mid lo hi s:Nat} (h1:SoB G a m) (h2:SoB G m b) (hmid:2 * mid≤a + b∧a + b≤2 * mid + 1)
  (hlo:lo=if mid < m then mid + m - b else a) (hhi:hi=if mid < m then mid else m) (C:CutAt G lo hi (mid + m - 1) s) :
  a≤s∧s≤m∧m≤mid + m - s∧mid + m - s≤b∧s≤mid∧(∀ i j,a≤i→i < s→mid + m - s≤j→j < b→G i < G j)∧(∀ i j,m≤i→i < mid + m - s→s≤j→j < m→G i < G j):=by
 have c1:=C.le1
 have c2:=C.le2
 have le1:∀ i j,a≤i→i≤j→j < m→G i≤G j:=fun i j x1 x2 x3=>by
  rcases Nat.lt_or_ge i j with h | h
  ·exact Nat.le_of_lt (h1 i j x1 h x3)
  ·rw [show i=j by omega]; exact Nat.le_refl _
 have le2:∀ i j,m≤i→i≤j→j < b→G i≤G j:=fun i j x1 x2 x3=>by
  rcases Nat.lt_or_ge i j with h | h
  ·exact Nat.le_of_lt (h2 i j x1 h x3)
  ·rw [show i=j by omega]; exact Nat.le_refl _
 have hb:a≤s∧s≤m∧m≤mid + m - s∧mid + m - s≤b∧s≤mid:=by
  by_cases hc:mid < m
  ·rw [if_pos hc] at hlo hhi; omega
  ·rw [if_neg hc] at hlo hhi; omega
 refine ⟨hb.1,hb.2.1,hb.2.2.1,hb.2.2.2.1,hb.2.2.2.2,fun i j x1 x2 x3 x4=>?_,fun i j x1 x2 x3 x4=>?_⟩
 ·have hne:lo < s:=by
   by_cases hc:mid < m
   ·rw [if_pos hc] at hlo; omega
   ·rw [if_neg hc] at hlo; omega
  have h3:=C.below (s - 1) (by omega) (by omega)
  rw [show mid + m - 1 - (s - 1)=mid + m - s by omega] at h3
  have h4:=le1 i (s - 1) x1 (by omega) (by omega)
  have h5:=le2 (mid + m - s) j (by omega) x3 x4
  omega
 ·have hne:s < hi:=by
   by_cases hc:mid < m
   ·rw [if_pos hc] at hhi; omega
   ·rw [if_neg hc] at hhi; omega
  have h3:=C.above s nr_ hne
  have h4:=le2 i (mid + m - 1 - s) x1 (by omega) (by omega)
  have h5:=le1 s j (by omega) x3 x4
  omega
theorem cut_up {G:Nat→Nat} {a m b mid lo hi:Nat} (h1:SoB G a m) (h2:SoB G m b) (hm1:a < m) (hm2:m < b) (hmid:2 * mid≤a + b∧a + b≤2 * mid + 1)
  (hlo:lo=if mid < m then mid + m - b else a) (hhi:hi=if mid < m then mid else m) (c:Nat) (_:lo≤c) (q2:c < hi) (hG:G c < G (mid + m - 1 - c)):∀ d,lo≤d→d < c + 1→G d < G (mid + m - 1 - d):=fun d d1 d2=>by
 rcases Nat.lt_or_ge d c with h | h
 ·have e1:G d < G c:=h1 d c (by split at hlo <;> omega) h (by split at hhi <;> omega)
  have e2:G (mid + m - 1 - c) < G (mid + m - 1 - d):=h2 _ _ (by split at hhi <;> omega) (by split at hhi <;> omega) (by split at hlo <;> omega)
  omega
 ·rw [show d=c by omega]; exact hG
theorem cut_dn {G:Nat→Nat} {a m b mid lo hi:Nat} (h1:SoB G a m) (h2:SoB G m b) (hm1:a < m) (hm2:m < b) (hmid:2 * mid≤a + b∧a + b≤2 * mid + 1)
  (hlo:lo=if mid < m then mid + m - b else a) (hhi:hi=if mid < m then mid else m) (c:Nat) (q1:lo≤c) (q2:c < hi) (hG:G (mid + m - 1 - c) < G c):∀ d,c≤d→d < hi→G (mid + m - 1 - d) < G d:=fun d d1 d2=>by
 rcases Nat.lt_or_ge c d with h | h
 ·have e1:G c < G d:=h1 c d (by split at hlo <;> omega) h (by split at hhi <;> omega)
  have e2:G (mid + m - 1 - d) < G (mid + m - 1 - c):=h2 _ _ (by split at hhi <;> omega) (by split at hhi <;> omega) (by split at hlo <;> omega)
  omega
 ·rw [show d=c by omega]; exact hG
structure InsB (G:Nat→Nat) (a i j:Nat):Prop where
 ord:∀ x y,a≤x→x < y→y≤i→x≠j→y≠j→G x < G y
 hi:∀ y,j < y→y≤i→G j < G y
 aj:a≤j
 ji:j≤i
theorem InsB.start {G:Nat→Nat} {a i:Nat} (h:SoB G a i) (ha:a≤i):InsB G a i i :=
 ⟨fun x y h1 h2 h3 _ h5=>h x y h1 h2 (by omega),fun y h1 h2=>by omega,ha,Nat.le_refl _⟩
theorem InsB.stop {G:Nat→Nat} {a i j:Nat} (h:InsB G a i j) (hs:j=a∨G (j - 1) < G j):SoB G a (i + 1):=fun x y h1 h2 h3=>by
 have haj:=h.aj
 have hji:=h.ji
 by_cases hy:y=j
 ·subst hy
  rcases hs with h0 | h0
  ·omega
  ·rcases Nat.lt_or_ge x (y - 1) with h4 | h4
   ·exact Nat.lt_trans (h.ord x (y - 1) h1 h4 (by omega) (by omega) (by omega)) h0
   ·rw [show x=y - 1 by omega]; exact h0
 ·by_cases hx:x=j
  ·subst hx; exact h.hi y h2 (by omega)
  ·exact h.ord x y h1 h2 (by omega) hx hy
theorem InsB.swap {G:Nat→Nat} {a i j:Nat} (h:InsB G a i (j + 1)) (ha:a≤j) (hs:G (j + 1) < G j):InsB (sw2 G (j + 1) j) a i j:=by
 have hji:=h.ji
 have s1:sw2 G (j + 1) j (j + 1)=G j:=by unfold sw2; rw [if_pos rfl]
 have s2:sw2 G (j + 1) j j=G (j + 1):=by unfold sw2; rw [if_neg (by omega),if_pos rfl]
 have s3:∀ k,k≠j→k≠j + 1→sw2 G (j + 1) j k=G k:=fun k h1 h2=>by unfold sw2; rw [if_neg h2,if_neg h1]
 refine ⟨fun x y h1 h2 h3 h4 h5=>?_,fun y h1 h2=>?_,ha,by omega⟩
 ·by_cases hx:x=j + 1
  ·subst hx
   rw [s1,s3 y h5 (by omega)]
   exact h.ord j y ha (by omega) h3 (by omega) (by omega)
  ·rw [s3 x h4 hx]
   by_cases hy:y=j + 1
   ·subst hy
    rw [s1]
    exact h.ord x j h1 (by omega) (by omega) hx (by omega)
   ·rw [s3 y h5 hy]
    exact h.ord x y h1 h2 h3 hx hy
 ·rw [s2]
  by_cases hy:y=j + 1
  ·subst hy; rw [s1]; exact hs
  ·rw [s3 y (by omega) hy]; exact h.hi y (by omega) h2
theorem sw2_comp (r F:Nat→Nat) (x y k:Nat):r (sw2 F x y k)=sw2 (fun z=>r (F z)) x y k:=by
 unfold sw2
 repeat' split
 all_goals rfl
end Go.Proofs.YtkoicfghplmghaaGreatDoor

namespace Go.Proofs.YtkoicfghplmghaaGreatDoor
def Bef (c:Nat→Nat→Int) (u v:Nat):Prop:=c u v < 0∨(c u v=0∧u < v)
structure Pre (c:Nat→Nat→Int) (n:Nat):Prop where
 neg:∀ u v,c v u = - c u v
 tr:∀ u v w,u < n→v < n→w < n→c u v≤0→c v w≤0→c u w≤0
theorem Pre.self {c:Nat→Nat→Int} {n:Nat} (h:Pre c n) (u:Nat):c u u=0:=by have:=h.neg u u; omega
theorem Pre.bef_tr {c:Nat→Nat→Int} {n:Nat} (h:Pre c n) {u v w:Nat} (hu:u < n) (hv:v < n) (hw:w < n) (h1:Bef c u v) (h2:Bef c v w):Bef c u w:=by
 have n1:=h.neg u v
 have n2:=h.neg v w
 have n3:=h.neg u w
 have a1:c u v≤0:=by rcases h1 with h1 | h1 <;> omega
 have a2:c v w≤0:=by rcases h2 with h2 | h2 <;> omega
 have a3:=h.tr u v w hu hv hw a1 a2
 unfold Bef
 rcases Int.lt_or_eq_of_le a3 with h3 | h3
 ·exact .inl h3
 ·have a4:=h.tr v w u hv hw hu a2 (by omega)
  have a5:=h.tr w u v hw hu hv (by omega) a1
  refine .inr ⟨h3,?_⟩
  rcases h1 with h1 | ⟨h1,h1'⟩
  ·omega
  ·rcases h2 with h2 | ⟨h2,h2'⟩
   ·omega
   ·omega
theorem Pre.bef_or {c:Nat→Nat→Int} {n:Nat} (h:Pre c n) {u v:Nat} (hne:u≠v):Bef c u v∨Bef c v u:=by
 have n1:=h.neg u v
 unfold Bef
 omega
theorem Pre.bef_not {c:Nat→Nat→Int} {n:Nat} (h:Pre c n) {u v:Nat} (h1:Bef c u v):¬ Bef c v u:=by
 have n1:=h.neg u v
 unfold Bef at *
 omega
instance (c:Nat→Nat→Int) (u v:Nat):Decidable (Bef c u v):=inferInstanceAs (Decidable (_∨_))
theorem countP_lt {α:Type} {p q : α→Bool}:∀ {l:List α},(∀ x∈l,p x=true→q x=true)→∀ {u : α},u∈l→q u=true→p u=false→l.countP p < l.countP q
 | [],_,u,hu,_,_=>by cases hu
 | x :: l,h,u,hu,h1,h2=>by
  have hl:∀ y∈l,p y=true→q y=true:=fun y hy=>h y (List.mem_cons_of_mem _ hy)
  have hle:l.countP p≤l.countP q:=List.countP_mono_left hl
  rcases List.mem_cons.1 hu with rfl | hu
  ·rw [List.countP_cons_of_neg (by simp [h2]),List.countP_cons_of_pos (by simpa using h1)]
   omega
  ·have ih:=countP_lt hl hu h1 h2
   have hx:=h x List.mem_cons_self
   rw [List.countP_cons,List.countP_cons]
   cases hp:p x
   ·simp; omega
   ·rw [hx hp]; simp; omega
def rkB (c:Nat→Nat→Int) (n u:Nat):Nat:=(List.range n).countP fun v=>decide (Bef c v u)
theorem rkB_lt {c:Nat→Nat→Int} {n:Nat} (h:Pre c n) {u v:Nat} (hu:u < n) (hv:v < n) (hb:Bef c u v):rkB c n u < rkB c n v:=by
 refine countP_lt (u:=u) (fun x hx hp=>?_) (List.mem_range.2 hu) (by simpa using hb) ?_
 ·exact decide_eq_true (h.bef_tr (List.mem_range.1 hx) hu hv (of_decide_eq_true hp) hb)
 ·exact decide_eq_false fun hc=>h.bef_not hc hc
theorem rkB_iff {c:Nat→Nat→Int} {n:Nat} (h:Pre c n) {u v:Nat} (hu:u < n) (hv:v < n):rkB c n u < rkB c n v↔Bef c u v:=by
 refine ⟨fun hr=>?_,rkB_lt h hu hv⟩
 refine Classical.byContradiction fun hc=>?_
 by_cases e:u=v
 ·subst e; omega
 ·rcases h.bef_or e with h1 | h1
  ·exact hc h1
  ·have:=rkB_lt h hv hu h1; omega
theorem rkB_inj {c:Nat→Nat→Int} {n:Nat} (h:Pre c n) {u v:Nat} (hu:u < n) (hv:v < n) (e:rkB c n u=rkB c n v):u=v:=by
 refine Classical.byContradiction fun hc=>?_
 rcases h.bef_or hc with h1 | h1
 ·have:=rkB_lt h hu hv h1; omega
 ·have:=rkB_lt h hv hu h1; omega
theorem rkB_bd {c:Nat→Nat→Int} {n:Nat} (h:Pre c n) {u:Nat} (hu:u < n):rkB c n u < n:=by
 have:rkB c n u < (List.range n).countP fun _=>true:=countP_lt (u:=u) (fun _ _ _=>rfl) (List.mem_range.2 hu) rfl (decide_eq_false fun hc=>h.bef_not hc hc)
 simpa using this
theorem up_id {G:Nat→Nat} {n:Nat} (h:∀ k,k + 1 < n→G k < G (k + 1)) (hb:∀ k,k < n→G k < n):∀ k,k < n→G k=k:=by
 have lo:∀ k,k < n→k≤G k:=fun k=>by
  induction k with
  | zero=>intro _; exact Nat.zero_le _
  | succ k ih=>intro hk; have:=ih (by omega); have:=h k hk; omega
 have hi:∀ d k,k + d + 1=n→G k≤k:=fun d=>by
  induction d with
  | zero=>intro k hk; have:=hb k (by omega); omega
  | succ d ih=>intro k hk; have:=ih (k + 1) (by omega); have:=h k (by omega); omega
 intro k hk
 have:=lo k hk
 have:=hi (n - 1 - k) k (by omega)
 omega
theorem Fin'.rank {c:Nat→Nat→Int} {n:Nat} {F:Nat→Nat} (h:Fin' c n F) (p:Pre c n):∀ k,k < n→rkB c n (F k)=k :=
 up_id (G:=fun k=>rkB c n (F k)) (fun k hk=>rkB_lt p (h.lt k (by omega)) (h.lt _ hk) (by
  obtain ⟨h1,h2⟩:=h.adj k hk
  have:=p.neg (F k) (F (k + 1))
  unfold Bef
  omega)) fun k hk=>rkB_bd p (h.lt k hk)
theorem Fin'.unique {c:Nat→Nat→Int} {n:Nat} {F G:Nat→Nat} (h:Fin' c n F) (g:Fin' c n G) (p:Pre c n) (k:Nat) (hk:k < n):F k=G k :=
 rkB_inj p (h.lt k hk) (g.lt k hk) ((h.rank p k hk).trans (g.rank p k hk).symm)
theorem Fin'.of_rank {c:Nat→Nat→Int} {n:Nat} {F:Nat→Nat} (p:Pre c n) (hs:SoB (fun k=>rkB c n (F k)) 0 n) (hp:PmB (fun k=>k) F 0 n):Fin' c n F:=by
 have hlt:∀ k,k < n→F k < n:=fun k hk=>by
  obtain ⟨m,_,hm,e⟩:=hp.src k (Nat.zero_le _) hk
  rw [e]; exact hm
 refine ⟨hlt,fun k m hk hm e=>?_,fun k hk=>?_⟩
 ·refine Classical.byContradiction fun hne=>?_
  rcases Nat.lt_or_gt_of_ne hne with h1 | h1
  ·have:=hs k m (Nat.zero_le _) h1 hm
   simp only [e] at this; omega
  ·have:=hs m k (Nat.zero_le _) h1 hk
   simp only [e] at this; omega
 ·have h1:=(rkB_iff p (hlt k (by omega)) (hlt _ hk)).1 (hs k (k + 1) (Nat.zero_le _) (by omega) hk)
  have:=p.neg (F k) (F (k + 1))
  unfold Bef at h1
  unfold Ok
  omega
end Go.Proofs.YtkoicfghplmghaaGreatDoor

namespace Go.Proofs.YtkoicfghplmghaaGreatDoor
open Go.RowKit
structure CmpR (c:Nat→Nat→Int) (r:Nat→Nat) (n:Nat):Prop where
 iff:∀ x y,x < n→y < n→x < y→(c y x < 0↔r y < r x)
 inj:∀ x y,x < n→y < n→r x=r y→x=y
 bd:∀ u v,-1≤c u v∧c u v≤1
theorem CmpR.of {c:Nat→Nat→Int} {n:Nat} (p:Pre c n) (hb:∀ u v,-1≤c u v∧c u v≤1):CmpR c (rkB c n) n:=by
 refine ⟨fun x y hx hy hxy=>?_,fun x y hx hy e=>rkB_inj p hx hy e,hb⟩
 rw [rkB_iff p hy hx]
 unfold Bef
 omega
theorem CmpR.no {c:Nat→Nat→Int} {r:Nat→Nat} {n:Nat} (h:CmpR c r n) {x y:Nat} (hx:x < n) (hy:y < n) (hxy:x < y) (hc:¬ c y x < 0):r x < r y:=by
 have h1:=h.iff x y hx hy hxy
 have h2:=h.inj x y hx hy
 omega
theorem RowF.sw2 {W:World} {g n:Nat} {F:Nat→Nat} (h:RowF W g n F) (x y:Nat) (hx:x < n) (hy:y < n) (hxy:x≠y) :
  RowF ((W.setCell ⟨g,x,none⟩ (.int .i64 (F y:Nat))).setCell ⟨g,y,none⟩ (.int .i64 (F x:Nat))) g n (sw2 F x y):=by
 have h0:=h.cell x hx
 have h1:=h.cell y hy
 have ne:∀ a b:Nat,a≠b→(⟨g,a,none⟩:Addr)≠⟨g,b,none⟩:=fun a b hab e=>by cases e; exact hab rfl
 refine ⟨by simpa using h.lt,fun k hk=>?_,fun k=>?_⟩
 ·unfold Go.Proofs.YtkoicfghplmghaaGreatDoor.sw2
  by_cases k2:k=x
  ·subst k2
   rw [if_pos rfl,World.cell?_setCell_other _ _ _ _ (ne _ _ (fun e=>hxy e.symm))]
   exact World.cell?_setCell_same _ _ _ h0
  ·rw [if_neg k2]
   by_cases k1:k=y
   ·subst k1
    rw [if_pos rfl]
    exact World.cell?_setCell_same _ _ _ (u := .int .i64 (F k:Nat)) (by rw [World.cell?_setCell_other _ _ _ _ (ne _ _ (by omega))]; exact h1)
   ·rw [if_neg k1,World.cell?_setCell_other _ _ _ _ (ne _ _ (fun e=>k1 e.symm)),World.cell?_setCell_other _ _ _ _ (ne _ _ (fun e=>k2 e.symm))]
    exact h.cell k hk
 ·have:=h.fr k
  simpa using this
structure InsC (r:Nat→Nat) (F0 F:Nat→Nat) (a i j:Nat):Prop where
 I:InsB (fun k=>r (F k)) a i j
 x:F j=i
 lo:∀ k,a≤k→k≤i→k≠j→F k < i
 p:PmB F0 F a (i + 1)
theorem InsC.start {r F0 F:Nat→Nat} {a b i:Nat} (hid:∀ k,a≤k→k < b→F0 k=k) (h:SoB (fun k=>r (F k)) a i) (p:PmB F0 F a i) (ha:a≤i) (hi:i < b):InsC r F0 F a i i:=by
 refine ⟨InsB.start h ha,?_,fun k h1 h2 h3=>?_,p.wide nr_ (by omega)⟩
 ·rw [p.out i (by omega)]; exact hid i ha hi
 ·obtain ⟨m,m1,m2,e⟩:=p.src k h1 (by omega)
  rw [e,hid m m1 (by omega)]; exact m2
theorem InsC.swap {r F0 F:Nat→Nat} {a i j:Nat} (h:InsC r F0 F a i (j + 1)) (ha:a≤j) (hs:r (F (j + 1)) < r (F j)):InsC r F0 (sw2 F (j + 1) j) a i j:=by
 have hji:=h.I.ji
 refine ⟨?_,?_,fun k h1 h2 h3=>?_,h.p.trans (sw2_pm F (by omega) (by omega) ha (by omega))⟩
 ·have:=h.I.swap ha hs
  have e:(fun k=>r (sw2 F (j + 1) j k))=sw2 (fun k=>r (F k)) (j + 1) j:=by funext k; exact sw2_comp r F (j + 1) j k
  rw [e]; exact this
 ·unfold sw2
  rw [if_neg (by omega),if_pos rfl]; exact h.x
 ·unfold sw2
  by_cases k1:k=j + 1
  ·rw [if_pos k1]; exact h.lo j ha (by omega) (by omega)
  ·rw [if_neg k1,if_neg h3]; exact h.lo k h1 h2 k1
theorem insertion_gen (w:World) (B g n cap a b:Nat) (f:FuncId) (lb:Array Value) (eg:∀ args w,(callFunc f args).run Tryz.prog w = .ok (.enter f args) w) (c:Nat→Nat→Int) (r:Nat→Nat) (hc:CmpR c r n) (hB:B≤g) (hn:n≤1000) (hab:a≤b) (hbn:b≤n) (F0:Nat→Nat) (hid:∀ k,a≤k→k < b→F0 k=k) (hrow:RowF w g n F0)
  (hcmp:∀ W,Below B w W→∀ i j:Nat,i < n→j < n→Gives Tryz.prog f (#[.int .i64 i,.int .i64 j] ++ lb) W (.int .i64 (c i j))) :
  Calls Tryz.prog 182 #[.slice (some ⟨g,0,none⟩) n cap,.int .i64 a,.int .i64 b,.func (.func f) #[] lb] w fun e w'=>e = .returned (.tuple #[])∧∃ F,SoB (fun k=>r (F k)) a b∧PmB F0 F a b∧RowF w' g n F∧Below B w w':=by
 have Hc:=hd_ hc
 have Hcmp:=hd_ hcmp
 have Hrow:=hd_ hrow
 have Hid0:=hd_ hid
 clear hc hcmp hrow hid
 go_enter Tryz.func182,Tryz.ntmps182
 go_wp2_with fail
 go_loopw [8] (fun z wr=>∃ (i:Nat) (F:Nat→Nat),a + 1≤i∧z = .int .i64 i∧Hid (SoB (fun k=>r (F k)) a (if i≤b then i else b))∧Hid (PmB F0 F a (if i≤b then i else b))∧Hid (RowF wr g n F)∧Hid (Below B w wr)) (fun z _=>b - (intOf z).toNat)
 case atStart=>exact ⟨a + 1,F0,Nat.le_refl _,by go_num,SoB.one _ _ _ (by split <;> omega),PmB.refl _ _ _,Hrow.out,Below.refl _ _⟩
 case round =>
  obtain ⟨i,F,hi1,rfl,HS,HP,HR,HB⟩:=hrel
  clear Hrow
  by_cases hlt:i < b
  ·have hlt':(i:Int) < b:=by omega
   rw [if_pos (by omega)] at HS HP
   go_wp2_with fail
   go_loopw [9] (fun z wr=>∃ (j:Nat) (F:Nat→Nat),z = .int .i64 j∧Hid (InsC r F0 F a i j)∧Hid (RowF wr g n F)∧Hid (Below B w wr)) (fun z _=>(intOf z).toNat)
   case atStart=>exact ⟨i,F,rfl,InsC.start Hid0.out HS.out HP.out (by omega) hlt,HR.out,HB.out⟩
   case round =>
    clear HS HP HR HB
    obtain ⟨j,F,rfl,HI,HR,HB⟩:=hrel
    have hji:=HI.out.I.ji
    have haj:=HI.out.I.aj
    rcases Nat.lt_or_ge a j with h0 | h0
    ·obtain ⟨p,rfl⟩:∃ p,j=p + 1:=⟨j - 1,by omega⟩
     have hBs:B≤wr.heap.size:=Nat.le_trans hB (Nat.le_of_lt HR.out.lt)
     have Hxj:=hd_ HI.out.x
     have hxl:=HI.out.lo p (by omega) (by omega) (by omega)
     have hFi:F (p + 1) < n:=by have:=Hxj.out; omega
     have k1:=HR.out.cell (p + 1) (by omega)
     have k0:=HR.out.cell p (by omega)
     have Hcall:=hd_ fun W hW=>Hcmp.out W hW (F (p + 1)) (F p) (by omega) (by omega)
     have hcb:=Hc.out.bd (F (p + 1)) (F p)
     have q1:=BW.cell k1
     have q0:=BW.cell k0
     have hnon:Nonempty (BW wr):=⟨⟨wr,Below.refl _ _⟩⟩
     have I:Hid (Below wr.heap.size wr wr.drew):=(Below.refl _ _).drew
     have hpi:(p:Int) + 1 < n:=by omega
     have hpi0:(p:Int) < n:=by omega
     have hap:(a:Int) < ((p + 1:Nat):Int):=by omega
     have hap':(a:Int) < (p:Int) + 1:=by omega
     go_wp2_with fail
     clear k0 k1
     refine RY.wp_region_readers 14 [(1,0),(1,1),(1,2),(1,3),(1,4),(1,5),(1,6),(1,7),(1,8),(1,9),(1,10),(1,11),(1,12),(1,13),(0,14),(2,15),(0,16)] (fun w'=>∃ p:BW wr,w'=p.w) (by kernel_rfl) (by kernel_rfl) ?_ ?_
     ·exact ⟨⟨_,I.out⟩,rfl⟩
     iterate 14 (refine RY.walkR_read ?_; simp only [dsc_,dz_,tsc_,tz_]; go_big_quiet_step (fail); refine wpQuiet_nil ?_)
     clear hnon q0 q1
     refine RY.walkR_move ?_
     simp only [dsc_,dz_,tsc_,tz_]
     go_wp2_with fail
     refine cm_ (Hcall.out _ (HB.out.trans (I.out.mono hBs))) ?_
     rintro e_ w2 ⟨rfl,hb_⟩
     have D:Hid (Below wr.heap.size wr w2):=I.out.trans (hb_.mono I.out.size)
     have HR2:=hd_ (HR.out.below D.out nr_)
     have HB2:=hd_ (HB.out.trans (D.out.mono hBs))
     clear hb_ I D Hcall HR HB
     have hxj:=Hxj.out
     by_cases hneg:c (F (p + 1)) (F p) < 0
     ·have HI2:=hd_ (HI.out.swap (by omega) ((Hc.out.iff (F p) (F (p + 1)) (by omega) (by omega) (by omega)).1 hneg))
      have HR3:=hd_ (HR2.out.sw2 (p + 1) p (by omega) (by omega) (by omega))
      have HB3:=hd_ ((HB2.out.setCell (p:=⟨g,p + 1,none⟩) hB (.int .i64 (F p:Nat))).setCell (p:=⟨g,p,none⟩) hB (.int .i64 (F (p + 1):Nat)))
      have k1:=HR2.out.cell (p + 1) (by omega)
      have k0:=HR2.out.cell p (by omega)
      have f1:=HR2.out.fr (p + 1)
      have f0:=HR2.out.fr p
      clear hxj hxl
      generalize F (p + 1)=x at *
      generalize F p=y at *
      generalize c x y=z at *
      go_wp2_with fail
      refine RY.walkR_any ?_
      simp only [dsc_,dz_,tsc_,tz_]
      go_big_quiet_step (fail)
      refine wpQuiet_nil ?_
      refine RY.walkR_move ?_
      simp only [dsc_,dz_,tsc_,tz_]
      go_wp2_with fail
      simp only [RY.walkR]
      go_wp2_with fail
      go_region
      go_wp2
      go_roundw
      case rel=>exact ⟨p,_,rfl,HI2.out,HR3.out.below (Below.refl _ _).drew nr_,HB3.out.drew⟩
      case measure=>simp [intOf]
     ·have HS2:=hd_ (HI.out.I.stop (.inr (by rw [Nat.add_sub_cancel]; exact Hc.out.no (x:=F p) (y:=F (p + 1)) (by omega) (by omega) (by omega) hneg)))
      have HP2:=hd_ HI.out.p
      clear hxj hxl
      generalize F (p + 1)=x at *
      generalize F p=y at *
      generalize c x y=z at *
      go_wp2_with fail
      refine RY.walkR_any ?_
      simp only [dsc_,dz_,tsc_,tz_]
      go_big_quiet_step (fail)
      refine wpQuiet_nil ?_
      refine RY.walkR_move ?_
      simp only [dsc_,dz_,tsc_,tz_]
      go_wp2_with fail
      simp only [RY.walkR]
      go_wp2
      go_roundw
      case rel=>exact ⟨i + 1,F,by omega,by go_num,by rw [if_pos (by omega)]; exact HS2.out,by rw [if_pos (by omega)]; exact HP2.out,HR2.out,HB2.out⟩
      case measure=>simp [intOf]; omega
    ·obtain rfl:j=a:=by omega
     have HS2:=hd_ (HI.out.I.stop (.inl rfl))
     have HP2:=hd_ HI.out.p
     go_wp2_with fail
     go_quiet (fail)
     go_wp2
     go_roundw
     case rel=>exact ⟨i + 1,F,by omega,by go_num,by rw [if_pos (by omega)]; exact HS2.out,by rw [if_pos (by omega)]; exact HP2.out,HR.out.below (below_dn (Below.refl wr.heap.size wr) _) nr_,below_dn HB.out _⟩
     case measure=>simp [intOf]; omega
  ·have hlt':¬ (i:Int) < b:=by omega
   have e:(if i≤b then i else b)=b:=by split <;> omega
   rw [e] at HS HP
   go_wp2
   go_end0
   exact ⟨rfl,F,HS.out,HP.out,HR.out,HB.out⟩
end Go.Proofs.YtkoicfghplmghaaGreatDoor

namespace Go.Proofs.YtkoicfghplmghaaGreatDoor
open Go.RowKit
theorem swapRange_gen (w:World) (B g n cap a b k:Nat) (v:Value) (hB:B≤g) (hn:n≤1000) (hab:a + k≤b) (hbn:b + k≤n) (F:Nat→Nat) (hrow:RowF w g n F) (_hw:B≤w.heap.size) :
  Calls Tryz.prog 237 #[.slice (some ⟨g,0,none⟩) n cap,.int .i64 a,.int .i64 b,.int .i64 k,v] w fun e w'=>e = .returned (.tuple #[])∧RowF w' g n (swR F a b k)∧Below B w w':=by
 have Hrow:=hd_ hrow
 clear hrow
 go_enter Tryz.func237,Tryz.ntmps237
 go_wp2_with fail
 go_loopw [10] (fun z wr=>∃ t:Nat,t≤k∧z = .int .i64 t∧Hid (RowF wr g n (swR F a b t))∧Hid (Below B w wr)) (fun z _=>k - (intOf z).toNat)
 case atStart=>exact ⟨0,Nat.zero_le _,rfl,by rw [swR_zero]; exact Hrow.out,Below.refl _ _⟩
 case round =>
  clear Hrow
  obtain ⟨t,ht,rfl,HR,HB⟩:=hrel
  by_cases hlt:t < k
  ·have hlt':(t:Int) < k:=by omega
   have k1:=HR.out.cell (a + t) (by omega)
   have k0:=HR.out.cell (b + t) (by omega)
   have f1:=HR.out.fr (a + t)
   have f0:=HR.out.fr (b + t)
   have HR3:=hd_ (HR.out.sw2 (a + t) (b + t) (by omega) (by omega) (by omega))
   rw [swR_succ hab hlt] at HR3
   have HB3:=hd_ ((HB.out.setCell (p:=⟨g,a + t,none⟩) hB (.int .i64 (swR F a b t (b + t):Nat))).setCell (p:=⟨g,b + t,none⟩) hB (.int .i64 (swR F a b t (a + t):Nat)))
   have e1:IntKind.i64.wrap ((a:Int) + t)=((a + t:Nat):Int):=by rw [← Int.natCast_add]; exact iw_ _ (by omega)
   have e2:IntKind.i64.wrap ((b:Int) + t)=((b + t:Nat):Int):=by rw [← Int.natCast_add]; exact iw_ _ (by omega)
   have l1:((a + t:Nat):Int) < n:=by omega
   have l2:((b + t:Nat):Int) < n:=by omega
   generalize swR F a b t (b + t)=x at *
   generalize swR F a b t (a + t)=y at *
   have Hne12:Hid (a + t≠b + t):=by show _≠_; omega
   generalize a + t=s1 at *
   generalize b + t=s2 at *
   have K1:=hd_ k1
   have K0:=hd_ k0
   have q1:=BW.cell k1
   have q0:=BW.cell k0
   have hnon:Nonempty (BW wr):=⟨⟨wr,Below.refl _ _⟩⟩
   have I:Hid (Below wr.heap.size wr wr.drew):=(Below.refl _ _).drew
   go_wp2_with fail
   clear k0 k1
   refine RY.wp_region_readers 21 [(2,0),(2,1),(2,2),(2,3),(2,4),(2,5),(2,6),(2,7),(2,8),(2,9),(2,10),(2,11),(2,12),(1,13),(2,14),(2,15),(2,16),(2,17),(2,18),(1,19),(2,20),(0,21),(2,22),(0,23)] (fun w'=>∃ p:BW wr,w'=p.w) (by kernel_rfl) (by kernel_rfl) ?_ ?_
   ·exact ⟨⟨_,I.out⟩,rfl⟩
   iterate 21 ((first | refine RY.walkR_any ?_ | refine RY.walkR_read ?_); simp only [dsc_,dz_,tsc_,tz_]; go_big_quiet_step (fail); refine wpQuiet_nil ?_)
   clear hnon q0 q1
   have k1:=K1.out
   have k0:=K0.out
   have k2:(wr.setCell ⟨g,s1,none⟩ (.int .i64 x)).cell? ⟨g,s2,none⟩=some (.int .i64 x):=by rw [World.cell?_setCell_other _ _ _ _ (fun e=>Hne12.out (congrArg Addr.off e))]; exact K0.out
   refine RY.walkR_move ?_
   simp only [dsc_,dz_,tsc_,tz_]
   go_wp2_with fail
   refine RY.walkR_any ?_
   simp only [dsc_,dz_,tsc_,tz_]
   go_big_quiet_step (fail)
   refine wpQuiet_nil ?_
   refine RY.walkR_move ?_
   simp only [dsc_,dz_,tsc_,tz_]
   go_wp2_with fail
   simp only [RY.walkR]
   go_wp2
   go_roundw
   case rel=>exact ⟨t + 1,by omega,by go_num,HR3.out.below (Below.refl _ _).drew nr_,HB3.out.drew⟩
   case measure=>simp [intOf]; omega
  ·have hlt':¬ (t:Int) < k:=by omega
   obtain rfl:t=k:=by omega
   go_wp2
   go_end0
   exact ⟨rfl,HR.out,HB.out⟩
end Go.Proofs.YtkoicfghplmghaaGreatDoor
