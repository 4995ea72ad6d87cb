/- Lemmas for the laws of this seat, part 3. -/
import Derived.Laws.AppendOwnNone
import Derived.Deep.LoopGhost
import Derived.Deep.CutRange
import Derived.Maps.AppendAt
import Derived.BigQuiet
import Derived.Deep.OwnRows
import Derived.Test.YtepicfdhphiiaaaGreatDoorRows
import Derived.Stop.LaidErr
import Derived.Lib.LaidTab
import Derived.ProofKit
import Derived.LaidMore
import Derived.OpenShut
import Derived.Stop.Joined
import Derived.MakeChecks
import Derived.Lib.SmallJoins
import Derived.Great.BuildSlice
import Derived.RangeFuncNested
import Derived.RangeFuncBound
import Derived.RangeFuncCalls
import Derived.RangeFuncLeaves
import Derived.RangeFuncOwn
import Derived.Shelf.Abstract
import Derived.Shelf.RegionOpen
import Derived.OwnWalkIn
import Derived.TacticsInMore
import Derived.LoopNIn
import Derived.LoopIn
import Derived.Lib.Walk
import Derived.Lib.SliceRun
import Derived.Sort.LoopGhostIn
import Derived.Test.YtepicfdhphiiaaaGreatDoorUa2
set_option maxRecDepth 100000
set_option maxHeartbeats 16000000
namespace Go.Proofs.YtepicfdhphiiaaaGreatDoor
open Go.RowKit
def RdI (w:World) (a:Option Addr) (ls:List (List Int)):Prop :=
 ls=[]∨∃ b off,a=some ⟨b,off,none⟩∧b<w.heap.size∧∀ i,i<ls.length→∃ a' c',w.cell? ⟨b,off+i,none⟩=some (.slice a' (ls.getD i []).length c')∧Rd w a' (ints (ls.getD i []))
theorem RdI.below{w w':World}{a:Option Addr}{ls:List (List Int)}{B:Nat}(h:RdI w a ls)(hb:Below B w w')(hB:w.heap.size≤B):RdI w' a ls:=by
 rcases h with h|⟨b,off,h1,h2,h3⟩
 ·exact .inl h
 ·refine .inr ⟨b,off,h1,Nat.lt_of_lt_of_le h2 hb.size,fun i hi=>?_⟩;obtain⟨a',c',h4,h5⟩:=h3 i hi;exact⟨a',c',by rw[hb.cell (p:=⟨b,off+i,none⟩) (by show b<B;omega)];exact h4,h5.below hb hB⟩
def mx:List Int→Int
 | []=>0
 | x::l=>if 1000<x∨x < -1000 then 4 else mx l
def mrow (n:Nat) (r:List Int):Int:=if r.length=n then mx r else 5
def mgo (n:Nat):List (List Int)→Int
 | []=>0
 | r::rs=>if mrow n r=0 then mgo n rs else mrow n r
def mcode (ps:List Int) (rs:List (List Int)):Int:=if pcode ps=0 then mgo ps.length rs else pcode ps
theorem monCheckAll_any(w:World)(a1 a2:Option Addr)(c1 c2:Nat)(ps:List Int)(ls:List (List Int))(hp:Rd w a1 (ints ps))(hi:I64s ps)(hl1:ps.length≤1000000)
  (hr:RdI w a2 ls) (hl:ls.length≤1000000) (hl2:∀ l∈ls,l.length≤1000000) :
  Gives Tryz.prog 97 #[.slice a1 ps.length c1,.slice a2 ls.length c2] w (.int .i64 (mcode ps ls)):=by
 unfold Gives;have H1:=hd_ (primeCheck_any w a1 c1 ps hp hi hl1);have Hv:Hid (mcode ps ls=if pcode ps=0 then mgo ps.length ls else pcode ps):=rfl;have Hr:=hd_ hr;have Hl2:=hd_ hl2;clear hp hi hl2 hr;generalize mcode ps ls=v at *;generalize pcode ps=p at *;generalize ps.length=n at *
 by_cases h0:p=0
 ·subst h0;have Hvv:Hid (v=mgo n ls):=by show _=_;rw[Hv.out,if_pos rfl]
  clear Hv;generalize hm:ls.length=m at *;have Hm:=hd_ hm;clear hm;go_enter Tryz.func97,Tryz.ntmps97;go_wp2_with fail;refine cm_ H1.out ?_;rintro e w1 ⟨rfl,hb1⟩;have Hb1:=hd_ hb1;clear hb1 H1;go_wp2_with fail
  go_loopw [17] (fun i wr=>∃ k:Nat,k≤m∧i = .int .i64 k∧Hid (mgo n ls=mgo n (ls.drop k))∧Hid (Below w.heap.size w wr)) (fun i _=>m-(intOf i).toNat)
  case atStart=>exact⟨0,Nat.zero_le _,rfl,rfl,Hb1⟩
  case round =>
   clear Hb1;obtain⟨k,hk,rfl,Hg,Hb⟩:=hrel
   by_cases hlt:k<m
   ·have hlt':(k:Int)<m:=by omega
    have hkl:k<ls.length:=by rw[Hm.out];exact hlt
    rcases Hr.out with hnil|⟨b,off,rfl,hb,hcells⟩
    ·rw[hnil] at hkl;exact absurd hkl (Nat.not_lt_zero _)
    obtain⟨a',c',cx,hrd⟩:=hcells k hkl;have hgl:ls.getD k []=ls[k]:=by rw[List.getD_eq_getElem?_getD,List.getElem?_eq_getElem hkl];rfl
    rw[← Hb.out.cell (p:=⟨b,off+k,none⟩) hb,hgl] at cx;rw[hgl] at hrd;have Hd:Hid (ls.drop k=ls[k]::ls.drop (k+1)):=List.drop_eq_getElem_cons hkl;have hlm:=Hl2.out _ (List.getElem_mem hkl);have Hrd:=hd_ hrd;clear hgl hcells hrd;generalize ls[k]=l at *;generalize hq:l.length=q at *;have Hq:=hd_ hq;clear hq
    by_cases hs:q=n
    ·have Hmr:Hid (mrow n l=mx l):=by show _=_;unfold mrow;rw[if_pos (Hq.out.trans hs)]
     subst hs;go_wp2_with fail;obtain⟨wo,hwo⟩:∃ wo:World,wo=wr:=⟨_,rfl⟩;subst hwo
     go_loopw [28] (fun i wr=>∃ j:Nat,j≤q∧i = .int .i64 j∧Hid (mx l=mx (l.drop j))∧Hid (Below w.heap.size w wr)) (fun i _=>q-(intOf i).toNat)
     case atStart=>exact⟨0,Nat.zero_le _,rfl,rfl,Hb⟩
     case round =>
      clear Hb cx;obtain⟨j,hj,rfl,Hx,Hb⟩:=hrel
      by_cases hjt:j<q
      ·have hjt':(j:Int)<q:=by omega
       have hjl:j<l.length:=by rw[Hq.out];exact hjt
       obtain⟨b2,o2,rfl,hb2,hc2⟩:=Hrd.out.open (by rw[ints_length];omega);have cy:=hc2 j _ (ints_get l j hjl);rw[← Hb.out.cell (p:=⟨b2,o2+j,none⟩) hb2] at cy;have Hdj:Hid (l.drop j=l[j]::l.drop (j+1)):=List.drop_eq_getElem_cons hjl;clear hc2;generalize l[j]=x at *
       by_cases h3:1000<x
       ·have Hxx:Hid (mx l=4):=by show _=_;rw[Hx.out,Hdj.out,mx,if_pos (.inl h3)]
        have Hgg:Hid (mgo q ls=4):=by show _=_;rw[Hg.out,Hd.out,mgo,Hmr.out,Hxx.out];rfl
        go_wp2;go_ret;exact⟨by rw[Hvv.out,Hgg.out];rfl,Hb.out⟩
       ·by_cases h4:x < -1000
        ·have Hxx:Hid (mx l=4):=by show _=_;rw[Hx.out,Hdj.out,mx,if_pos (.inr h4)]
         have Hgg:Hid (mgo q ls=4):=by show _=_;rw[Hg.out,Hd.out,mgo,Hmr.out,Hxx.out];rfl
         go_wp2;go_ret;exact⟨by rw[Hvv.out,Hgg.out];rfl,Hb.out⟩
        ·have Hxx:Hid (mx l=mx (l.drop (j+1))):=by show _=_;rw[Hx.out,Hdj.out,mx,if_neg (by omega)]
         go_wp2
         go_roundw
         case rel=>exact⟨j+1,by omega,by go_num,Hxx,Hb⟩
         case measure=>simp[intOf];omega
      ·have hjt':¬ (j:Int)<q:=by omega
       have Hxx:Hid (mx l=0):=by
        show _=_
        rw[Hx.out,List.drop_of_length_le (by rw[Hq.out];omega)];rfl
       have Hgg:Hid (mgo q ls=mgo q (ls.drop (k+1))):=by show _=_;rw[Hg.out,Hd.out,mgo,Hmr.out,Hxx.out];rfl
       go_wp2
       go_roundw
       case rel=>exact⟨k+1,by omega,by go_num,Hgg,Hb⟩
       case measure=>simp[intOf];omega
    ·have Hmr:Hid (mrow n l=5):=by show _=_;unfold mrow;rw[if_neg (fun h=>hs (Hq.out.symm.trans h))]
     have Hgg:Hid (mgo n ls=5):=by show _=_;rw[Hg.out,Hd.out,mgo,Hmr.out];rfl
     have hs':((q:Int)==n)=false:=by rw[beq_eq_false_iff_ne];omega
     go_wp2;go_ret;exact⟨by rw[Hvv.out,Hgg.out];rfl,Hb.out⟩
   ·have hlt':¬ (k:Int)<m:=by omega
    have Hgg:Hid (mgo n ls=0):=by
     show _=_
     rw[Hg.out,List.drop_of_length_le (by rw[Hm.out];omega)];rfl
    go_wp2;go_ret;exact⟨by rw[Hvv.out,Hgg.out];rfl,Hb.out⟩
 ·have Hvv:Hid (v=p):=by show _=_;rw[Hv.out,if_neg h0]
  have hp0:(p==0)=false:=by rw[beq_eq_false_iff_ne];exact h0
  clear Hv h0;generalize ls.length=m at *;go_enter Tryz.func97,Tryz.ntmps97;go_wp2_with fail;refine cm_ H1.out ?_;rintro e w1 ⟨rfl,hb1⟩;have Hb1:=hd_ hb1;clear hb1 H1;go_wp2;go_ret;exact⟨by rw[Hvv.out];rfl,Hb1.out⟩
def mcode1 (ps:List Int) (r:List Int):Int:=mcode ps [r]
theorem rdi_one{w:World}{g:Nat}{a1:Option Addr}{c1:Nat}{r:List Int}{t:TypeId}(h:w.heap[g]?=some (.cells #[.slice a1 r.length c1] t (0,0)))(h1:Rd w a1 (ints r)):RdI w (some ⟨g,0,none⟩) [r]:=by
 refine .inr ⟨g,0,rfl,(Array.getElem?_eq_some_iff.1 h).1,fun i hi=>?_⟩;have e:i=0:=by simp at hi;exact hi
 subst e;exact⟨a1,c1,by rw[cell_of_row w g 0 _ t (0,0) h];rfl,h1⟩
theorem monCheck_any(w:World)(a1 a2:Option Addr)(c1 c2:Nat)(ps r:List Int)(hp:Rd w a1 (ints ps))(hi:I64s ps)(hl1:ps.length≤1000000)(hr:Rd w a2 (ints r))(hl:r.length≤1000000):
  Gives Tryz.prog 92 #[.slice a1 ps.length c1,.slice a2 r.length c2] w (.int .i64 (mcode1 ps r)):=by
 unfold Gives;have Hc:Hid (∀ W g,Below w.heap.size w W→W.heap[g]?=some (.cells #[.slice a2 r.length c2] 54 (0,0))→Gives Tryz.prog 97 #[.slice a1 ps.length c1,.slice (some ⟨g,0,none⟩) 1 1] W (.int .i64 (mcode1 ps r))):=fun W g hW hg =>
  monCheckAll_any W a1 _ c1 1 ps [r] (hp.below hW nr_) hi hl1 (rdi_one hg (hr.below hW nr_)) (by simp) (by intro l hl';simp only[List.mem_cons,List.not_mem_nil,or_false] at hl';subst hl';exact hl)
 clear hp hi hr;generalize mcode1 ps r=v at *;generalize ps.length=n at *;generalize r.length=m at *;have B0:=hd_ ((Below.refl w.heap.size w).alloc nr_ (.cells #[.slice a2 m c2] 54));go_enter Tryz.func92,Tryz.ntmps92;go_wp2_with fail;refine cm_ (Hc.out _ _ B0.out (Go.heap_alloc_new _ _)) ?_;rintro e w1 ⟨rfl,hb1⟩;have Hb1:=bt_ B0 hb1;clear hb1 Hc;go_wp2;go_ret;exact⟨rfl,Hb1.out⟩
def GivesErr (f:FuncId) (args:Array Value) (w:World) (code:Int):Prop:=Gives Tryz.prog f args w (.tuple #[.slice none 0 0,.int .i64 code])
theorem OwnQ.lower{w:World}{B B' c:Nat}{a:Option Addr}{l:List Rat}(h:OwnQ w B a c l)(hb:B'≤B):OwnQ w B' a c l:=by
 exact⟨h.1,h.2.imp id fun ⟨g,cap,cur,h1,h2,h3⟩=>⟨g,cap,cur,h1,Nat.le_trans hb h2,h3⟩⟩
theorem pcode_pos{ps:List Int}(h:pcode ps=0):0<ps.length∧ps.length≤6:=by
 unfold pcode at h;split at h
 ·cases h
 ·split at h
  ·cases h
  ·omega
def shortAll (l:List Rat):Bool:=l.all fun q=>decide (shortQ q)
def GivesSum (f:FuncId) (args:Array Value) (w:World) (l:List Rat):Prop:=if shortAll l=true then
  Calls Tryz.prog f args w fun e w'=>∃ a c,e = .returned (.tuple #[.slice a l.length c,.int .i64 0])∧Rd w' a (cellsQ l)∧Below w.heap.size w w'
 else GivesErr f args w 4
theorem digits_any(w:World)(s:ByteArray):Gives Tryz.prog 160 #[.string s] w (.int .i64 s.size):=by
 unfold Gives;go_enter Tryz.func160,Tryz.ntmps160;go_wp2_with fail;go_ret;exact⟨rfl,Below.refl _ _⟩
end Go.Proofs.YtepicfdhphiiaaaGreatDoor

namespace Go.Proofs.YtepicfdhphiiaaaGreatDoor
open Go.RowKit Go.Proofs.YtepicfdhphiiaaaGreatDoor.RW
def combineQ (la lb:List Rat) (k m:Rat):List Rat:=List.zipWith (fun x y=>x*k+y*m) la lb
end Go.Proofs.YtepicfdhphiiaaaGreatDoor

namespace Go.Proofs.YtepicfdhphiiaaaGreatDoor
open Go.RowKit
def smallP:List Int:=[2,3,5,7,11,13]
theorem lg_lgN{p n L:Nat}(hp:p∈oddP)(hn:n≤1056)(h:LN.lg p p.log2 n 1120=some L):lgN p n=L:=by
 rw[lg_digs] at h;obtain⟨s,hs,e⟩:=Option.map_eq_some_iff.1 h;rw[← digs_lgN hp hn (by decide) hs,e]
theorem lg_cert:([3,5,7,11,13]:List Nat).map (fun p=>LN.lg p p.log2 1024 1120)=LN.certL.tail.map fun x=>some x.toNat:=by decide +kernel
theorem certL_head:LN.certL.head?=some (2^1024):=by decide +kernel
theorem certL_pos:∀ x∈LN.certL,(0:Int)≤x:=by decide +kernel
theorem lf_two(n:Nat):((lf n 2:Nat):Int)=2^n:=by
 show ((lgN 2 n:Nat):Int)=_
 rw[lgN_two,Int.natCast_pow];rfl
theorem mul_pow_le{a k m:Nat}(ha:a≤100)(h:7+k≤m):a*2^k≤2^m:=by
 have:a*2^k≤2^7*2^k:=Nat.mul_le_mul_right _ (by omega)
 rw[← Nat.pow_add] at this;exact Nat.le_trans this (Nat.pow_le_pow_right (by decide) h)
theorem certL_eq:smallP.map (fun p=>((lf 1024 p:Nat):Int))=LN.certL:=by
 have h:=lg_cert;have h0:=certL_head;have hp:=certL_pos;obtain⟨c0,c1,c2,c3,c4,c5,e⟩:∃ c0 c1 c2 c3 c4 c5,LN.certL=[c0,c1,c2,c3,c4,c5]:=⟨_,_,_,_,_,_,rfl⟩;rw[e] at h h0 hp ⊢;have key:∀ (p:Nat) (c:Int),p∈oddP→0≤c→LN.lg p p.log2 1024 1120=some c.toNat→((lf 1024 (p:Int):Nat):Int)=c:=fun p c hp h0 h=>by
  have:=lg_lgN hp (by decide) h
  show ((lgN p 1024:Nat):Int)=c
  rw[this];omega
 simp only[List.map_cons,List.map_nil,List.tail_cons,List.cons.injEq,and_true] at h;obtain⟨h1,h2,h3,h4,h5⟩:=h;simp only[List.head?_cons,Option.some.injEq] at h0;have p1:=hp c1 (by simp);have p2:=hp c2 (by simp);have p3:=hp c3 (by simp);have p4:=hp c4 (by simp);have p5:=hp c5 (by simp);have k1:=key 3 c1 (by decide) p1 h1;have k2:=key 5 c2 (by decide) p2 h2;have k3:=key 7 c3 (by decide) p3 h3;have k4:=key 11 c4 (by decide) p4 h4;have k5:=key 13 c5 (by decide) p5 h5;have k0:((lf 1024 2:Nat):Int)=c0:=by
  rw[h0];exact lf_two 1024
 show [((lf 1024 2:Nat):Int),((lf 1024 3:Nat):Int),((lf 1024 5:Nat):Int),((lf 1024 7:Nat):Int),((lf 1024 11:Nat):Int),((lf 1024 13:Nat):Int)]=_
 rw[k0];rw[show ((lf 1024 3:Nat):Int)=c1 from k1,show ((lf 1024 5:Nat):Int)=c2 from k2,show ((lf 1024 7:Nat):Int)=c3 from k3,show ((lf 1024 11:Nat):Int)=c4 from k4,show ((lf 1024 13:Nat):Int)=c5 from k5]
def Kb:Nat:=2^100
theorem dec_of_cert{tl:List (Int×Int)}(h1:∀ x∈tl,x.1∈smallP)(h0:∀ x∈tl,x.2≠0)(hd:(tl.map Prod.fst).Nodup)(hk:∀ x∈tl,x.2.natAbs≤Kb)(hl:tl.length≤100)(hne:tl≠[]):Dec tl:=by
 have hc:=LN.cert_ok;rw[← certL_eq] at hc;have hS:=@mul_pow_le tl.length 100 503 hl (by decide);have:=LN.ends_decide hc (by decide) tl hS hne (fun x hx=>⟨h1 x hx,h0 x hx,hk x hx⟩) hd
 unfold Dec;rw[LN.eLo_eq,LN.eHi_eq];omega
def allP:List Int:=[2,3,5,7,11,13,17,19,23,29,31,37,41,43,47,53,59,61,67,71,73,79,83,89,97]
structure Good (ps:List Int) (l:List Rat):Prop where
 pr:∀ p∈ps,p∈allP
 nd:ps.Nodup
 kb:∀ x∈tlQ ps l,x.2.natAbs≤Kb
 dc:ps.length≤100→tlQ ps l≠[]→Dec (tlQ ps l)
theorem tlist_fst(D:Nat):∀ (ps:List Int) (l:List Rat),((tlist D ps l).map Prod.fst).Sublist ps
 | [],_=>by simp[tlist]
 | _::_,[]=>by simp[tlist]
 | p::ps,q::l=>by
  have ih:=tlist_fst D ps l;unfold tlist at ih ⊢;rw[List.zip_cons_cons,List.filterMap_cons]
  by_cases h:q.num=0
  ·simp only[h,if_true];exact ih.cons _
  ·simp only[h,if_false];exact ih.cons_cons _
theorem tlQ_nz{ps:List Int}{l:List Rat}{x:Int×Int}(h:x∈tlQ ps l):x.2≠0:=by
 obtain⟨_,q,hq,hn,he⟩:=tlist_mem h;rw[he];refine Int.mul_ne_zero hn ?_;have h1:=LN.tden_dvd hq;have h2:=LN.tden_pos' l;have h3:0<tden l/q.den:=Nat.div_pos (Nat.le_of_dvd h2 h1) q.den_pos;omega
theorem allP_odd:allP=2::oddP.map (fun p=>((p:Nat):Int)):=by decide +kernel
theorem allP_pr{p:Int}(h:p∈allP):∃ q:Nat,p=q∧(q=2∨q∈oddP):=by
 rw[allP_odd] at h;rcases List.mem_cons.1 h with rfl|h
 ·exact⟨2,rfl,.inl rfl⟩
 ·obtain⟨q,hq,rfl⟩:=List.mem_map.1 h;exact⟨q,rfl,.inr hq⟩
theorem small_all{p:Int}(h:p∈smallP):p∈allP:=by
 have:∀ p∈smallP,p∈allP:=by decide
 exact this p h
theorem trt_of{ps:List Int}{l:List Rat}(h1:∀ p∈ps,p∈allP)(h2:ps.Nodup):TrT (tlQ ps l) :=
 ⟨fun _ hx=>allP_pr (h1 _ (tlist_mem hx).1),fun _ hx=>tlQ_nz hx,(tlist_fst _ ps l).nodup h2⟩
theorem Good.lt{ps:List Int}{l:List Rat}(h:Good ps l):∀ x∈tlQ ps l,x.2.natAbs<2^101:=fun x hx=>Nat.lt_of_le_of_lt (h.kb x hx) (by decide)
theorem Good.dec{ps:List Int}{l:List Rat}(h:Good ps l)(hn:ps.length≤100)(hne:tlQ ps l≠[]):Dec (tlQ ps l):=h.dc hn hne
theorem tlQ_len100{ps:List Int}{l:List Rat}(hn:ps.length≤100):(tlQ ps l).length≤100 :=
 Nat.le_trans (by have:=(tlist_fst (tden l) ps l).length_le;rw[List.length_map] at this;exact this) hn
theorem Good.small{ps:List Int}{l:List Rat}(h1:∀ p∈ps,p∈smallP)(h2:ps.Nodup)(hk:∀ x∈tlQ ps l,x.2.natAbs≤Kb):Good ps l :=
 ⟨fun p hp=>small_all (h1 p hp),h2,hk,fun hn hne=>dec_of_cert (fun _ hx=>h1 _ (tlist_mem hx).1) (trt_of (fun p hp=>small_all (h1 p hp)) h2).nz (trt_of (fun p hp=>small_all (h1 p hp)) h2).nd hk (tlQ_len100 hn) hne⟩
end Go.Proofs.YtepicfdhphiiaaaGreatDoor

namespace Go.Proofs.YtepicfdhphiiaaaGreatDoor.LN
theorem dotI_parts(P:Int):∀ l k:List Int,dotI l k=dotI (l.map fun x=>x%P) k+P*dotI (l.map fun x=>x/P) k
 | [],_=>by simp[dotI]
 | _::_,[]=>by simp[dotI]
 | x::l,y::k=>by
  have ih:=dotI_parts P l k;simp only[List.map_cons,dotI];rw[ih];have hx:=Int.emod_add_mul_ediv x P;generalize x%P=r at *;generalize x/P=q at *;subst hx
  grind
def approx (a q:Int) (L:List Int):List Int:=L.map fun l=>(2*q*l+a)/(2*a)
theorem approx_length(a q:Int)(L:List Int):(approx a q L).length=L.length:=by simp[approx]
def errA (a q:Int) (L:List Int):Nat:=sumAbs (comb a (approx a q L) q L)
def nearA (a:Int) (L Q:List Int) (K S:Nat):Bool:=decide (0<a)&&Q.all fun q=>decide (errA a q L*K+q.natAbs*S<a.natAbs)
def indA (a:Int) (L Q:List Int) (V:List (List Int)) (P:Int):Bool :=
 decide (1<P)&&decide (V.length=L.length) &&
 (List.range L.length).all fun i=>decide ((combs L.length (V.getD i []) (Q.map fun q=>approx a q L)).map (fun x=>x%P)=unitRow L.length i 1)
theorem dotI_mul(P:Int):∀ u k:List Int,dotI u (k.map fun x=>P*x)=P*dotI u k
 | [],_=>by simp[dotI]
 | _::_,[]=>by simp[dotI]
 | a::u,b::k=>by
  simp only[List.map_cons,dotI];rw[dotI_mul P u k]
  grind
theorem ind_dvd{P:Int}{m:Nat}{U V:List (List Int)}(hU:∀ u∈U,u.length=m)(hI:∀ i,i<m→(combs m (V.getD i []) U).map (fun x=>x%P)=unitRow m i 1)(k:List Int)(hk:k.length=m)(h0:∀ u∈U,dotI u k=0):
  ∀ x∈k,∃ y,x=P*y:=by
 intro x hx;obtain⟨i,hi,rfl⟩:=List.mem_iff_getElem.1 hx;have h1:=hI i (by omega);have h2:=dotI_combs m k (V.getD i []) U hU h0;rw[dotI_parts P,h1,unitRow,List.range_eq_range',dotI_unit 1 _ i 0 k,if_pos (by omega)] at h2;rw[Nat.sub_zero,List.getD_eq_getElem?_getD,List.getElem?_eq_getElem hi,Option.getD_some,Int.one_mul] at h2;generalize k[i]=y at *;generalize dotI ((combs m (V.getD i []) U).map fun x=>x/P) k=q at *;exact⟨-q,by rw[Int.mul_neg];omega⟩
theorem ind_zero{P:Int}(hP:1<P){m:Nat}{U V:List (List Int)}(hU:∀ u∈U,u.length=m)(hI:∀ i,i<m→(combs m (V.getD i []) U).map (fun x=>x%P)=unitRow m i 1):
  ∀ (n:Nat) (k:List Int),(∀ x∈k,x.natAbs≤n)→k.length=m→(∀ u∈U,dotI u k=0)→∀ x∈k,x=0:=by
 intro n
 induction n using Nat.strongRecOn with
 | ind n ih =>
  intro k hn hk h0
  by_cases hz:n=0
  ·subst hz;intro x hx;have:=hn x hx
   omega
  have hd:=ind_dvd hU hI k hk h0;have e:k=(k.map fun x=>x/P).map fun x=>P*x:=by
   rw[List.map_map];refine List.ext_getElem (by simp) fun i h1 h2=>?_
   obtain⟨y,hy⟩:=hd k[i] (List.getElem_mem h1);rw[List.getElem_map,Function.comp_apply,hy,Int.mul_ediv_cancel_left _ (by omega)]
  have h2:∀ u∈U,dotI u (k.map fun x=>x/P)=0:=fun u hu=>by
   have h:=h0 u hu;rw[e,dotI_mul] at h;rcases Int.mul_eq_zero.1 h with h|h
   ·omega
   ·exact h
  have h3:∀ x∈k.map (fun x=>x/P),x.natAbs≤n/2:=fun x hx=>by
   obtain⟨z,hz1,rfl⟩:=List.mem_map.1 hx;obtain⟨y,hy⟩:=hd z hz1;have h4:=hn z hz1;rw[hy,Int.mul_ediv_cancel_left _ (by omega)];rw[hy,Int.natAbs_mul] at h4;have h5:2*y.natAbs≤P.natAbs*y.natAbs:=Nat.mul_le_mul_right _ (by omega);omega
  have h4:=ih (n/2) (by omega) _ h3 (by rw[List.length_map];exact hk) h2;intro x hx;obtain⟨y,hy⟩:=hd x hx;have h5:=h4 (x/P) (List.mem_map_of_mem hx);rw[hy,Int.mul_ediv_cancel_left _ (by omega)] at h5;rw[hy,h5,Int.mul_zero]
theorem approx_zero{a:Int}{L Q:List Int}{V:List (List Int)}{P:Int}{K S:Nat}(hn:nearA a L Q K S=true)(hi:indA a L Q V P=true)(k:List Int)(hk:k.length=L.length)(hK:∀ x∈k,x.natAbs≤K)(hS:(dotI L k).natAbs<S):
  ∀ x∈k,x=0:=by
 unfold nearA at hn;unfold indA at hi;simp only[Bool.and_eq_true,decide_eq_true_eq,List.all_eq_true,List.mem_range] at hn hi;obtain⟨ha,hQ⟩:=hn;obtain⟨⟨hP,hV⟩,hI⟩:=hi;refine ind_zero hP (m:=L.length) (U:=Q.map fun q=>approx a q L) (V:=V) (fun u hu=>?_) hI (sumAbs k) k (fun x hx=>?_) hk fun u hu=>?_
 ·obtain⟨q,_,rfl⟩:=List.mem_map.1 hu;exact approx_length a q L
 ·clear hS hK hk hI hV;unfold sumAbs
  induction k with
  | nil=>cases hx
  | cons y l ih =>
   rw[List.map_cons,List.sum_cons];rcases List.mem_cons.1 hx with rfl|hx
   ·omega
   ·have:=ih hx;omega
 ·obtain⟨q,hq,rfl⟩:=List.mem_map.1 hu;have h1:=hQ q hq;have e:=dotI_comb a q (approx a q L) L k (approx_length a q L);have b:=dotI_le K (comb a (approx a q L) q L) k hK;unfold errA at h1;generalize dotI (approx a q L) k=f at *;generalize dotI L k=T at *;generalize sumAbs (comb a (approx a q L) q L)*K=A at *;rw[e] at b;have h3:(a*f).natAbs≤(a*f-q*T).natAbs+(q*T).natAbs:=by omega
  rw[Int.natAbs_mul,Int.natAbs_mul q T] at h3;have h5:q.natAbs*T.natAbs≤q.natAbs*S:=Nat.mul_le_mul_left _ (by omega);have h6:a.natAbs*f.natAbs<a.natAbs*1:=by omega
  have h7:f.natAbs<1:=Nat.lt_of_mul_lt_mul_left h6;omega
def certP25:List Nat:=[2,3,5,7,11,13,17,19,23,29,31,37,41,43,47,53,59,61,67,71,73,79,83,89,97]
def certL25:List Int:=certP25.map fun p=>if p=2 then 2^1024 else (((lg p p.log2 1024 1120).getD 0:Nat):Int)
def certQ25:List Int:=[-0x390cc4547b4cd34f887aebaadaaef6c9e2c25ec48d8f23b26f2a85d828ff28e8bf9ca1f7cfab0d284288c4b575780f820db978a62a9677ad80c583c592139,-0x260814ef7f5ac50a6006d98cfd70b43cacbe2b44c5a6acba00c9e36e133dfaec54ded4a6dbf2b1ee3d9f0170e9040519515ec50467e78cea24b2a987b6ebe,0xc1fe29faf3a552cd8de28a12e2da45a09a6f6ddd51c9fdf123231365c26467b7f0adb74fd1629cde5109fd2ce82ac31cf6a7159b88cbc009f06beb2efe7f1,0xc4d95d3690e9b65f02a176c883e8ec48cac8f51c6e6ac88155fbb552a8d107e0735dfadeafbd00dc15d7affcd74d1aedcc8b5819242d9f5374d744f37864b,0x2fbe3f25a3a7de9b5b481954d1f6339b2cd20553ab9d3ebec152b19718dccca849fa91bd57f1ef5cf6b3fd1de44fed74095a607713b59e5dab526a5bf2d1a,0xb1d4a89456513f0be0db174271d748684707ab7c465b9b152f9cfd46885d014b0b6313fdb7fb0ac0f8c0cbb84fa1114a2fc1ad81d7b46dc68888c7e484443,0xd4fb67b9eee711061c2f484eaeb6714b80931bf0be34de2758afdcfc8ab8d81f286fc368a34abbdee16567d53c8e00633cd4e3c89dc0919dbd4e6776a43bb,0xc899fb23e590a24b56a2adcd8da665a66ae2ec7e27986cc365cb27f6d6036be68c300e821eb425ea7f34efe116edeeffcaca2af99a0269f5b4261db47c314,-0x11d12dd471b033d8f64d3dd96ce360413127b1e913f3ae0a69f58fd7c784be2b7f4730a1aa0e86d39e38d5da6e24bfecc0540ab55bd835eba83548458d713,0xb926771e4e6fa1b1d854b5141a33d1ea69f18e9493e4bd4e7fc79ec59c41a85d36321c75af04f2583ea8a5d6ed566b5e9fa774026a91431b6a7df578e7459,-0x3c28cc5f354ba5a9fc8d241587fa21af31c3e6e94de0dd06347765459067893f4625b14ba63b900137e634223d3e51fc18e23feb9d937a72459c82f489561,-0xd89ae46dcc2d34099da88c0eeebe45a7fd8e4a5b978d5a347365896f552ec37edac4d764c4c88fe731af3bde3060926f6c408fa08ce000932d017724e19ee,-0x8a91da38a2dcab2db4bf4a851cf4bbad9dd11812fb953cccc63d0e4b2da4b049c2e28f859aff65c2f55d66641eec3465bf2cc38578db652cb80d1be86824c,0x895aa15dcf5659cff1497ef77c5517ab5bc635dc394b344b270487efb0c24dd81130969cbd26c4b2570453e614b36072827d534508273926630d8792f1505,0xec0ed674cca733ecec2ec718589c4165668c921ed200cb18f949421f53adfeaf33ee49b77683fd220fda76c247b919730b89f5c86cc2ae2e7467e6288190d,0x1ad4fa358f8a2b0001052337ff5f965738e9ef08c0ab36887e87053178564d3d4733548ea08b2398fa1c8ef38e9b07acf14183670a7557085e371538399213,-0xcf563fd1ab64de44118f0ef591830a98b4375aefbd7643b50b3a2c7dad2ddda31ea6a961f9ff6856f9af1536f3807caa73d0d8bccd1b1748307caca0b514,0x5076fb700c91eb0ad7590020d977e1805d604885b67160daae909a62406d3f401f66fe04cdb504d8309c6f2062ee41b2c29c45d2c01b4a6959315c698416e,-0xe7e496b0d5dae89fd6671905c3b39792af4f23aa9c33ab499c18e57447823ce03c684e8e0d3686afff015d66b6d57f8e91b97946b1f2fb236c8d62708a18a,-0x1797837a78ad5a7cb425ecd55e66c7f45320c2112aa185855f9ac4fbdd0f1a3f868873233f2a91c500731f84bf864689b9ca4ffc44787f78ed85c25d65bafe,0x1f12b1884e6ed34a5d58fcbbd9b64bb0e3620c645f1107b850710f74df8470506f39df5b2c079d54de688969e9b3be651cc671df4be8b0402deeed04d7136f,0x38773a3f3a38ff2f461cc1a498212e2699f4b44c91c4fc8fe76a273f7433e99ad868606c13df7bb8fbc1a0e307aa2305e1edc5fc67267c33693811a24a115a,-0x468f56cd9688ad4444754dc5516780d8a728601272b981c9e540ae5c7eccc37be9aaea74cc4f68a295024dd153707784d1a0f06af7b3318b43396873b153b9,0x29803f6a11e403f7ab8ab7f301e524fd966b213312929531e43177e8e94c4228b3ff35f744d7a0381b47d50f48de84c56fabfe6825e7c594421d4081a2f909,-0x3ba482035175b55cdd54937fbed1357892e1679104490919122bafa83262d982e03a473fabb598916f8baa291f85413607e809cc262654bd47d7d78594adb]
def certV25:List (List Int):=[[98,118,202,124,83,146,107,201,172,64,12,55,105,153,239,226,195,7,28,1,187,165,30,221,20],[97,27,31,158,30,77,244,51,44,105,139,212,178,232,112,144,112,50,139,194,131,126,250,243,199],[145,223,213,170,95,13,240,130,153,118,135,223,243,186,171,134,207,140,198,195,116,22,35,91,65],[127,43,6,14,138,151,250,70,62,80,184,44,115,51,176,244,145,131,206,236,45,69,179,200,133],[215,29,202,95,72,74,48,4,10,16,59,3,80,6,27,146,155,64,144,191,207,28,47,186,115],[1,23,188,40,44,144,148,45,179,1,2,131,81,130,190,174,102,201,98,127,88,72,69,149,96],[21,40,35,113,140,63,120,23,173,12,30,112,115,247,188,77,109,86,237,6,190,149,14,217,137],[165,242,4,13,24,68,242,68,11,194,105,217,200,25,217,157,134,179,219,36,80,241,64,196,176],[206,4,124,119,72,189,189,146,49,121,239,155,85,23,138,58,180,221,118,48,106,186,171,238,86],[210,99,247,60,139,154,200,40,223,202,137,227,11,116,74,91,113,69,222,174,223,137,100,238,243],[137,154,125,2,209,203,20,147,218,42,113,181,57,132,187,233,7,180,4,13,134,94,179,172,127],[179,210,49,18,55,213,151,96,5,60,141,57,148,95,99,145,82,178,219,173,202,14,84,100,228],[102,62,217,129,14,127,200,224,35,146,125,220,123,9,18,106,211,148,211,96,123,238,196,223,230],[107,242,170,28,59,5,149,152,27,153,45,77,216,213,205,218,113,101,58,81,174,221,44,184,57],[108,175,78,124,22,49,53,21,88,184,52,93,49,179,193,43,94,166,25,71,133,248,120,207,180],[190,12,33,105,31,211,119,39,220,34,3,27,122,55,99,131,239,148,215,72,248,155,198,222,150],[144,6,56,78,4,2,126,114,216,174,212,176,32,191,21,45,218,115,143,120,153,136,150,24,232],[177,196,131,171,223,9,122,185,198,226,118,98,221,101,109,186,72,130,15,250,167,241,109,149,105],[5,109,58,172,46,17,108,71,152,136,247,173,16,175,59,71,120,96,238,26,93,192,136,39,81],[186,19,103,188,193,244,223,99,12,51,155,33,75,7,116,75,27,25,162,116,163,194,41,249,169],[16,165,61,90,34,101,66,39,9,179,6,2,90,243,140,110,154,165,206,43,233,68,70,8,11],[234,230,151,18,15,70,18,94,170,185,103,207,140,194,73,45,240,94,238,202,45,181,231,74,100],[93,157,117,129,100,102,151,37,142,24,195,236,119,121,156,62,96,20,140,202,137,110,136,203,133],[34,56,244,228,180,109,49,144,4,202,26,66,171,139,244,245,65,98,96,38,169,12,38,158,59],[93,79,212,48,179,15,215,149,126,233,223,17,202,226,95,109,96,28,47,201,229,125,122,118,247]]
theorem certL25_head:certL25.head?=some (2^1024):=by decide +kernel
theorem certL25_len:certL25.length=25:=by unfold certL25;rw[List.length_map];rfl
theorem near25_ok:nearA (2^1024) certL25 certQ25 (2^17) (2^521)=true:=by decide +kernel
theorem ind25_ok:indA (2^1024) certL25 certQ25 certV25 251=true:=by decide +kernel
theorem cert25_zero(k:List Int)(hk:k.length=certL25.length)(hK:∀ x∈k,x.natAbs≤2^17)(hS:(dotI certL25 k).natAbs<2^521):∀ x∈k,x=0:=approx_zero near25_ok ind25_ok k hk hK hS
end Go.Proofs.YtepicfdhphiiaaaGreatDoor.LN

namespace Go.Proofs.YtepicfdhphiiaaaGreatDoor
open Go.RowKit
theorem LN.ends_decide_of{pr:List Int}{f:Int→Nat}{K S:Nat}(hz:∀ k:List Int,k.length=pr.length→(∀ x∈k,x.natAbs≤K)→(LN.dotI (pr.map fun p=>(f p:Int)) k).natAbs<S→∀ x∈k,x=0)(hp:pr.Nodup)(l:List (Int×Int))(hl:l.length*K≤S)(hne:l≠[])
  (hm:∀ x∈l,x.1∈pr∧x.2≠0∧x.2.natAbs≤K) (hd:(l.map Prod.fst).Nodup):LN.hiS f (LN.negT l)≤LN.loS f l∨LN.hiS f l≤LN.loS f (LN.negT l):=by
 have h1:=LN.hiS_le f K l fun x hx=>(hm x hx).2.2
 have h2:=LN.hiS_le f K (LN.negT l) (by
  intro x hx;obtain⟨y,hy,rfl⟩:=List.mem_map.1 hx;have:=(hm y hy).2.2
  show (-y.2).natAbs≤K
  omega)
 have e:(LN.negT l).length=l.length:=by simp[LN.negT]
 rw[e] at h2;have h3:=LN.sumT_eq f l
 by_cases hT:(LN.sumT f l).natAbs<S
 ·exfalso;rw[← LN.dotI_coef f pr hp l fun x hx=>(hm x hx).1] at hT;have h4:=hz (pr.map fun p=>LN.coefP p l) (by simp) (by
   intro x hx;obtain⟨p,_,rfl⟩:=List.mem_map.1 hx;exact LN.coefP_le K l hd (fun y hy=>(hm y hy).2.2) p) hT
  match l,hne with
  | x::r,_ =>
   have h5:=h4 _ (List.mem_map.2 ⟨x.1,(hm x List.mem_cons_self).1,rfl⟩);rw[LN.coefP_mem _ hd x List.mem_cons_self] at h5;exact(hm x List.mem_cons_self).2.1 h5
 ·omega
theorem certL25_pos:∀ x∈LN.certL25,(0:Int)≤x:=by decide +kernel
theorem lg_cert25':oddP.map (fun p=>LN.lg p p.log2 1024 1120)=LN.certL25.tail.map fun x=>some x.toNat:=by decide +kernel
theorem certL25_eq:allP.map (fun p=>((lf 1024 p:Nat):Int))=LN.certL25:=by
 have h:=lg_cert25';have h0:=LN.certL25_head;have hp:=certL25_pos;obtain⟨c0,ct,e⟩:∃ c0 ct,LN.certL25=c0::ct:=⟨_,_,rfl⟩;rw[e] at h h0 hp ⊢;rw[allP_odd,List.map_cons];simp only[List.head?_cons,Option.some.injEq] at h0;rw[lf_two,h0];congr 1;rw[List.tail_cons] at h;rw[List.map_map];have hp':∀ x∈ct,(0:Int)≤x:=fun x hx=>hp x (List.mem_cons_of_mem _ hx)
 clear hp h0 e;have key:∀ (l:List Nat) (ct:List Int),(∀ p∈l,p∈oddP)→(∀ x∈ct,(0:Int)≤x)→l.map (fun p=>LN.lg p p.log2 1024 1120)=ct.map (fun x=>some x.toNat)→l.map ((fun p=>((lf 1024 p:Nat):Int)) ∘ fun p=>((p:Nat):Int))=ct:=by
  intro l
  induction l with
  | nil =>
   intro ct _ _ h;cases ct with
   | nil=>rfl
   | cons x r=>simp at h
  | cons p l ih =>
   intro ct hl hc h;cases ct with
   | nil=>simp at h
   | cons x r =>
    simp only[List.map_cons,List.cons.injEq] at h;rw[List.map_cons,ih r (fun q hq=>hl q (List.mem_cons_of_mem _ hq)) (fun y hy=>hc y (List.mem_cons_of_mem _ hy)) h.2];congr 1;have:=lg_lgN (hl p (List.mem_cons_self ..)) (by decide) h.1
    have hx:=hc x (List.mem_cons_self ..)
    show ((lgN p 1024:Nat):Int)=x
    rw[this];omega
 exact key oddP ct (fun _ h=>h) hp' h
def Ke:Nat:=2^17
theorem dec_of_cert25{tl:List (Int×Int)}(h1:∀ x∈tl,x.1∈allP)(h0:∀ x∈tl,x.2≠0)(hd:(tl.map Prod.fst).Nodup)(hk:∀ x∈tl,x.2.natAbs≤Ke)(hl:tl.length≤100)(hne:tl≠[]):Dec tl:=by
 have hS:=@mul_pow_le tl.length 17 521 hl (by decide);have hz:∀ k:List Int,k.length=allP.length→(∀ x∈k,x.natAbs≤Ke)→(LN.dotI (allP.map fun p=>((lf 1024 p:Nat):Int)) k).natAbs<2^521→∀ x∈k,x=0:=by
  intro k hk hK hT;rw[certL25_eq] at hT;exact LN.cert25_zero k (by rw[hk,LN.certL25_len];rfl) hK hT
 have:=LN.ends_decide_of hz (by decide) tl hS hne (fun x hx=>⟨h1 x hx,h0 x hx,hk x hx⟩) hd
 unfold Dec;rw[LN.eLo_eq,LN.eHi_eq];omega
theorem Good.all{ps:List Int}{l:List Rat}(h1:∀ p∈ps,p∈allP)(h2:ps.Nodup)(hk:∀ x∈tlQ ps l,x.2.natAbs≤Ke):Good ps l :=
 ⟨h1,h2,fun x hx=>Nat.le_trans (hk x hx) (by decide),fun hn hne=>dec_of_cert25 (fun _ hx=>h1 _ (tlist_mem hx).1) (trt_of h1 h2).nz (trt_of h1 h2).nd hk (tlQ_len100 hn) hne⟩
def GivesC (f:FuncId) (args:Array Value) (w:World) (code:Int) (l:List Rat):Prop :=
 Calls Tryz.prog f args w fun e w'=>∃ a c,e = .returned (.tuple #[.slice a (if code=0 then l.length else 0) c,.int .i64 code])∧(code=0→Rd w' a (cellsQ l))∧Below w.heap.size w w'
def sumCode (l:List Rat):Int:=if shortAll l=true then 0 else 4
theorem GivesSum.code{f:FuncId}{args:Array Value}{w:World}{l:List Rat}(h:GivesSum f args w l):GivesC f args w (sumCode l) l:=by
 unfold GivesSum at h;unfold GivesC sumCode
 by_cases hs:shortAll l=true
 ·rw[if_pos hs] at h ⊢;refine cm_ h ?_;rintro e w' ⟨a,c,rfl,hr,hb⟩;exact⟨a,c,rfl,fun _=>hr,hb⟩
 ·rw[if_neg hs] at h ⊢;refine cm_ h ?_;rintro e w' ⟨rfl,hb⟩;exact⟨none,0,rfl,fun h4=>absurd h4 (by decide),hb⟩
theorem GivesErr.code{f:FuncId}{args:Array Value}{w:World}{code:Int}(hc:code≠0)(l:List Rat)(h:GivesErr f args w code):GivesC f args w code l:=by
 unfold GivesC;rw[if_neg hc];refine cm_ h ?_;rintro e w' ⟨rfl,hb⟩;exact⟨none,0,rfl,fun h4=>absurd h4 hc,hb⟩
theorem GivesC.lower{f:FuncId}{args:Array Value}{w:World}{code:Int}{l:List Rat}(h:GivesC f args w code l):∃ z:Nat,Calls Tryz.prog f args w fun e w'=>∃ a c,e = .returned (.tuple #[.slice a z c,.int .i64 code])∧(code=0→Rd w' a (cellsQ l))∧Below w.heap.size w w':=⟨_,h⟩
def Sml (N M:Nat) (l:List Rat):Prop:=∀ q∈l,q.den ∣ M∧(LN.ex M q).natAbs≤N
theorem Sml.le{N K M:Nat}{l:List Rat}(h:Sml N M l)(hK:N≤K):Sml K M l:=fun q hq=>⟨(h q hq).1,Nat.le_trans (h q hq).2 hK⟩
theorem ex_den{M:Nat}{q:Rat}(z:Int)(hM:0<M)(h:q*(M:Rat)=(z:Rat)):q.den ∣ M∧LN.ex M q=z:=by
 have hM':(M:Rat)≠0:=by have:=Rat.natCast_pos.2 hM;grind
 have e:q=mkRat z M:=by
  rw[Rat.mkRat_eq_div];have:=Rat.mul_div_cancel (a:=q) hM'
  rw[← h];exact this.symm
 have hd:q.den ∣ M:=by
  rw[e,LN.mkRat_den' _ _ (by omega)];exact Nat.div_dvd_of_dvd (Nat.gcd_dvd_right _ _)
 refine⟨hd,?_⟩;rw[← Rat.intCast_inj,LN.ex_eq hd,h]
theorem Sml.comb{N K M:Nat}{la lb:List Rat}(hM:0<M)(ha:Sml N M la)(hb:Sml K M lb)(f g:Int):Sml (N*f.natAbs+K*g.natAbs) M (combineQ la lb (f:Rat) (g:Rat)):=by
 intro q hq;obtain⟨i,hi,rfl⟩:=List.mem_iff_getElem.1 hq;have hi':i<la.length∧i<lb.length:=by simp[combineQ] at hi;omega
 simp only[combineQ,List.getElem_zipWith];obtain⟨d1,n1⟩:=ha _ (List.getElem_mem hi'.1);obtain⟨d2,n2⟩:=hb _ (List.getElem_mem hi'.2);have h:(la[i]'hi'.1*(f:Rat)+lb[i]'hi'.2*(g:Rat))*(M:Rat)=((LN.ex M (la[i]'hi'.1)*f+LN.ex M (lb[i]'hi'.2)*g:Int):Rat):=by
  rw[Rat.intCast_add,Rat.intCast_mul,Rat.intCast_mul,LN.ex_eq d1,LN.ex_eq d2]
  grind
 obtain⟨r1,r2⟩:=ex_den _ hM h;refine⟨r1,?_⟩;rw[r2];refine Nat.le_trans (Int.natAbs_add_le _ _) ?_;rw[Int.natAbs_mul,Int.natAbs_mul];exact Nat.add_le_add (Nat.mul_le_mul_right _ n1) (Nat.mul_le_mul_right _ n2)
def RB:Nat:=2^104
theorem Sml.kb{N M:Nat}{ps:List Int}{l:List Rat}(hM:0<M)(h:Sml N M l):∀ x∈tlQ ps l,x.2.natAbs≤N:=by
 intro x hx;obtain⟨_,q,hq,_,he⟩:=tlist_mem hx;have e:x.2=LN.ex (tden l) q:=he;obtain⟨m,hm⟩:=LN.tden_min (fun q hq=>(h q hq).1);have h3:=(h q hq).2;rw[hm,Nat.mul_comm,LN.ex_mul (LN.tden_dvd hq),Int.natAbs_mul,Int.natAbs_natCast] at h3;have hm0:0<m:=by
  rcases Nat.eq_zero_or_pos m with h0|h0
  ·rw[h0,Nat.mul_zero] at hm;omega
  ·exact h0
 rw[e];have h4:1*(LN.ex (tden l) q).natAbs≤m*(LN.ex (tden l) q).natAbs:=Nat.mul_le_mul_right _ hm0;omega
theorem Sml.den{N:Nat}{l:List Rat}(h:Sml N 12 l):tden l≤12:=Nat.le_of_dvd (by decide) (LN.tden_min (fun q hq=>(h q hq).1))
/-! The numbers of the law. -/
theorem elRow:ElemOf Tryz.prog 54 3 (.int .i64 0) 1 8:=⟨Tryz.underlying54,info_parts infoP,rfl,by decide⟩
def OwnI (w:World) (B:Nat) (a:Option Addr) (c:Nat) (l:List Int):Prop:=w.ownsRow B 3 1 (.slice a l.length c) l.length (ints l)
theorem OwnI.rd{w:World}{B c:Nat}{a:Option Addr}{l:List Int}(h:OwnI w B a c l):Rd w a (ints l):=own_rd h
theorem OwnI.below{w w':World}{B c:Nat}{a:Option Addr}{l:List Int}(h:OwnI w B a c l){D:Nat}(hb:Below D w w')(hD:w.heap.size≤D):OwnI w' B a c l:=own_below h hb hD
theorem OwnI.nil(w:World)(B:Nat):OwnI w B none 0 []:=World.ownsRow_nil w B _ 1
def Xs (xs:List Int):Prop:=∀ x∈xs,-1000≤x∧x≤1000
theorem mx_ok:∀ l:List Int,Xs l→mx l=0
 | [],_=>rfl
 | x::l,h=>by
  have hx:=h x List.mem_cons_self;rw[mx,if_neg (by omega)];exact mx_ok l fun y hy=>h y (List.mem_cons_of_mem _ hy)
theorem mrow_ok{n:Nat}{l:List Int}(h:Xs l)(hl:l.length=n):mrow n l=0:=by
 unfold mrow;rw[if_pos hl,mx_ok l h]
theorem mcode_one{ps xs:List Int}(hp:pcode ps=0)(h1:Xs xs)(l1:xs.length=ps.length):mcode1 ps xs=0:=by
 unfold mcode1 mcode;rw[if_pos hp,mgo,if_pos (mrow_ok h1 l1),mgo]
theorem rdi_two{w:World}{g:Nat}{a1 a2:Option Addr}{c1 c2:Nat}{r s:List Int}{t:TypeId}(h:w.heap[g]?=some (.cells #[.slice a1 r.length c1,.slice a2 s.length c2] t (0,0)))(h1:Rd w a1 (ints r))(h2:Rd w a2 (ints s)):RdI w (some ⟨g,0,none⟩) [r,s]:=by
 obtain⟨k0,k1⟩:w.cell? ⟨g,0,none⟩=some (.slice a1 r.length c1)∧w.cell? ⟨g,1,none⟩=some (.slice a2 s.length c2):=⟨by rw[cell_of_row w g 0 _ t (0,0) h];rfl,by rw[cell_of_row w g 1 _ t (0,0) h];rfl⟩;refine .inr ⟨g,0,rfl,(Array.getElem?_eq_some_iff.1 h).1,fun i hi=>?_⟩
 match i,hi with
 | 0,_=>exact⟨a1,c1,k0,h1⟩
 | 1,_=>exact⟨a2,c2,k1,h2⟩
theorem monResult_ok(w:World)(ps xs:List Int)(a0 a1:Option Addr)(c0 c1:Nat)(rp:Rd w a0 (ints ps))(hi:I64s ps)(hp:pcode ps=0)(rx:Rd w a1 (ints xs))(l1:xs.length=ps.length)(h1:Xs xs):
  Gives Tryz.prog 91 #[.slice a0 ps.length c0,.slice a1 ps.length c1] w (.tuple #[.slice a1 ps.length c1,.int .i64 0]):=by
 unfold Gives;have hpos:=pcode_pos hp;have Hc:Hid (∀ W g,Below w.heap.size w W→W.heap[g]?=some (.cells #[.slice a1 ps.length c1] 54 (0,0))→Gives Tryz.prog 97 #[.slice a0 ps.length c0,.slice (some ⟨g,0,none⟩) 1 1] W (.int .i64 0)):=fun W g hW hg=>by
  have:=monCheckAll_any W a0 _ c0 1 ps [xs] (rp.below hW nr_) hi (by omega) (rdi_one (by rw[l1];exact hg) (rx.below hW nr_)) (by simp) (by intro l hl';simp only[List.mem_cons,List.not_mem_nil,or_false] at hl';subst hl';omega)
  rw[show mcode ps [xs]=0 from mcode_one hp h1 l1] at this;exact this
 clear rp hi hp rx l1 h1 hpos;generalize ps.length=n at *;have B0:=hd_ ((Below.refl w.heap.size w).alloc nr_ (.cells #[.slice a1 n c1] 54));go_enter Tryz.func91,Tryz.ntmps91;go_wp2_with fail;refine cm_ (Hc.out _ _ B0.out (Go.heap_alloc_new _ _)) ?_;rintro e w1 ⟨rfl,hb1⟩;have Hb1:=bt_ B0 hb1;clear hb1 Hc;go_wp2_with fail
 go_ret2
 exact⟨rfl,Hb1.out⟩
theorem num_b{b:Nat}(hb2:b≤97):Num b:=num_pow (D:=2) (show b<10^2 by omega) (by decide) (by decide)
theorem size_pw(b n:Nat)(hb2:b≤97)(hn:n≤2000):(dec (b^n)).size≤4001:=by
 obtain⟨D,hD⟩:∃ D:Nat,D=4001:=⟨_,rfl⟩;rw[← hD,size_lt _ _ (by omega)];have h1:b^n≤(10^2)^n:=Nat.pow_le_pow_left (by omega) n;rw[← Nat.pow_mul] at h1;exact Nat.lt_of_le_of_lt h1 (Nat.pow_lt_pow_right (by decide) (by omega))
theorem limbs_pw(b n y:Nat)(hb2:b≤97)(hn:n≤2000)(hy:y≤n):(limbs (b^y)).length≤10000 :=
 limbs_of_dec _ 10000 (by decide) (Nat.le_trans (size_pw b y hb2 (by omega)) (by decide))
theorem bits_anyb(w:World)(b:Nat)(hb1:2≤b)(hb2:b≤97)(L:Laid w):Gives Tryz.prog 164 #[.string (dec b)] w (.int .i64 ((b.log2+1:Nat):Int)):=by
 unfold Gives;have h:=smallS_any w b (Nat.le_trans (num_b hb2) (by decide)) L;rw[if_pos (by omega)] at h;have H:=hd_ h;have Hl:Hid (∀ W:World,Calls Tryz.prog 183 #[.int .u64 b] W fun e w'=>e = .returned (.int .i64 ((b.log2+1:Nat):Int))∧w'=W):=fun W=>by
  have:=Tryz.bits_Len64 b W (by omega) (by omega)
  rw[show ((b:Nat):Int).toNat=b from rfl,bitLen_log b (by omega) hb2] at this;exact this
 clear L h;generalize dec b=s at *;generalize ((b.log2+1:Nat):Int)=r at *;go_enter Tryz.func164,Tryz.ntmps164;go_wp2_with fail;refine cm_ H.out ?_;rintro e w1 ⟨rfl,hb1⟩;have B1:=hd_ hb1;clear hb1 H;go_wp2_with fail;refine cm_ (Hl.out _) ?_;rintro e w2 ⟨rfl,rfl⟩;clear Hl;go_wp2_with fail;go_ret;exact⟨rfl,B1.out⟩
theorem times_pow(W:World)(b n x y:Nat)(hb2:b≤97)(hn:n≤2000)(hx:x≤n)(hy:y≤n)(a1 a2:Option Addr)(c1 c2:Nat)(h1:ReadsU W a1 (limbs (b^x)))(h2:ReadsU W a2 (limbs (b^y))):
  Calls Tryz.prog 133 #[.slice a1 (limbs (b^x)).length c1,.slice a2 (limbs (b^y)).length c2] W fun e w'=>∃ a c,e = .returned (.slice a (limbs (b^(x+y))).length c)∧ReadsU w' a (limbs (b^(x+y)))∧Below W.heap.size W w':=by
 have l1:=limbs_pw b n x hb2 hn hx;have l2:=limbs_pw b n y hb2 hn hy;refine cm_ (times_any W a1 a2 c1 c2 _ _ h1 h2 (limbs_pcs _) (limbs_pcs _) (by omega) (by omega)) ?_;rintro e w' ⟨a,c,rfl,ho,hb⟩;rw[val_limbs,val_limbs,← Nat.pow_add] at *
 exact⟨a,c,rfl,ho.reads,hb⟩
theorem powerB_any(w:World)(b n:Nat)(hb1:2≤b)(hb2:b≤97)(hn:n≤2000)(L:Laid w):Gives Tryz.prog 135 #[.string (dec b),.int .i64 n] w (.tuple #[.string (dec (b^n)),.int .i64 0]):=by
 unfold Gives;have hz:=is_zero b;have ho:=is_one b;rw[decide_eq_false (by omega)] at hz ho;have Hb:Hid (∀ W,Below w.heap.size w W→Gives Tryz.prog 164 #[.string (dec b)] W (.int .i64 ((b.log2+1:Nat):Int))):=fun W hW=>bits_anyb W b hb1 hb2 (L.below hW)
 have Hc:Hid (∀ W,GivesU 132 #[.string (dec b)] W (b^1)):=fun W=>by rw[Nat.pow_one];exact cutD W b (num_b hb2)
 have Hs:=hd_ (size_pw b n hb2 hn);clear L
 by_cases h0:n=0
 ·subst h0;have Hv:Hid (dec (b^0)=⟨#[49]⟩):=by show _=_;rw[Nat.pow_zero,dec_one]
  generalize dec (b^0)=vv at *;clear Hb Hc hn;generalize dec b=s at *;go_enter Tryz.func135,Tryz.ntmps135;go_wp2_with fail
  go_ret2
  exact⟨by rw[Hv.out];rfl,Below.refl _ _⟩
 ·have hn0:((n:Int)==0)=false:=by rw[beq_eq_false_iff_ne];omega
  have hnn:¬ (n:Int)<0:=by omega
  have hl1:1≤b.log2:=by
   have:=(Nat.le_log2 (n:=b) (k:=1) (by omega)).2 (by omega)
   omega
  have hl2:b.log2≤6:=by
   have:=(Nat.log2_lt (n:=b) (k:=7) (by omega)).2 (by omega)
   omega
  have hw0:IntKind.i64.wrap (((b.log2+1:Nat):Int)-1)=(b.log2:Int):=by rw[show ((b.log2+1:Nat):Int)-1=(b.log2:Int) by omega];exact iw_ _ (by omega)
  have hdz:((b.log2:Int)==0)=false:=by rw[beq_eq_false_iff_ne];omega
  have hdv:Int.tdiv 66439 (b.log2:Int)=66439/(b.log2:Int):=Int.tdiv_eq_ediv_of_nonneg (by decide);have hdl:(2000:Int)≤66439/(b.log2:Int):=by rw[Int.le_ediv_iff_mul_le (by omega)];omega
  have hdu:66439/(b.log2:Int)≤66439:=Int.ediv_le_self _ (by decide);have hnl:¬ 66439/(b.log2:Int)<n:=by omega
  have hwd:IntKind.i64.wrap (66439/(b.log2:Int))=66439/(b.log2:Int):=iw_ _ (by omega);unfold GivesU at Hc;obtain⟨vv,hvv⟩:∃ s,dec (b^n)=s:=⟨_,rfl⟩;have Hvv:=hd_ hvv;rw[hvv] at Hs ⊢;clear hvv;generalize dec b=s at *;go_enter Tryz.func135,Tryz.ntmps135;go_wp2_with fail;refine cm_ (Hb.out _ (Below.refl _ _)) ?_;rintro e w1 ⟨rfl,hb1⟩;have B1:=hd_ hb1;clear hb1 Hb;go_wp2_with fail;have B2:=hd_ (B1.out.alloc B1.out.size (.cells #[.int .u64 1] 178));have R1:Hid (ReadsU (w1.alloc (.cells #[.int .u64 1] 178)) (some ⟨w1.heap.size,0,none⟩) (limbs 1)):=readsU_one (Go.heap_alloc_new w1 _);generalize w1.alloc (.cells #[.int .u64 1] 178)=w2 at *;clear B1;refine cm_ (Hc.out _) ?_;rintro e w3 ⟨a3,c3,rfl,ho,hb⟩;have B3:=bt_ B2 hb;have R2:=hd_ ho.reads;replace R1:=hd_ (R1.out.below hb nr_);clear hb ho Hc B2;have Hl1:Hid ((limbs 1).length=1):=hd_ (by decide +kernel);go_wp2_with fail
  go_loopw [1,7,8] (fun m o q wr=>∃ (k x y:Nat) (a1 a2:Option Addr) (c1 c2:Nat),m = .int .i64 k∧k≤n∧o = .slice a1 (limbs (b^x)).length c1∧q = .slice a2 (limbs (b^y)).length c2∧Hid (x+y*k=n)∧Hid (y≤n)∧Hid (ReadsU wr a1 (limbs (b^x)))∧Hid (ReadsU wr a2 (limbs (b^y)))∧Hid (Below w.heap.size w wr)) (fun m _ _ _=>(intOf m).toNat)
  case atStart =>
   refine⟨n,0,1,some ⟨w1.heap.size,0,none⟩,a3,1,c3,rfl,Nat.le_refl _,by rw[Nat.pow_zero,Hl1.out],by rw[Nat.pow_one],?_,?_,R1,R2,B3⟩
   ·show _=_;omega
   ·show _≤_;omega
  case round =>
   clear R1 R2 B3;obtain⟨k,x,y,a1,a2,c1,c2,rfl,hk,rfl,rfl,Hxy,Hy,R1,R2,B⟩:=hrel;have Hx:Hid (x≤n):=by show _≤_;have:=Hxy.out;omega
   by_cases hk0:k=0
   ·subst hk0;have hk1:¬ (0:Int)<((0:Nat):Int):=by omega
    have Hx2:Hid (x=n):=by show _=_;have:=Hxy.out;omega
    rw[Hx2.out] at R1 ⊢;have Hte:Hid (Gives Tryz.prog 134 #[.slice a1 (limbs (b^n)).length c1] wr (.string vv)):=by
     have:=text_any wr a1 c1 (b^n) R1.out (by have:=limbs_pw b n n hb2 hn nr_;omega)
     rw[Hvv.out] at this;exact this
    have hsz:¬ (20000:Int)<vv.size:=by have:=Hs.out;omega
    go_wp2_with fail;refine cm_ Hte.out ?_;rintro e w9 ⟨rfl,hb⟩;have B9:=bt_ B hb;clear hb Hte;go_wp2_with fail
    go_ret2
    exact⟨rfl,B9.out⟩
   ·have hk1:(0:Int)<k:=by omega
    have hb:=and_one k (by omega)
    by_cases hodd:k%2=1
    ·rw[decide_eq_true hodd] at hb;have Ht:Hid (Calls Tryz.prog 133 #[.slice a1 (limbs (b^x)).length c1,.slice a2 (limbs (b^y)).length c2] wr fun e w'=>∃ a c,e = .returned (.slice a (limbs (b^(x+y))).length c)∧ReadsU w' a (limbs (b^(x+y)))∧Below wr.heap.size wr w'):=times_pow wr b n x y hb2 hn Hx.out Hy.out a1 a2 c1 c2 R1.out R2.out;go_wp2_with fail;refine cm_ Ht.out ?_;rintro e w5 ⟨a5,c5,rfl,r5,hb5⟩;have B5:=bt_ B hb5;replace R1:=hd_ r5;replace R2:=hd_ (R2.out.below hb5 nr_);clear hb5 r5 B Ht
     by_cases hk2:1<k
     ·have hk2':(1:Int)<k:=by omega
      have Hxy2:Hid (x+y+(y+y)*(k/2)=n):=by
       show _=_
       have h1:=Hxy.out;obtain⟨h,rfl⟩:∃ h,k=2*h+1:=⟨k/2,by omega⟩;rw[show (2*h+1)/2=h by omega,Nat.add_mul];rw[Nat.mul_add,Nat.mul_left_comm] at h1;omega
      have Ht:Hid (Calls Tryz.prog 133 #[.slice a2 (limbs (b^y)).length c2,.slice a2 (limbs (b^y)).length c2] w5 fun e w'=>∃ a c,e = .returned (.slice a (limbs (b^(y+y))).length c)∧ReadsU w' a (limbs (b^(y+y)))∧Below w5.heap.size w5 w'):=times_pow w5 b n y y hb2 hn Hy.out Hy.out a2 a2 c2 c2 R2.out R2.out;go_wp2_with fail;refine cm_ Ht.out ?_;rintro e w6 ⟨a6,c6,rfl,r6,hb6⟩;have B6:=bt_ B5 hb6;replace R2:=hd_ r6;replace R1:=hd_ (R1.out.below hb6 nr_);clear hb6 r6 B5 Ht;go_wp2_with fail
      go_roundw
      case rel =>
       refine⟨k/2,x+y,y+y,_,_,_,_,by go_num,by omega,rfl,rfl,Hxy2,?_,R1,R2,B6⟩
       show _≤_
       have:=Hxy.out
       have h2:y*2≤y*k:=Nat.mul_le_mul_left _ (by omega);omega
      case measure=>simp[intOf];omega
     ·have hk2':¬ (1:Int)<k:=by omega
      go_wp2_with fail
      go_roundw
      case rel =>
       refine⟨k/2,x+y,y,_,_,_,_,by go_num,by omega,rfl,rfl,?_,Hy,R1,R2,B5⟩
       show _=_
       have:=Hxy.out
       have e1:k=1:=by omega
       subst e1;have e2:(1/2:Nat)=0:=rfl;rw[e2];omega
      case measure=>simp[intOf];omega
    ·rw[decide_eq_false hodd] at hb
     by_cases hk2:1<k
     ·have hk2':(1:Int)<k:=by omega
      have Hxy2:Hid (x+(y+y)*(k/2)=n):=by
       show _=_
       have h1:=Hxy.out;obtain⟨h,rfl⟩:∃ h,k=2*h:=⟨k/2,by omega⟩;rw[show (2*h)/2=h by omega,Nat.add_mul];rw[Nat.mul_left_comm] at h1;omega
      have Ht:Hid (Calls Tryz.prog 133 #[.slice a2 (limbs (b^y)).length c2,.slice a2 (limbs (b^y)).length c2] wr fun e w'=>∃ a c,e = .returned (.slice a (limbs (b^(y+y))).length c)∧ReadsU w' a (limbs (b^(y+y)))∧Below wr.heap.size wr w'):=times_pow wr b n y y hb2 hn Hy.out Hy.out a2 a2 c2 c2 R2.out R2.out;go_wp2_with fail;refine cm_ Ht.out ?_;rintro e w6 ⟨a6,c6,rfl,r6,hb6⟩;have B6:=bt_ B hb6;replace R2:=hd_ r6;replace R1:=hd_ (R1.out.below hb6 nr_);clear hb6 r6 B Ht;go_wp2_with fail
      go_roundw
      case rel =>
       refine⟨k/2,x,y+y,_,_,_,_,by go_num,by omega,rfl,rfl,Hxy2,?_,R1,R2,B6⟩
       show _≤_
       have:=Hxy.out
       have h2:y*2≤y*k:=Nat.mul_le_mul_left _ (by omega);omega
      case measure=>simp[intOf];omega
     ·omega
theorem upT_append(l m:List (Int×Int)):LN.upT (l++m)=LN.upT l*LN.upT m:=by
 induction l with
 | nil=>rw[List.nil_append,LN.upT,Nat.one_mul]
 | cons x l ih=>rw[List.cons_append,LN.upT,LN.upT,ih,Nat.mul_assoc]
theorem negT_append(l m:List (Int×Int)):LN.negT (l++m)=LN.negT l++LN.negT m:=by simp[LN.negT]
theorem upT_one(x:Int×Int):LN.upT [x]=x.1.toNat^x.2.toNat:=by rw[LN.upT,LN.upT,Nat.mul_one]
theorem upT_le(M:Nat):∀ l:List (Int×Int),(∀ x∈l,(0≤x.1∧x.1≤97)∧x.2≤M)→LN.upT l≤2^(7*M*l.length)
 | [],_=>by simp[LN.upT]
 | x::l,h=>by
  have ih:=upT_le M l fun y hy=>h y (List.mem_cons_of_mem _ hy)
  have hx:=h x List.mem_cons_self;rw[LN.upT,List.length_cons,Nat.mul_add,Nat.mul_one,Nat.add_comm,Nat.pow_add];refine Nat.mul_le_mul ?_ ih;have h1:x.1.toNat^x.2.toNat≤(2^7)^x.2.toNat:=Nat.pow_le_pow_left (by omega) _;rw[← Nat.pow_mul] at h1;exact Nat.le_trans h1 (Nat.pow_le_pow_right (by decide) (Nat.mul_le_mul_left _ (by omega)))
theorem upT_num{l:List (Int×Int)}(h:∀ x∈l,(0≤x.1∧x.1≤97)∧x.2≤1000)(hl:l.length≤12):Num (LN.upT l):=by
 obtain⟨M,hM⟩:∃ M:Nat,M=1000:=⟨_,rfl⟩;have h1:=upT_le M l fun x hx=>by have:=h x hx;omega
 have h2:7*M*l.length≤7*M*12:=Nat.mul_le_mul_left _ hl;exact num_two (K:=7*M*l.length+1) (Nat.lt_of_le_of_lt h1 (Nat.pow_lt_pow_right (by decide) (by omega))) (by omega)
def zl (ps xs:List Int):List (Int×Int):=ps.zip xs
theorem zl_succ(ps xs:List Int)(k:Nat)(h1:k<ps.length)(h2:k<xs.length):(zl ps xs).take (k+1)=(zl ps xs).take k++[(ps[k],xs[k])]:=by
 unfold zl;rw[List.take_add_one,List.getElem?_eq_getElem (by rw[List.length_zip];omega),List.getElem_zip];rfl
structure RowOk (w:World) (ps xs:List Int) (a0 a1:Option Addr):Prop where
 rp:Rd w a0 (ints ps)
 rx:Rd w a1 (ints xs)
 len:xs.length=ps.length
 n6:ps.length≤6
 pr:∀ p∈ps,2≤p∧p≤97
 xb:∀ x∈xs,-1000≤x∧x≤1000
theorem RowOk.mem{w:World}{ps xs:List Int}{a0 a1:Option Addr}(H:RowOk w ps xs a0 a1)(k:Nat):(∀ x∈(zl ps xs).take k,(0≤x.1∧x.1≤97)∧x.2≤1000)∧(∀ x∈LN.negT ((zl ps xs).take k),(0≤x.1∧x.1≤97)∧x.2≤1000)∧((zl ps xs).take k).length≤6∧(LN.negT ((zl ps xs).take k)).length≤6:=by
 have hm:∀ x∈(zl ps xs).take k,(2≤x.1∧x.1≤97) ∧ -1000≤x.2∧x.2≤1000:=fun x hx=>by
  have:=List.mem_of_mem_take hx
  have h1:=(List.of_mem_zip (show (x.1,x.2)∈ps.zip xs from this));exact⟨H.pr _ h1.1,H.xb _ h1.2⟩
 have hl:((zl ps xs).take k).length≤6:=by
  have:=H.n6
  have h2:(zl ps xs).length≤6:=by unfold zl;rw[List.length_zip];omega
  rw[List.length_take];omega
 refine⟨fun x hx=>by have:=hm x hx;omega,fun x hx=>?_,hl,by unfold LN.negT;rw[List.length_map];exact hl⟩;obtain⟨y,hy,rfl⟩:=List.mem_map.1 hx;have:=hm y hy
 show (0≤y.1∧y.1≤97) ∧ -y.2≤1000
 omega
theorem sides_any(w:World)(ps xs:List Int)(a0 a1:Option Addr)(c0 c1:Nat)(H:RowOk w ps xs a0 a1)(L:Laid w):
  Gives Tryz.prog 98 #[.slice a0 ps.length c0,.slice a1 ps.length c1] w (.tuple #[.string (dec (LN.upT (zl ps xs))),.string (dec (LN.upT (LN.negT (zl ps xs))))]):=by
 unfold Gives;have HH:=hd_ H;have HL:=hd_ L;have hn6:=H.n6;have B0:=hd_ (Below.refl w.heap.size w);have H0:Hid (dec 1=⟨#[49]⟩):=dec_one;have Hend:Hid ((zl ps xs).take ps.length=zl ps xs):=by
  show _=_
  refine List.take_of_length_le ?_;unfold zl;rw[List.length_zip];omega
 clear H L;generalize hn:ps.length=n at *;have Hn:=hd_ hn;clear hn;go_enter Tryz.func98,Tryz.ntmps98;go_wp2_with fail
 go_loopw [4,5,12] (fun a b i wr=>∃ k:Nat,k≤n∧i = .int .i64 k∧a = .string (dec (LN.upT ((zl ps xs).take k)))∧b = .string (dec (LN.upT (LN.negT ((zl ps xs).take k))))∧Hid (Below w.heap.size w wr)) (fun _ _ i _=>n-(intOf i).toNat)
 case atStart =>
  refine⟨0,Nat.zero_le _,rfl,?_,?_,B0⟩
  ·rw[List.take_zero,LN.upT,H0.out]
  ·rw[List.take_zero,LN.negT,List.map_nil,LN.upT,H0.out]
 case round =>
  clear B0;obtain⟨k,hk,rfl,rfl,rfl,B1⟩:=hrel
  by_cases hlt:k<n
  ·have hlt':(k:Int)<n:=by omega
   have hkp:k<ps.length:=by rw[Hn.out];exact hlt
   have hkx:k<xs.length:=by have:=HH.out.len;have:=Hn.out;omega
   have hp:=HH.out.pr _ (List.getElem_mem hkp);have hx:=HH.out.xb _ (List.getElem_mem hkx);have hsc:=zl_succ ps xs k hkp hkx;obtain⟨m1,m2,m3,m4⟩:=HH.out.mem k;obtain⟨m5,m6,m7,m8⟩:=HH.out.mem (k+1);obtain⟨b1,o1,rfl,hb1,hc1⟩:=HH.out.rp.open (by rw[ints_length];omega);obtain⟨b2,o2,rfl,hb2,hc2⟩:=HH.out.rx.open (by rw[ints_length];omega);have x1:wr.cell? ⟨b1,o1+k,none⟩=some (.int .i64 ps[k]):=by
    rw[B1.out.cell (p:=⟨b1,o1+k,none⟩) hb1];exact hc1 k _ (ints_get _ k hkp)
   have x2:wr.cell? ⟨b2,o2+k,none⟩=some (.int .i64 xs[k]):=by
    rw[B1.out.cell (p:=⟨b2,o2+k,none⟩) hb2];exact hc2 k _ (ints_get _ k hkx)
   clear hc1 hc2;have n1:=upT_num m1 (by omega);have n2:=upT_num m2 (by omega);have n3:=upT_num m5 (by omega);have n4:=upT_num m6 (by omega);have e1:LN.upT ((zl ps xs).take (k+1))=LN.upT ((zl ps xs).take k)*ps[k].toNat^xs[k].toNat:=by rw[hsc,upT_append,upT_one]
   have e2:LN.upT (LN.negT ((zl ps xs).take (k+1)))=LN.upT (LN.negT ((zl ps xs).take k))*ps[k].toNat^(-xs[k]).toNat:=by rw[hsc,negT_append,upT_append];rw[show LN.negT [(ps[k],xs[k])]=[(ps[k],-xs[k])] from rfl,upT_one]
   clear hsc m1 m2 m3 m4 m5 m6 m7 m8;generalize hN1:LN.upT ((zl ps xs).take (k+1))=N1 at *;generalize hN2:LN.upT (LN.negT ((zl ps xs).take (k+1)))=N2 at *;have HN1:=hd_ hN1;have HN2:=hd_ hN2;clear hN1 hN2;generalize LN.upT ((zl ps xs).take k)=M1 at *;generalize LN.upT (LN.negT ((zl ps xs).take k))=M2 at *;generalize ps[k]=p at *;generalize xs[k]=x at *;obtain⟨q,rfl⟩:=Int.eq_ofNat_of_zero_le (show 0≤p by omega);rw[Int.toNat_natCast] at e1 e2;have hwc:IntKind.u64.wrap (q:Int)=q:=IntWalk.u64_in _ (by omega);have hwn:IntKind.i64.wrap (-x) = -x:=iw_ _ (by omega);have hmx:max x (-x)=((x.natAbs:Nat):Int):=by omega
   have Hof:=hd_ (of_any wr q (by omega) (HL.out.below B1.out));have Hpw:Hid (∀ W,Below wr.heap.size wr W→Gives Tryz.prog 135 #[.string (dec q),.int .i64 ((x.natAbs:Nat):Int)] W (.tuple #[.string (dec (q^x.natAbs)),.int .i64 0])):=fun W hW=>powerB_any W q x.natAbs (by omega) (by omega) (by omega) (HL.out.below (bu_ B1 hW))
   have np:Num (q^x.natAbs):=Nat.le_trans (size_pw q x.natAbs (by omega) (by omega)) (by decide)
   by_cases hx0:0<x
   ·have ea:x.toNat=x.natAbs:=by omega
    have eb:(-x).toNat=0:=by omega
    rw[ea] at e1;rw[eb,Nat.pow_zero,Nat.mul_one] at e2;have Hm:Hid (∀ W,Below wr.heap.size wr W→Gives Tryz.prog 96 #[.string (dec M1),.string (dec (q^x.natAbs))] W (.string (dec N1))):=fun W hW=>by
     have:=mul_any W M1 (q^x.natAbs) n1 np (HL.out.below (bu_ B1 hW))
     rw[← e1] at this;exact this
    subst e2;clear e1 ea eb n1 n2 n3 n4 np;generalize dec (q^x.natAbs)=sp at *;generalize dec q=sq at *;generalize dec M1=s1 at *;have P0:=hd_ (Below.refl wr.heap.size wr);go_wp2_with fail;refine cm_ Hof.out ?_;rintro e w2 ⟨rfl,hb⟩;have P2:=bt_ P0 hb;clear hb P0 Hof;go_wp2_with fail;refine cm_ (Hpw.out _ P2.out) ?_;rintro e w3 ⟨rfl,hb⟩;have P3:=bt_ P2 hb;clear hb P2 Hpw;go_wp2_with fail;refine cm_ (Hm.out _ P3.out) ?_;rintro e w4 ⟨rfl,hb⟩;have B4:=hd_ (B1.out.trans ((bu_ P3 hb).mono B1.out.size));clear hb P3 Hm;go_wp2_with fail
    go_roundw
    case rel=>exact⟨k+1,by omega,by go_num,by rw[HN1.out],by rw[HN2.out],B4⟩
    case measure=>simp[intOf];omega
   ·skip
    have ea:x.toNat=0:=by omega
    have eb:(-x).toNat=x.natAbs:=by omega
    rw[ea,Nat.pow_zero,Nat.mul_one] at e1;rw[eb] at e2;have Hm:Hid (∀ W,Below wr.heap.size wr W→Gives Tryz.prog 96 #[.string (dec M2),.string (dec (q^x.natAbs))] W (.string (dec N2))):=fun W hW=>by
     have:=mul_any W M2 (q^x.natAbs) n2 np (HL.out.below (bu_ B1 hW))
     rw[← e2] at this;exact this
    subst e1;clear e2 ea eb n1 n2 n3 n4 np;generalize dec (q^x.natAbs)=sp at *;generalize dec q=sq at *;generalize dec M2=s2 at *;have P0:=hd_ (Below.refl wr.heap.size wr);go_wp2_with fail;refine cm_ Hof.out ?_;rintro e w2 ⟨rfl,hb⟩;have P2:=bt_ P0 hb;clear hb P0 Hof;go_wp2_with fail;refine cm_ (Hpw.out _ P2.out) ?_;rintro e w3 ⟨rfl,hb⟩;have P3:=bt_ P2 hb;clear hb P2 Hpw;go_wp2_with fail;refine cm_ (Hm.out _ P3.out) ?_;rintro e w4 ⟨rfl,hb⟩;have B4:=hd_ (B1.out.trans ((bu_ P3 hb).mono B1.out.size));clear hb P3 Hm;go_wp2_with fail
    go_roundw
    case rel=>exact⟨k+1,by omega,by go_num,by rw[HN1.out],by rw[HN2.out],B4⟩
    case measure=>simp[intOf];omega
  ·have hlt':¬ (k:Int)<n:=by omega
   have hkn:k=n:=by omega
   subst hkn;rw[Hend.out];clear HH HL;go_wp2_with fail
   go_ret2
   exact⟨rfl,B1.out⟩
theorem allP_le{p:Int}(h:p∈allP):2≤p∧p≤97:=by
 have key:∀ q∈allP,2≤q∧q≤97:=by decide
 exact key p h
structure PrOk (ps:List Int):Prop where
 p0:pcode ps=0
 all:∀ p∈ps,p∈allP
 nd:ps.Nodup
 n0:0<ps.length
 n6:ps.length≤6
theorem PrOk.pr{ps:List Int}(P:PrOk ps):∀ p∈ps,2≤p∧p≤97:=fun p hp=>allP_le (P.all p hp)
theorem PrOk.pos{ps:List Int}(P:PrOk ps):∀ p∈ps,0<p:=fun p hp=>by have:=P.pr p hp;omega
theorem PrOk.i64{ps:List Int}(P:PrOk ps):I64s ps:=fun p hp=>by have:=P.pr p hp;omega
def rq (x:List Int):List Rat:=x.map fun x:Int=>(x:Rat)
def subI (x y:List Int):List Int:=List.zipWith (fun a b=>a-b) x y
def Bd (N:Nat) (x:List Int):Prop:=∀ a∈x,a.natAbs≤N
theorem Bd.le{N K:Nat}{x:List Int}(h:Bd N x)(hK:N≤K):Bd K x:=fun a ha=>Nat.le_trans (h a ha) hK
theorem Bd.sm{N D:Nat}{x:List Int}(h:Bd N x)(hD:N<10^D)(h1:1<10^D):∀ q∈rq x,Sm D q:=fun q hq=>by
 obtain⟨a,ha,rfl⟩:=List.mem_map.1 hq;exact⟨by rw[Rat.num_intCast];exact Nat.lt_of_le_of_lt (h a ha) hD,by rw[Rat.den_intCast];exact h1⟩
theorem Bd.sub{N K:Nat}{x y:List Int}(h:Bd N x)(k:Bd K y):Bd (N+K) (subI x y):=fun a ha=>by
 obtain⟨i,hi,rfl⟩:=List.mem_iff_getElem.1 ha;have hi':i<x.length∧i<y.length:=by simp[subI] at hi;omega
 simp only[subI,List.getElem_zipWith];have h1:=h _ (List.getElem_mem hi'.1);have h2:=k _ (List.getElem_mem hi'.2);omega
theorem infoRw:(Tryz.prog.info? 54).map (fun i=>(i.zero,i.size,i.bytes))=some (some (.slice none 0 0),1,24):=by kernel_rfl
structure RowV (w:World) (V:List Value) (ls:List (List Int)):Prop where
 len:V.length=ls.length
 at_:∀ i,i<ls.length→∃ a' c',V[i]?=some (.slice a' (ls.getD i []).length c')∧Rd w a' (ints (ls.getD i []))
theorem RowV.below{w w':World}{V:List Value}{ls:List (List Int)}{B:Nat}(h:RowV w V ls)(hb:Below B w w')(hB:w.heap.size≤B):RowV w' V ls :=
 ⟨h.len,fun i hi=>by obtain⟨a',c',h1,h2⟩:=h.at_ i hi;exact⟨a',c',h1,h2.below hb hB⟩⟩
theorem RowV.nil(w:World):RowV w [] []:=⟨rfl,fun i hi=>absurd hi (Nat.not_lt_zero i)⟩
theorem RowV.append{w:World}{V V':List Value}{ls ls':List (List Int)}(h:RowV w V ls)(k:RowV w V' ls'):RowV w (V++V') (ls++ls'):=by
 refine⟨by simp[h.len,k.len],fun i hi=>?_⟩
 by_cases hi1:i<ls.length
 ·obtain⟨a',c',h1,h2⟩:=h.at_ i hi1;have e:(ls++ls').getD i []=ls.getD i []:=by rw[List.getD_eq_getElem?_getD,List.getD_eq_getElem?_getD,List.getElem?_append_left hi1]
  rw[e];exact⟨a',c',by rw[List.getElem?_append_left (by rw[h.len];exact hi1)];exact h1,h2⟩
 ·rw[List.length_append] at hi;obtain⟨a',c',h1,h2⟩:=k.at_ (i-ls.length) (by omega);have e:(ls++ls').getD i []=ls'.getD (i-ls.length) []:=by rw[List.getD_eq_getElem?_getD,List.getD_eq_getElem?_getD,List.getElem?_append_right (by omega)]
  rw[e];exact⟨a',c',by rw[List.getElem?_append_right (by rw[h.len];omega),h.len];exact h1,h2⟩
theorem RowV.one{w:World}{V:List Value}{ls:List (List Int)}(h:RowV w V ls):∀ u∈V,u.oneCell'=true:=fun u hu=>by
 obtain⟨i,hi,rfl⟩:=List.mem_iff_getElem.1 hu;obtain⟨a',c',h1,_⟩:=h.at_ i (by rw[← h.len];exact hi);rw[List.getElem?_eq_getElem hi] at h1;rw[Option.some.inj h1];rfl
theorem RowV.rdi{w:World}{a:Option Addr}{V:List Value}{ls:List (List Int)}(h:RowV w V ls)(r:Rd w a V):RdI w a ls:=by
 rcases r with r|⟨b,off,rfl,hb,hc⟩
 ·left;have:=h.len
  rw[r] at this;exact List.eq_nil_of_length_eq_zero this.symm
 ·refine .inr ⟨b,off,rfl,hb,fun i hi=>?_⟩;obtain⟨a',c',h1,h2⟩:=h.at_ i hi;exact⟨a',c',hc i _ h1,h2⟩
theorem RdI.vals{w:World}{a:Option Addr}{ls:List (List Int)}(h:RdI w a ls):∃ V,RowV w V ls∧Rd w a V:=by
 rcases h with rfl|⟨b,off,rfl,hb,hc⟩
 ·exact⟨[],RowV.nil w,.inl rfl⟩
 ·refine⟨(List.range ls.length).map fun i=>(w.cell? ⟨b,off+i,none⟩).getD (.slice none 0 0),⟨by simp,fun i hi=>?_⟩,.inr ⟨b,off,rfl,hb,fun i v hv=>?_⟩⟩
  ·obtain⟨a',c',h1,h2⟩:=hc i hi;refine⟨a',c',?_,h2⟩;rw[List.getElem?_map,List.getElem?_range hi,Option.map_some,h1];rfl
  ·have hi:i<ls.length:=by
    have:=(List.getElem?_eq_some_iff.1 hv).1
    simpa using this
   obtain⟨a',c',h1,h2⟩:=hc i hi;rw[List.getElem?_map,List.getElem?_range hi,Option.map_some,h1] at hv;rw[h1,← Option.some.inj hv];rfl
theorem wpList_append_rd{P:Program}{w:World}{ops:Array Oper}{rest:List Oper}{o:Oper}{a:Act}{Q:Exit→Act→World→Prop}(hgd:o.guard=none)(s x:Operand)(t:TypeId)
  (ho:o.op = .call { callee := .builtin .append,args := #[s,x],argTypes := #[t,t] }) {e:TypeId} {z:Value} {bytes:Nat} (E:ElemOf P t e z 1 bytes)
  (v:Value) (hs:a.eval s=v) {base n:Nat} {xs:List Value} (hown:w.ownsRow base e 1 v n xs) (ad:Option Addr) (m c:Nat) (V:List Value) (hx:a.eval x = .slice ad m c) (hnil:ad=none→m=0∧c=0) (hl:V.length=m) (hr:Rd w ad V) (h1:∀ u∈V,u.oneCell'=true)
  (h63:n+m≤4611686018427387904) (hbytes:(n+m)*bytes≤140737488355328) (hbase:base≤w.heap.size)
  (h:∀ v' w',w'.ownsRow base e 1 v' (n+m) (xs++V)→w.grownBy w' v.ownBlock→wpList P ops Q rest (a.put o.dst v') w'):wpList P ops Q (o::rest) a w:=by
 obtain⟨i,hi,hz,hsize,hby⟩:=E.info
 match ad,hr,hnil with
 | none,hr,hnil =>
  obtain⟨rfl,rfl⟩:=hnil rfl;obtain rfl:V=[]:=List.eq_nil_of_length_eq_zero hl;refine wpList_append_own_none hgd s x t ho base e i 1 E.ht hi v n xs hs hown hx ?_;exact h v w (by simpa using hown) ⟨rfl,rfl,rfl,Nat.le_refl _,fun _ _ _=>rfl⟩
 | some ad,hr,_ =>
  refine wpList_append_own _ hgd s x t ho base e i z 1 bytes E.ht hi hz hsize hby E.hzs E.pos v n xs hs hown ad m c V hx (by omega) ?_ h1 (by unfold maxLen;omega) hbytes hbase fun v' w' h2 h3 _=>h v' w' h2 h3
  intro j u hj;rcases hr with rfl|⟨b,off,hb,_,hc⟩
  ·simp at hj
  ·obtain rfl:=Option.some.inj hb;have:=hc j u hj
   have hadd:(⟨b,off,none⟩:Addr).add j=⟨b,off+j,none⟩:=by unfold Addr.add;split<;>simp_all
   rw[hadd];exact this
end Go.Proofs.YtepicfdhphiiaaaGreatDoor

/- lattice.longOf, less, negate. -/
namespace Go.Proofs.YtepicfdhphiiaaaGreatDoor
open Go.RowKit

theorem infoL : (Tryz.prog.info? 84).map (fun i => (i.zero, i.size, i.bytes)) = some (some (.string ⟨#[]⟩), 1, 16) := by kernel_rfl
theorem elL : ElemOf Tryz.prog 113 84 (.string ⟨#[]⟩) 1 16 := ⟨Tryz.underlying113, info_parts infoL, rfl, by decide⟩
/-- Texts of integers as cells. -/
def zs (xs : List Int) : List Value := xs.map fun x => .string (itx x)
theorem zs_length (xs : List Int) : (zs xs).length = xs.length := List.length_map ..
theorem zs_get (xs : List Int) (j : Nat) (h : j < xs.length) : (zs xs)[j]? = some (.string (itx (xs.getD j 0))) := by
  unfold zs
  rw [List.getElem?_map, List.getD_eq_getElem?_getD, List.getElem?_eq_getElem h]; rfl
theorem zs_take (xs : List Int) (t : Nat) (h : t < xs.length) : zs (xs.take (t + 1)) = zs (xs.take t) ++ [.string (itx (xs.getD t 0))] := by
  unfold zs
  rw [List.take_add_one, List.map_append, List.getElem?_eq_getElem h, List.getD_eq_getElem?_getD, List.getElem?_eq_getElem h]; rfl
/-- A row that the call owns, as one that it writes. -/
theorem own_rowS {w : World} {B n c : Nat} {a : Option Addr} {xs : List Int} (h : w.ownsRow B 84 1 (.slice a n c) n (zs xs)) (hn : 0 < n) (hl : xs.length = n) :
    ∃ g, a = some ⟨g, 0, none⟩ ∧ B ≤ g ∧ n ≤ c ∧ RowS w g 0 n fun j => xs.getD j 0 := by
  obtain ⟨g, cap, hv, q1, q2, q3, q4, q5⟩ := own_open h hn
  simp only [Value.slice.injEq] at hv
  obtain ⟨rfl, -, rfl⟩ := hv
  refine ⟨g, rfl, q1, q3, q2, fun j hj => ?_, fun j hj => by rw [Nat.zero_add]; exact q5 j⟩
  rw [Nat.zero_add, q4 j (by omega), zs_get _ _ (by omega)]

theorem longOf_any (w : World) (a : Option Addr) (c : Nat) (xs : List Int) (hr : Rd w a (ints xs)) (hi : I64s xs) (hn : 0 < xs.length) (hl : xs.length ≤ 1000) (L : Laid w) :
    Calls Tryz.prog 63 #[.slice a xs.length c] w fun e w' => ∃ a' c', e = .returned (.slice a' xs.length c') ∧ w'.ownsRow w.heap.size 84 1 (.slice a' xs.length c') xs.length (zs xs) ∧ Below w.heap.size w w' := by
  obtain ⟨b, off, rfl, hb, hcell⟩ := hr.open (by rw [ints_length]; exact hn)
  have Hc := Lib.hid (fun W (hW : Below w.heap.size w W) i (hi2 : i < xs.length) => show W.cell? ⟨b, off + i, none⟩ = some (.int .i64 (xs.getD i 0)) from by
    rw [hW.cell (p := ⟨b, off + i, none⟩) hb]
    exact hcell i _ (by rw [ints_get _ _ hi2, List.getD_eq_getElem?_getD, List.getElem?_eq_getElem hi2]; rfl))
  have HO := Lib.hid (fun W (hW : Below w.heap.size w W) i (hi2 : i < xs.length) => ofz_any W (xs.getD i 0) (by
    rw [List.getD_eq_getElem?_getD, List.getElem?_eq_getElem hi2]; exact (hi _ (List.getElem_mem hi2)).1) (by
    rw [List.getD_eq_getElem?_getD, List.getElem?_eq_getElem hi2]; exact (hi _ (List.getElem_mem hi2)).2) (L.below hW))
  have Hzt := Lib.hid (fun t (ht : t < xs.length) => zs_take xs t ht)
  have Hz0 : Hid (zs (xs.take 0) = []) := by show _ = _; rw [List.take_zero]; rfl
  have Hzn : Hid (zs (xs.take xs.length) = zs xs) := by show _ = _; rw [List.take_length]
  have Hzl := Lib.hid (fun t (ht : t ≤ xs.length) => show (zs (xs.take t)).length = t from by rw [zs_length, List.length_take]; omega)
  clear hr hi hcell L
  obtain ⟨n, hnn⟩ : ∃ n, xs.length = n := ⟨_, rfl⟩
  rw [hnn] at hn hl Hc HO Hzt Hzn Hzl ⊢
  clear hnn
  obtain ⟨i0, hi0, hz0, hz1, hz2⟩ := info_parts infoL
  go_enter Tryz.func63, Tryz.ntmps63
  go_wp2_with (at_make; refine wpList_make_own _ rfl _ _ 113 rfl w.heap.size 84 i0 (.string ⟨#[]⟩) 1 Tryz.underlying113 hi0 hz0 hz1 .i64 .i64 _ n rfl rfl (by first | rfl | omega) (by rw [hz2]; omega) (by unfold maxLen; omega) (Nat.le_refl _) ?_; intro w0 hown0 hg0)
  have B0 : Hid (Below w.heap.size w w0) := (Below.refl _ _).grown hg0 (Nat.le_refl _) (fun k h => by cases h)
  have O0 := Lib.hid hown0
  clear hown0 hg0
  go_loopw [3, 11] (fun o z wr => ∃ (t : Nat) (a : Option Addr) (c : Nat), t ≤ n ∧ z = .int .i64 t ∧ o = .slice a t c ∧ Hid (wr.ownsRow w.heap.size 84 1 (.slice a t c) t (zs (xs.take t))) ∧ Hid (Below w.heap.size w wr)) (fun _ z _ => n - (intOf z).toNat)
  case atStart => exact ⟨0, _, _, Nat.zero_le _, rfl, rfl, by rw [Hz0.out]; exact O0.out, B0⟩
  case round =>
    clear O0 B0
    obtain ⟨t, a, c, ht, rfl, rfl, O, B⟩ := hrel
    by_cases hlt : t < n
    · have hlt' : (t : Int) < n := by omega
      have ct := Hc.out wr B.out t hlt
      have HOt := Lib.hid (fun W hW => HO.out W hW t hlt)
      have hzt := Lib.hid (Hzt.out t hlt)
      generalize xs.getD t 0 = x at *
      go_wp2_with fail
      refine Calls.mono (HOt.out _ B.out) ?_
      rintro e w1 ⟨rfl, hb1⟩
      have B1 := Lib.hid (B.out.trans (hb1.mono B.out.size))
      have O1 : Hid (w1.ownsRow w.heap.size 84 1 (.slice a t c) t (zs (xs.take t))) := own_below O.out hb1 (Nat.le_refl _)
      clear hb1 B O ct HOt
      go_wp2_with (at_builtin; refine wpList_append_new rfl (.tmp 15) (.tmp 18) 113 rfl elL _ 1 [.string (itx x)] rfl rfl O1.out B1.out.size rfl ?c1 (by omega) (by omega) ?_)
      case c1 => first | rfl | (intro u hu; obtain rfl := List.mem_singleton.1 hu; rfl)
      intro v' w2 hown2 hg2 _
      obtain ⟨a2, c2, rfl⟩ := own_form hown2
      have B2 : Hid (Below w.heap.size w w2) := ((B1.out.alloc B1.out.size _)).grown hg2 (Nat.le_trans B1.out.size (by simp)) (fun kk hk => (O1.out.lt kk hk).1)
      have O2 : Hid (w2.ownsRow w.heap.size 84 1 (.slice a2 (t + 1) c2) (t + 1) (zs (xs.take (t + 1)))) := by
        show World.ownsRow ..
        rw [hzt.out]; exact hown2
      clear hown2 hg2 O1 B1 hzt
      go_wp2
      go_roundw
      case rel => exact ⟨t + 1, a2, c2, by omega, by go_num, rfl, O2, B2⟩
      case measure => simp [intOf]; omega
    · have hlt' : ¬ (t : Int) < n := by omega
      obtain rfl : t = n := by omega
      go_wp2
      go_ret
      exact ⟨a, c, rfl, by rw [← Hzn.out]; exact O.out, B.out⟩

end Go.Proofs.YtepicfdhphiiaaaGreatDoor

/- lattice.less, negate, lead on rows that the call writes. -/
namespace Go.Proofs.YtepicfdhphiiaaaGreatDoor
open Go.RowKit

/-- The limit of the numbers that come up. -/
def LimN : Nat := 10 ^ 999990
theorem lim_aux (a b c : Nat) (h : a + b = c) : (10 : Nat) ^ c = 10 ^ a * 10 ^ b := by subst h; exact Nat.pow_add 10 a b
theorem one_ten (n : Nat) : 1 ≤ 10 ^ n := Nat.pow_pos (by decide)
theorem lim_num {x : Nat} (h : x ≤ LimN + LimN) : Num x := by
  refine Nat.le_trans ((size_lt x 999995 (by decide)).2 (Nat.lt_of_le_of_lt h ?_)) (by decide)
  unfold LimN
  have h1 := lim_aux 5 999990 999995 rfl
  have h2 := Nat.pow_pos (n := 999990) (show 0 < 10 by decide)
  rw [h1]
  generalize (10 : Nat) ^ 999990 = T at *
  have h3 : (10 : Nat) ^ 5 = 100000 := by decide
  omega
theorem lim_z {x : Int} (h : x.natAbs ≤ LimN) : ZNum x := lim_num (by omega)
theorem lim_one : 1 ≤ LimN := by unfold LimN; exact one_ten 999990

/-- less and negate turn one row. -/
def PutP (w w' : World) (B b off n : Nat) (F : Nat → Int) (e : Ending) : Prop := e = .returned (.tuple #[]) ∧ RowS w' b off n F ∧ But b w w' ∧ Below B w w'

theorem less_any (w : World) (B b off c b2 off2 c2 n : Nat) (q : Int) (F G : Nat → Int) (hF : RowS w b off n F) (hG : RowS w b2 off2 n G) (hne : b2 ≠ b) (hB : B ≤ b) (hn : n ≤ 1000)
    (hq : q.natAbs ≤ LimN) (h1 : ∀ j, j < n → (q * G j).natAbs ≤ LimN) (h2 : ∀ j, j < n → (F j).natAbs ≤ LimN) (h3 : ∀ j, j < n → (G j).natAbs ≤ LimN) (L : ∀ W, Below B w W → Laid W) :
    Calls Tryz.prog 104 #[.slice (some ⟨b, off, none⟩) n c, .string (itx q), .slice (some ⟨b2, off2, none⟩) n c2] w fun e w' => PutP w w' B b off n (fun j => F j - q * G j) e := by
  have hq0 := itx_isz q
  have hsz := hF.lt
  have hBw : B ≤ w.heap.size := by omega
  have Hb : Hid (B ≤ b) := hB
  by_cases hz : q = 0
  · rw [decide_eq_true hz] at hq0
    have hE : ∀ j, j < n → F j = F j - q * G j := fun j _ => by rw [hz, Int.zero_mul, Int.sub_zero]
    have R := Lib.hid (hF.congr hE)
    clear hF hG h1 h2 h3 L hE hq hB hne
    generalize itx q = sq at *
    go_enter Tryz.func104, Tryz.ntmps104
    go_wp2_with fail
    refine bodyPost_ret (results_none rfl _ _ _) rfl ?_
    exact ⟨rfl, R.out, But.refl _ _, Below.refl _ _⟩
  · rw [decide_eq_false hz] at hq0
    have RF := Lib.hid hF
    have RG := Lib.hid hG
    have HM := Lib.hid (fun W (hW : Below B w W) j (hj : j < n) => mulz_any W q (G j) (lim_z hq) (lim_z (h3 j hj)) (lim_z (h1 j hj)) (L W hW))
    have HS := Lib.hid (fun W (hW : Below B w W) j (hj : j < n) => subz_any W (F j) (q * G j) (lim_z (h2 j hj)) (lim_z (h1 j hj)) (lim_num (Nat.add_le_add (h2 j hj) (h1 j hj))) (L W hW))
    have Hne := Lib.hid hne
    clear hF hG h1 h2 h3 L hq hz
    generalize itx q = sq at *
    go_enter Tryz.func104, Tryz.ntmps104
    go_wp2_with fail
    go_loopw [12] (fun z wr => ∃ t : Nat, t ≤ n ∧ z = .int .i64 t ∧ Hid (RowS wr b off n fun j => if j < t then F j - q * G j else F j) ∧ Hid (But b w wr) ∧ Hid (Below B w wr)) (fun z _ => n - (intOf z).toNat)
    case atStart => exact ⟨0, Nat.zero_le _, rfl, RF.out.congr (fun j _ => by rw [if_neg (Nat.not_lt_zero _)]), But.refl _ _, Below.refl _ _⟩
    case round =>
      obtain ⟨t, ht, rfl, R, U, D⟩ := hrel
      by_cases hlt : t < n
      · have hlt' : (t : Int) < n := by omega
        have k0 : wr.cell? ⟨b, off + t, none⟩ = some (.string (itx (F t))) := by
          have := R.out.c t hlt
          rwa [if_neg (Nat.lt_irrefl _)] at this
        have RG2 := RG.out.but U.out Hne.out
        have k1 := RG2.c t hlt
        have kf := R.out.f t hlt
        have HMt := Lib.hid (fun W hW => HM.out W hW t hlt)
        have HSt := Lib.hid (fun W hW => HS.out W hW t hlt)
        have Rs := Lib.hid (R.out.set t hlt (F t - q * G t))
        generalize hF1 : F t = x at *
        generalize hG1 : G t = y at *
        have HF1 := Lib.hid hF1
        have HG1 := Lib.hid hG1
        clear hF1 hG1 RG2
        have hbr := R.out.lt
        go_wp2_with fail
        have q0 := NWm.cell k0
        have hnon : Nonempty (NWm wr) := ⟨⟨wr, Below.refl _ _⟩⟩
        have I : Hid (Below wr.heap.size wr wr.drew) := (Below.refl _ _).drew
        have K0 := Lib.hid k0
        have Kf := Lib.hid kf
        clear k0 k1 kf
        refine RW.wp_region_readers 11 [(1,0),(1,1),(1,2),(1,3),(1,4),(1,5),(1,6),(1,7),(0,8),(0,9),(0,10),(0,11)] (fun w' => ∃ p : NWm wr, w' = p.w) (by kernel_rfl) (by kernel_rfl) ?_ ?_
        · exact ⟨⟨_, I.out⟩, rfl⟩
        iterate 8 (refine RW.walkR_read ?_; simp only [List.drop_succ_cons, List.drop_zero, List.take_succ_cons, List.take_zero]; go_big_quiet_step (fail); refine wpQuiet_nil ?_)
        clear hnon q0
        refine RW.walkR_move ?_
        simp only [List.drop_succ_cons, List.drop_zero, List.take_succ_cons, List.take_zero]
        go_wp2_with fail
        refine Calls.mono (HMt.out _ (D.out.trans (I.out.mono (Nat.le_trans hBw U.out.sz)))) ?_
        rintro e w1 ⟨rfl, hbx⟩
        have I1 : Hid (Below wr.heap.size wr w1) := I.out.trans (hbx.mono I.out.size)
        clear hbx I HMt
        go_wp2_with fail
        refine ⟨⟨⟨_, I1.out⟩, rfl⟩, ?_⟩
        refine RW.walkR_move ?_
        simp only [List.drop_succ_cons, List.drop_zero, List.take_succ_cons, List.take_zero]
        go_wp2_with fail
        refine Calls.mono (HSt.out _ (D.out.trans (I1.out.mono (Nat.le_trans hBw U.out.sz)))) ?_
        rintro e w2 ⟨rfl, hbx⟩
        have I2 : Hid (Below wr.heap.size wr w2) := I1.out.trans (hbx.mono I1.out.size)
        clear hbx I1 HSt
        have k2 : w2.cell? ⟨b, off + t, none⟩ = some (.string (itx x)) := (I2.out.cell (p := ⟨b, off + t, none⟩) hbr).trans K0.out
        have kf2 : w2.frozen? ⟨b, off + t, none⟩ = false := (I2.out.frozen (p := ⟨b, off + t, none⟩) hbr).trans Kf.out
        go_wp2_with fail
        refine ⟨⟨⟨_, I2.out⟩, rfl⟩, ?_⟩
        refine RW.walkR_move ?_
        simp only [List.drop_succ_cons, List.drop_zero, List.take_succ_cons, List.take_zero]
        go_wp2_with fail
        refine ⟨⟨⟨_, I2.out⟩, rfl⟩, ?_⟩
        refine RW.walkR_move ?_
        simp only [List.drop_succ_cons, List.drop_zero, List.take_succ_cons, List.take_zero]
        go_wp2_with fail
        simp only [RW.walkR]
        go_wp2_with fail
        go_roundw
        case rel =>
          refine ⟨t + 1, by omega, by go_num, ?_, ?_, ?_⟩
          · have h4 := (R.out.below I2.out (Nat.le_refl _)).set t hlt (x - q * y)
            refine h4.congr fun j hj => ?_
            by_cases e1 : j = t
            · rw [if_pos e1, if_pos (by omega), e1, HF1.out, HG1.out]
            · rw [if_neg e1]
              by_cases e2 : j < t
              · rw [if_pos e2, if_pos (by omega)]
              · rw [if_neg e2, if_neg (by omega)]
          · exact (U.out.below I2.out (Nat.le_refl _)).set _ _
          · exact (D.out.trans (I2.out.mono (Nat.le_trans hBw U.out.sz))).setCell (p := ⟨b, off + t, none⟩) Hb.out _
        case measure => simp [intOf]; omega
      · have hlt' : ¬ (t : Int) < n := by omega
        go_wp2
        go_end0
        exact ⟨rfl, R.out.congr (fun j hj => by rw [if_pos (by omega)]), U.out, D.out⟩

theorem negate_any (w : World) (B b off c n : Nat) (F : Nat → Int) (hF : RowS w b off n F) (hB : B ≤ b) (hn : n ≤ 1000) (h2 : ∀ j, j < n → (F j).natAbs ≤ LimN) :
    Calls Tryz.prog 106 #[.slice (some ⟨b, off, none⟩) n c] w fun e w' => PutP w w' B b off n (fun j => -(F j)) e := by
  have hsz := hF.lt
  have hBw : B ≤ w.heap.size := by omega
  have Hb : Hid (B ≤ b) := hB
  have RF := Lib.hid hF
  have HN := Lib.hid (fun W j (hj : j < n) => neg_any W (F j) (lim_z (h2 j hj)))
  clear hF h2
  go_enter Tryz.func106, Tryz.ntmps106
  go_wp2_with fail
  go_loopw [6] (fun z wr => ∃ t : Nat, t ≤ n ∧ z = .int .i64 t ∧ Hid (RowS wr b off n fun j => if j < t then -(F j) else F j) ∧ Hid (But b w wr) ∧ Hid (Below B w wr)) (fun z _ => n - (intOf z).toNat)
  case atStart => exact ⟨0, Nat.zero_le _, rfl, RF.out.congr (fun j _ => by rw [if_neg (Nat.not_lt_zero _)]), But.refl _ _, Below.refl _ _⟩
  case round =>
    obtain ⟨t, ht, rfl, R, U, D⟩ := hrel
    by_cases hlt : t < n
    · have hlt' : (t : Int) < n := by omega
      have k0 : wr.cell? ⟨b, off + t, none⟩ = some (.string (itx (F t))) := by
        have := R.out.c t hlt
        rwa [if_neg (Nat.lt_irrefl _)] at this
      have kf := R.out.f t hlt
      have HNt := Lib.hid (fun W => HN.out W t hlt)
      generalize hF1 : F t = x at *
      have HF1 := Lib.hid hF1
      clear hF1
      have hbr := R.out.lt
      have K0 := Lib.hid k0
      have Kf := Lib.hid kf
      clear kf
      go_wp2_with fail
      refine Calls.mono (HNt.out _) ?_
      rintro e w2 ⟨rfl, hbx⟩
      have I2 := Lib.hid hbx
      clear hbx HNt k0
      have k2 : w2.cell? ⟨b, off + t, none⟩ = some (.string (itx x)) := (I2.out.cell (p := ⟨b, off + t, none⟩) hbr).trans K0.out
      have kf2 : w2.frozen? ⟨b, off + t, none⟩ = false := (I2.out.frozen (p := ⟨b, off + t, none⟩) hbr).trans Kf.out
      go_wp2_with fail
      go_roundw
      case rel =>
        refine ⟨t + 1, by omega, by go_num, ?_, ?_, ?_⟩
        · have h4 := (R.out.below I2.out (Nat.le_refl _)).set t hlt (-x)
          refine h4.congr fun j hj => ?_
          by_cases e1 : j = t
          · rw [if_pos e1, if_pos (by omega), e1, HF1.out]
          · rw [if_neg e1]
            by_cases e2 : j < t
            · rw [if_pos e2, if_pos (by omega)]
            · rw [if_neg e2, if_neg (by omega)]
        · exact (U.out.below I2.out (Nat.le_refl _)).set _ _
        · exact (D.out.trans (I2.out.mono (Nat.le_trans hBw U.out.sz))).setCell (p := ⟨b, off + t, none⟩) Hb.out _
      case measure => simp [intOf]; omega
    · have hlt' : ¬ (t : Int) < n := by omega
      go_wp2
      go_end0
      exact ⟨rfl, R.out.congr (fun j hj => by rw [if_pos (by omega)]), U.out, D.out⟩

theorem lead1_any (w : World) (x : Int) : Gives Tryz.prog 140 #[.string (itx x)] w (.bool (decide (x ≠ 0))) := by
  unfold Gives
  have hz := itx_isz x
  by_cases h : x = 0
  · rw [decide_eq_true h] at hz
    have Hv : Hid (decide (x ≠ 0) = false) := decide_eq_false (fun h2 => h2 h)
    clear h
    generalize itx x = s at *
    go_enter Tryz.func140, Tryz.ntmps140
    go_wp2
    go_ret
    exact ⟨by rw [Hv.out]; rfl, Below.refl _ _⟩
  · rw [decide_eq_false h] at hz
    have Hv : Hid (decide (x ≠ 0) = true) := decide_eq_true h
    clear h
    generalize itx x = s at *
    go_enter Tryz.func140, Tryz.ntmps140
    go_wp2
    go_ret
    exact ⟨by rw [Hv.out]; rfl, Below.refl _ _⟩

/-- The index of the first number that is not 0, or -1. -/
def LeadP (F : Nat → Int) (n : Nat) (r : Int) : Prop := (r = -1 ∧ ∀ j, j < n → F j = 0) ∨ ∃ k : Nat, k < n ∧ r = k ∧ F k ≠ 0 ∧ ∀ j, j < k → F j = 0
def LeadE (w w' : World) (F : Nat → Int) (n : Nat) (e : Ending) : Prop := (∃ r : Int, e = .returned (.int .i64 r) ∧ LeadP F n r) ∧ Below w.heap.size w w'

theorem index_lead (w : World) (b off c n : Nat) (F : Nat → Int) (hF : RowS w b off n F) (hn : n ≤ 1000) :
    Calls Tryz.prog 139 #[.slice (some ⟨b, off, none⟩) n c, .func (.func 140) #[] #[]] w fun e w' => LeadE w w' F n e := by
  have RF := Lib.hid hF
  clear hF
  go_enter Tryz.func139, Tryz.ntmps139
  go_wp2_with fail
  go_loopw [8] (fun z wr => ∃ t : Nat, t ≤ n ∧ z = .int .i64 t ∧ Hid (∀ j, j < t → F j = 0) ∧ Hid (Below w.heap.size w wr)) (fun z _ => n - (intOf z).toNat)
  case atStart => exact ⟨0, Nat.zero_le _, rfl, fun j hj => absurd hj (Nat.not_lt_zero _), Below.refl _ _⟩
  case round =>
    obtain ⟨t, ht, rfl, Z, D⟩ := hrel
    by_cases hlt : t < n
    · have hlt' : (t : Int) < n := by omega
      have k0 := (RF.out.below D.out (Nat.le_refl _)).c t hlt
      have H1 := Lib.hid (fun W => lead1_any W (F t))
      by_cases hz : F t = 0
      · have Hz := Lib.hid hz
        rw [decide_eq_false (fun h => h hz)] at H1
        clear hz
        generalize itx (F t) = s at *
        go_wp2_with fail
        refine Calls.mono (H1.out _) ?_
        rintro e w1 ⟨rfl, hb⟩
        have D1 := Lib.hid (D.out.trans (hb.mono D.out.size))
        clear hb H1 D k0
        go_wp2_with fail
        go_roundw
        case rel =>
          refine ⟨t + 1, by omega, by go_num, fun j hj => ?_, D1⟩
          rcases Nat.lt_or_ge j t with h | h
          · exact Z.out j h
          · obtain rfl : j = t := by omega
            exact Hz.out
        case measure => simp [intOf]; omega
      · have Hz := Lib.hid hz
        rw [decide_eq_true hz] at H1
        clear hz
        generalize itx (F t) = s at *
        go_wp2_with fail
        refine Calls.mono (H1.out _) ?_
        rintro e w1 ⟨rfl, hb⟩
        have D1 := Lib.hid (D.out.trans (hb.mono D.out.size))
        clear hb H1 D k0
        go_wp2_with fail
        go_ret
        exact ⟨⟨_, rfl, .inr ⟨t, hlt, rfl, Hz.out, Z.out⟩⟩, D1.out⟩
    · have hlt' : ¬ (t : Int) < n := by omega
      go_wp2_with fail
      go_ret
      exact ⟨⟨_, rfl, .inl ⟨rfl, fun j hj => Z.out j (by omega)⟩⟩, D.out⟩

theorem lead_any (w : World) (b off c n : Nat) (F : Nat → Int) (hF : RowS w b off n F) (hn : n ≤ 1000) :
    Calls Tryz.prog 107 #[.slice (some ⟨b, off, none⟩) n c] w fun e w' => LeadE w w' F n e := by
  have H := Lib.hid (index_lead w b off c n F hF hn)
  clear hF
  go_enter Tryz.func107, Tryz.ntmps107
  go_wp2_with fail
  refine Calls.mono H.out ?_
  rintro e w1 ⟨⟨r, rfl, hr⟩, hb⟩
  have B1 := Lib.hid hb
  have R := Lib.hid hr
  clear hb hr H
  go_wp2_with fail
  go_ret
  exact ⟨⟨r, rfl, R.out⟩, B1.out⟩

end Go.Proofs.YtepicfdhphiiaaaGreatDoor

/- lattice.longs.form: what it leaves, over any engine. -/
namespace Go.Proofs.YtepicfdhphiiaaaGreatDoor
open Go.RowKit

/-- What form leaves. -/
def FormE (w w' : World) (B g mm n cap : Nat) (I0 : Nat → Nat → List (List Int) → Prop) (e : Ending) : Prop :=
  ∃ (d c : Nat) (R : List (List Int)) (K : Nat → Nat × Nat × Nat), e = .returned (.slice (some ⟨g, 0, none⟩) d cap) ∧ MatS w' B g mm n K (ent R) ∧ I0 d c R ∧ (c = n ∨ d = mm) ∧ d ≤ mm ∧ Below B w w'

theorem LeastA.more {R : List (List Int)} {t d c a : Nat} (h : LeastA R t d c a) (hz : ent R t c ≠ 0 → (ent R a c).natAbs ≤ (ent R t c).natAbs) : LeastA R (t + 1) d c a :=
  ⟨h.lo, Nat.lt_succ_of_lt h.hi, h.nz, fun i h1 h2 h3 => by
    by_cases e : i = t
    · subst e; exact hz h3
    · exact h.le i h1 (by omega) h3⟩
theorem LeastA.here {R : List (List Int)} {t d c a : Nat} (h : LeastA R t d c a) (hd : d ≤ t) (hn : ent R t c ≠ 0) (hz : (ent R t c).natAbs < (ent R a c).natAbs) : LeastA R (t + 1) d c t :=
  ⟨hd, Nat.lt_succ_self t, hn, fun i h1 h2 h3 => by
    by_cases e : i = t
    · subst e; exact Nat.le_refl _
    · have := h.le i h1 (by omega) h3; omega⟩
theorem LeastA.first {R : List (List Int)} {t d c : Nat} (hd : d ≤ t) (hn : ent R t c ≠ 0) (hz : ∀ i, d ≤ i → i < t → ent R i c = 0) : LeastA R (t + 1) d c t :=
  ⟨hd, Nat.lt_succ_self t, hn, fun i h1 h2 h3 => by
    by_cases e : i = t
    · subst e; exact Nat.le_refl _
    · exact absurd (hz i h1 (by omega)) h3⟩
theorem form_any (w : World) (B g mm n cap : Nat) (K0 : Nat → Nat × Nat × Nat) (R0 : List (List Int)) (I0 : Nat → Nat → List (List Int) → Prop) (I1 : Nat → Nat → Nat → List (List Int) → Prop) (E : Eng n mm LimN I0 I1) (h0 : I0 0 0 R0) (hM : MatS w B g mm n K0 (ent R0))
    (hm1 : mm ≤ 100) (hn : n ≤ 100) (hcap : mm ≤ cap) (L : ∀ W, Below B w W → Laid W) :
    Calls Tryz.prog 65 #[.slice (some ⟨g, 0, none⟩) mm cap, .int .i64 n] w fun e w' => FormE w w' B g mm n cap I0 e := by
  have hBw : B ≤ w.heap.size := by have := hM.glo; have := hM.glt; omega
  have EE := Lib.hid E
  have HM := Lib.hid hM
  have H0 := Lib.hid h0
  have HL := Lib.hid L
  have Hcap := Lib.hid hcap
  have Hm1 := Lib.hid hm1
  clear E hM h0 L
  go_enter Tryz.func65, Tryz.ntmps65
  go_wp2_with fail
  go_loopw [5, 6] (fun dz cz wr => ∃ (d c : Nat) (R : List (List Int)) (K : Nat → Nat × Nat × Nat), dz = .int .i64 d ∧ cz = .int .i64 c ∧ d ≤ mm ∧ c ≤ n ∧ Hid (I0 d c R) ∧ Hid (MatS wr B g mm n K (ent R)) ∧ Hid (Below B w wr)) (fun _ cz _ => n - (intOf cz).toNat)
  case atStart => exact ⟨0, 0, R0, K0, rfl, rfl, Nat.zero_le _, Nat.zero_le _, H0, HM, Below.refl _ _⟩
  case round =>
    clear H0 HM
    obtain ⟨d, c, R, K, rfl, rfl, hd, hc, J, M, D⟩ := hrel
    by_cases hcn : c < n
    · have hcnt : decide (c < n) = true := decide_eq_true hcn
      by_cases hdm : d < mm
      · have hdmt : decide (d < mm) = true := decide_eq_true hdm
        obtain ⟨f0, J1⟩ : ∃ f, Hid (I1 f d c R) := EE.out.into J.out hdm hcn
        clear J
        go_wp2_with fail
        go_loopg [5] f0 (fun f dz wx => dz = .int .i64 d ∧ ∃ R K, Hid (I1 f d c R) ∧ Hid (MatS wx B g mm n K (ent R)) ∧ Hid (Below B w wx))
        case atStart => exact ⟨rfl, R, K, J1, M, D⟩
        case round =>
          clear J1 M D R K
          obtain ⟨w0, rfl⟩ : ∃ x, x = wr := ⟨_, rfl⟩
          obtain ⟨f, rfl⟩ : ∃ x, x = gk := ⟨_, rfl⟩
          obtain ⟨rfl, R, K, J, M, D⟩ := hrel
          go_wp2_with fail
          go_loopw [7, 8] (fun az iz wx => ∃ t : Nat, d ≤ t ∧ t ≤ mm ∧ iz = .int .i64 t ∧ ((az = .int .i64 (-1) ∧ Hid (∀ i, d ≤ i → i < t → ent R i c = 0)) ∨ ∃ a : Nat, az = .int .i64 a ∧ Hid (LeastA R t d c a)) ∧ Hid (Below w0.heap.size w0 wx)) (fun _ iz _ => mm - (intOf iz).toNat)
          case atStart => exact ⟨d, Nat.le_refl _, hd, rfl, .inl ⟨rfl, fun i h1 h2 => absurd h1 (by omega)⟩, Below.refl _ _⟩
          case round =>
            obtain ⟨t, ht1, ht2, rfl, hat, D3⟩ := hrel
            by_cases hlt : t < mm
            · have hltt : decide (t < mm) = true := decide_eq_true hlt
              have hlt' : (t : Int) < mm := by omega
              have hcn' : (c : Int) < n := by omega
              have MW := Lib.hid (M.out.below D3.out (Nat.le_refl _))
              have k1 := MW.out.out t hlt
              have k2 := (MW.out.row t hlt).c c hcn
              have hq := itx_isz (ent R t c)
              have HA1 := Lib.hid (fun W => abs_any W (ent R t c))
              have HZ1 : Hid (ZNum (ent R t c)) := lim_z ((EE.out.at1 J.out).2.2.2.2 t hlt c hcn)
              obtain ⟨x, hx⟩ : ∃ x, x = ent R t c := ⟨_, rfl⟩
              have Hx := Lib.hid hx
              rw [← hx] at k2 hq HA1 HZ1
              clear hx
              rcases hat with ⟨rfl, Z⟩ | ⟨a, rfl, LA⟩
              · by_cases hz : x = 0
                · rw [decide_eq_true hz] at hq
                  have Hz := Lib.hid hz
                  clear hz
                  generalize itx x = s at *
                  go_wp2_with fail
                  go_quiet (fail)
                  go_wp2_with fail
                  go_roundw
                  case rel =>
                    refine ⟨t + 1, by omega, by omega, by go_num, .inl ⟨rfl, fun i h1 h2 => ?_⟩, below_dn D3.out _⟩
                    by_cases e : i = t
                    · rw [e, ← Hx.out, Hz.out]
                    · exact Z.out i h1 (by omega)
                  case measure => simp [intOf]; omega
                · rw [decide_eq_false hz] at hq
                  have Hz := Lib.hid hz
                  clear hz
                  generalize itx x = s at *
                  go_wp2_with fail
                  go_quiet (fail)
                  go_wp2_with fail
                  go_roundw
                  case rel => exact ⟨t + 1, by omega, by omega, by go_num, .inr ⟨t, rfl, .first ht1 (by rw [← Hx.out]; exact Hz.out) Z.out⟩, below_dn D3.out _⟩
                  case measure => simp [intOf]; omega
              · have ha1 := LA.out.hi
                have ham : a < mm := by omega
                have ha' : (a : Int) < mm := by omega
                have hneg : decide ((a : Int) < 0) = false := decide_eq_false (by omega)
                by_cases hz : x = 0
                · rw [decide_eq_true hz] at hq
                  have Hz := Lib.hid hz
                  clear hz
                  generalize itx x = s at *
                  go_wp2_with fail
                  go_quiet (fail)
                  go_wp2_with fail
                  go_roundw
                  case rel => exact ⟨t + 1, by omega, by omega, by go_num, .inr ⟨a, rfl, LA.out.more (fun h => absurd (by rw [← Hx.out]; exact Hz.out) h)⟩, below_dn D3.out _⟩
                  case measure => simp [intOf]; omega
                · rw [decide_eq_false hz] at hq
                  have Hz := Lib.hid hz
                  have k3 := MW.out.out a ham
                  have k4 := (MW.out.row a ham).c c hcn
                  have HA2 := Lib.hid (fun W => abs_any W (ent R a c))
                  have HZ2 : Hid (ZNum (ent R a c)) := lim_z ((EE.out.at1 J.out).2.2.2.2 a ham c hcn)
                  have HC : Hid (∃ cv : Int, (cv < 0 ↔ x.natAbs < (ent R a c).natAbs) ∧ ∀ W, Gives Tryz.prog 101 #[.string (dec x.natAbs), .string (dec (ent R a c).natAbs)] W (.int .i64 cv)) := by
                    refine ⟨cmpZ (x.natAbs : Int) ((ent R a c).natAbs : Int), ?_, fun W => ?_⟩
                    · unfold cmpZ
                      by_cases h : (x.natAbs : Int) < ((ent R a c).natAbs : Int)
                      · rw [if_pos h]; exact ⟨fun _ => by omega, fun _ => by omega⟩
                      · rw [if_neg h]
                        refine ⟨fun h2 => ?_, fun h2 => absurd h2 (by omega)⟩
                        split at h2 <;> omega
                    · have := comparez_any W (x.natAbs : Int) ((ent R a c).natAbs : Int) HZ1.out HZ2.out
                      rw [itx_nat, itx_nat] at this
                      exact this
                  obtain ⟨cv, hcv, hC⟩ := HC.out
                  have HCv := Lib.hid hcv
                  have HC2 := Lib.hid hC
                  clear hz HC hcv hC
                  obtain ⟨y, hy⟩ : ∃ y, y = ent R a c := ⟨_, rfl⟩
                  have Hy := Lib.hid hy
                  rw [← hy] at k4 HA2 HCv HC2
                  clear hy HZ1 HZ2
                  generalize hsx : dec x.natAbs = sx at *
                  generalize hsy : dec y.natAbs = sy at *
                  clear hsx hsy
                  generalize itx x = s at *
                  generalize itx y = s' at *
                  have q1 := NWm.cell k1
                  have q2 := NWm.cell k2
                  have q3 := NWm.cell k3
                  have q4 := NWm.cell k4
                  have hnon : Nonempty (NWm wr) := ⟨⟨wr, Below.refl _ _⟩⟩
                  have I : Hid (Below wr.heap.size wr wr.drew) := (Below.refl _ _).drew
                  have D3d := Lib.hid (D3.out)
                  go_wp2_with fail
                  clear k1 k2 k3 k4 D3
                  refine RW.wp_region_readers 28 [(2,0),(2,1),(2,2),(1,3),(2,4),(2,5),(1,6),(2,7),(2,8),(2,9),(2,10),(2,11),(2,12),(2,13),(2,14),(1,15),(2,16),(2,17),(1,18),(2,20),(2,21),(2,22),(1,23),(2,24),(2,25),(1,26),(0,19),(0,27),(0,28),(2,29),(2,30),(2,31)] (fun w' => ∃ p : NWm wr, w' = p.w) (by kernel_rfl) (by kernel_rfl) ?_ ?_
                  · exact ⟨⟨_, I.out⟩, rfl⟩
                  iterate 26 ((first | refine RW.walkR_any ?_ | refine RW.walkR_read ?_); simp only [List.drop_succ_cons, List.drop_zero, List.take_succ_cons, List.take_zero]; go_big_quiet_step (fail); refine wpQuiet_nil ?_)
                  clear hnon q1 q2 q3 q4
                  refine RW.walkR_move ?_
                  simp only [List.drop_succ_cons, List.drop_zero, List.take_succ_cons, List.take_zero]
                  go_wp2_with fail
                  refine Calls.mono (HA1.out _) ?_
                  rintro e w1 ⟨rfl, hbx⟩
                  have I1x : Hid (Below wr.heap.size wr w1) := I.out.trans (hbx.mono I.out.size)
                  clear hbx I HA1
                  go_wp2_with fail
                  refine ⟨⟨⟨_, I1x.out⟩, rfl⟩, ?_⟩
                  refine RW.walkR_move ?_
                  simp only [List.drop_succ_cons, List.drop_zero, List.take_succ_cons, List.take_zero]
                  go_wp2_with fail
                  refine Calls.mono (HA2.out _) ?_
                  rintro e w2 ⟨rfl, hbx⟩
                  have I2x : Hid (Below wr.heap.size wr w2) := I1x.out.trans (hbx.mono I1x.out.size)
                  clear hbx I1x HA2
                  go_wp2_with fail
                  refine ⟨⟨⟨_, I2x.out⟩, rfl⟩, ?_⟩
                  refine RW.walkR_move ?_
                  simp only [List.drop_succ_cons, List.drop_zero, List.take_succ_cons, List.take_zero]
                  go_wp2_with fail
                  refine Calls.mono (HC2.out _) ?_
                  rintro e w3 ⟨rfl, hbx⟩
                  have D4 : Hid (Below w0.heap.size w0 w3) := D3d.out.trans ((I2x.out.trans (hbx.mono I2x.out.size)).mono D3d.out.size)
                  clear hbx I2x HC2 D3d
                  by_cases hlx : cv < 0
                  · have Hl := Lib.hid (HCv.out.1 hlx)
                    have hct : decide (cv < 0) = true := decide_eq_true hlx
                    go_wp2_with fail
                    iterate 3 ((first | refine RW.walkR_any ?_ | refine RW.walkR_read ?_); simp only [List.drop_succ_cons, List.drop_zero, List.take_succ_cons, List.take_zero]; go_big_quiet_step (fail); refine wpQuiet_nil ?_)
                    simp only [RW.walkR]
                    go_wp2_with fail
                    go_roundw
                    case rel => exact ⟨t + 1, by omega, by omega, by go_num, .inr ⟨t, rfl, LA.out.here ht1 (by rw [← Hx.out]; exact Hz.out) (by rw [← Hx.out, ← Hy.out]; exact Hl.out)⟩, D4⟩
                    case measure => simp [intOf]; omega
                  · have Hl : Hid (y.natAbs ≤ x.natAbs) := Nat.not_lt.1 fun h => hlx (HCv.out.2 h)
                    have hct : decide (cv < 0) = false := decide_eq_false hlx
                    go_wp2_with fail
                    iterate 3 ((first | refine RW.walkR_any ?_ | refine RW.walkR_read ?_); simp only [List.drop_succ_cons, List.drop_zero, List.take_succ_cons, List.take_zero]; go_big_quiet_step (fail); refine wpQuiet_nil ?_)
                    simp only [RW.walkR]
                    go_wp2_with fail
                    go_roundw
                    case rel => exact ⟨t + 1, by omega, by omega, by go_num, .inr ⟨a, rfl, LA.out.more (fun _ => by rw [← Hx.out, ← Hy.out]; exact Hl.out)⟩, D4⟩
                    case measure => simp [intOf]; omega
            · have hltt : decide (t < mm) = false := decide_eq_false hlt
              obtain rfl : mm = t := by omega
              have Mx := Lib.hid (M.out.below D3.out (Nat.le_refl _))
              have Dx := Lib.hid (D.out.trans (D3.out.mono (Nat.le_trans hBw D.out.size)))
              clear M D D3
              rcases hat with ⟨rfl, Z⟩ | ⟨a, rfl, LA⟩
              · go_wp2_with fail
                go_roundw
                case rel => exact ⟨d, c + 1, R, K, rfl, by go_num, hd, by omega, EE.out.none J.out Z.out, Mx, Dx⟩
                case measure => simp [intOf]; omega
              · have ha1 := LA.out.hi
                have ha0 := LA.out.lo
                have ha' : (a : Int) < mm := by omega
                have hd' : (d : Int) < mm := by omega
                have hneg : decide ((a : Int) < 0) = false := decide_eq_false (by omega)
                obtain ⟨wx, rfl⟩ : ∃ x, x = wr := ⟨_, rfl⟩
                have k1 := Mx.out.out d hdm
                have k3 := Mx.out.out a ha1
                have f1 := Mx.out.outf d hdm
                have f3 := Mx.out.outf a ha1
                have MS := Mx.out.swap hdm ha1
                have MS2 : Hid (MatS ((wx.setCell ⟨g, d, none⟩ (.slice (some ⟨(K a).1, (K a).2.1, none⟩) n (K a).2.2)).setCell ⟨g, a, none⟩ (.slice (some ⟨(K d).1, (K d).2.1, none⟩) n (K d).2.2)).drew B g mm n (fun i => K (if i = d then a else if i = a then d else i)) (ent (swapL R d a))) := (MS.congr fun i hi j hj => by rw [swapL_ent R d a (by rw [(EE.out.at1 J.out).1]; exact hi)]).below (Below.refl _ _).drew (Nat.le_refl _)
                clear MS
                have DS := Lib.hid (((Dx.out.setCell (p := ⟨g, d, none⟩) Mx.out.glo (.slice (some ⟨(K a).1, (K a).2.1, none⟩) n (K a).2.2)).setCell (p := ⟨g, a, none⟩) Mx.out.glo (.slice (some ⟨(K d).1, (K d).2.1, none⟩) n (K d).2.2)).drew)
                have q1 := NWm.cell k1
                have q3 := NWm.cell k3
                obtain ⟨xv, kx⟩ : ∃ xv, (wx.setCell ⟨g, d, none⟩ (.slice (some ⟨(K a).1, (K a).2.1, none⟩) n (K a).2.2)).cell? ⟨g, a, none⟩ = some xv := by
                  by_cases e : a = d
                  · rw [e]; exact ⟨_, World.cell?_setCell_same _ _ _ k1⟩
                  · exact ⟨_, (World.cell?_setCell_other _ _ _ _ (fun e2 => e (congrArg Addr.off e2).symm)).trans k3⟩
                have K1 := Lib.hid k1
                have KX := Lib.hid kx
                have hnon : Nonempty (NWm wx) := ⟨⟨wx, Below.refl _ _⟩⟩
                have I : Hid (Below wx.heap.size wx wx.drew) := (Below.refl _ _).drew
                clear k1 k3 kx
                generalize hKd1 : (K d).1 = kd1 at *
                generalize hKd2 : (K d).2.1 = kd2 at *
                generalize hKd3 : (K d).2.2 = kd3 at *
                generalize hKa1 : (K a).1 = ka1 at *
                generalize hKa2 : (K a).2.1 = ka2 at *
                generalize hKa3 : (K a).2.2 = ka3 at *
                clear hKd1 hKd2 hKd3 hKa1 hKa2 hKa3
                go_wp2_with fail
                refine RW.wp_region_readers 13 [(2,0),(2,1),(2,2),(2,3),(2,4),(2,5),(2,6),(1,7),(2,8),(2,9),(2,10),(1,11),(2,12),(0,13),(2,14),(0,15)] (fun w' => ∃ p : NWm wx, w' = p.w) (by kernel_rfl) (by kernel_rfl) ?_ ?_
                · exact ⟨⟨_, I.out⟩, rfl⟩
                iterate 13 ((first | refine RW.walkR_any ?_ | refine RW.walkR_read ?_); simp only [List.drop_succ_cons, List.drop_zero, List.take_succ_cons, List.take_zero]; go_big_quiet_step (fail); refine wpQuiet_nil ?_)
                clear hnon q1 q3
                have k1 := K1.out
                have kx := KX.out
                refine RW.walkR_move ?_
                simp only [List.drop_succ_cons, List.drop_zero, List.take_succ_cons, List.take_zero]
                go_wp2_with fail
                iterate 1 ((first | refine RW.walkR_any ?_ | refine RW.walkR_read ?_); simp only [List.drop_succ_cons, List.drop_zero, List.take_succ_cons, List.take_zero]; go_big_quiet_step (fail); refine wpQuiet_nil ?_)
                refine RW.walkR_move ?_
                simp only [List.drop_succ_cons, List.drop_zero, List.take_succ_cons, List.take_zero]
                go_wp2_with fail
                simp only [RW.walkR]
                clear k1 kx K1 KX f1 f3
                generalize ((wx.setCell ⟨g, d, none⟩ (.slice (some ⟨ka1, ka2, none⟩) n ka3)).setCell ⟨g, a, none⟩ (.slice (some ⟨kd1, kd2, none⟩) n kd3)).drew = w4 at *
                obtain ⟨K2, M4⟩ : ∃ K2, Hid (MatS w4 B g mm n K2 (ent (swapL R d a))) := ⟨_, MS2⟩
                clear MS2 I Mx Dx
                go_wp2_with fail
                have LQ := Lib.hid (EE.out.num J.out LA.out)
                have LM := Lib.hid (@Eng.more _ _ _ _ _ EE.out f d c R a J.out LA.out)
                have LN2 := Lib.hid (fun R2 R3 => @Eng.num2 _ _ _ _ _ EE.out f d c R a R2 R3 J.out LA.out)
                have LX := Lib.hid (fun R2 R3 => @Eng.next _ _ _ _ _ EE.out f d c R a R2 R3 J.out LA.out)
                have HlimA : Hid (∀ i, i < mm → ∀ j, j < n → (ent (swapL R d a) i j).natAbs ≤ LimN) := fun i hi j hj => by
                  rw [swapL_ent R d a (by rw [(EE.out.at1 J.out).1]; exact hi)]
                  exact (EE.out.at1 J.out).2.2.2.2 _ (swap_lt hdm ha1 hi) j hj
                have HrecA : Hid (Rect n (swapL R d a)) := swapL_rect (EE.out.at1 J.out).2.1 (by rw [(EE.out.at1 J.out).1]; exact hdm) (by rw [(EE.out.at1 J.out).1]; exact ha1)
                have HlenA : Hid ((swapL R d a).length = mm) := by show _ = _; rw [swapL_length]; exact (EE.out.at1 J.out).1
                have HpA : Hid (ent (swapL R d a) d c ≠ 0) := by
                  show _ ≠ _
                  rw [(least_swap (EE.out.at1 J.out).1 LA.out).1]; exact LA.out.nz
                clear J LA ha1 ha0 ha' hneg
                generalize swapL R d a = RA at *
                have HE1 : Hid (∀ i, i ≤ d → i < mm → ∀ j, ent (elimL RA d (rouQ RA d c)) i j = ent RA i j) := fun i h1 h2 j => by
                  rw [elimL_ent HrecA.out (by rw [HlenA.out]; exact hdm) _ (by rw [HlenA.out]; exact h2), rouQ_zero _ _ _ _ h1]; omega
                have HE2 : Hid (∀ i, d < i → i < mm → ∀ j, ent (elimL RA d (rouQ RA d c)) i j = ent RA i j - Int.fdiv (ent RA i c) (ent RA d c) * ent RA d j) := fun i h1 h2 j => by
                  rw [elimL_ent HrecA.out (by rw [HlenA.out]; exact hdm) _ (by rw [HlenA.out]; exact h2)]
                  unfold rouQ
                  rw [if_pos h1]
                have HE3 : Hid (∀ i, d < i → i < mm → ent (elimL RA d (rouQ RA d c)) i c = Int.fmod (ent RA i c) (ent RA d c)) := (col_after HrecA.out HlenA.out hdm).1
                have HQ : Hid (∀ i, d < i → i < mm → (Int.fdiv (ent RA i c) (ent RA d c)).natAbs ≤ LimN ∧ ∀ j, j < n → (Int.fdiv (ent RA i c) (ent RA d c) * ent RA d j).natAbs ≤ LimN ∧ (ent RA i j - Int.fdiv (ent RA i c) (ent RA d c) * ent RA d j).natAbs ≤ LimN) := fun i h1 h2 => by
                  have := LQ.out i h2 (by omega)
                  unfold rouQ at this
                  simp only [if_pos h1] at this
                  exact this
                have HrecB : Hid (Rect n (elimL RA d (rouQ RA d c))) := elimL_rect HrecA.out (by rw [HlenA.out]; exact hdm) _
                have HlenB : Hid ((elimL RA d (rouQ RA d c)).length = mm) := by show _ = _; rw [elimL_length]; exact HlenA.out
                clear LQ HrecA
                generalize elimL RA d (rouQ RA d c) = RB at *
                go_loopw [9, 10] (fun bz iz wx => ∃ (t : Nat) (b : Bool), d + 1 ≤ t ∧ t ≤ mm ∧ iz = .int .i64 t ∧ bz = .bool b ∧ Hid (b = true ↔ ∃ i, d < i ∧ i < t ∧ ent RB i c ≠ 0) ∧ Hid (MatS wx B g mm n K2 fun i j => if i < t then ent RB i j else ent RA i j) ∧ Hid (Below B w wx)) (fun _ iz _ => mm - (intOf iz).toNat)
                case atStart =>
                  refine ⟨d + 1, false, Nat.le_refl _, by omega, by go_num, rfl, ⟨fun h => by simp at h, fun ⟨i, h1, h2, _⟩ => absurd h1 (by omega)⟩, M4.out.congr fun i hi j hj => ?_, DS⟩
                  by_cases e : i < d + 1
                  · rw [if_pos e, HE1.out i (by omega) hi]
                  · rw [if_neg e]
                case round =>
                  clear M4 DS
                  obtain ⟨t, b, ht1, ht2, rfl, rfl, HB, M, D3⟩ := hrel
                  by_cases hlt : t < mm
                  · have hltt : decide (t < mm) = true := decide_eq_true hlt
                    have hlt' : (t : Int) < mm := by omega
                    have hcn' : (c : Int) < n := by omega
                    have MW := M
                    have HrT : Hid (∀ j, j < n → (if t < t then ent RB t j else ent RA t j) = ent RA t j) := fun j _ => if_neg (Nat.lt_irrefl _)
                    have HrD : Hid (∀ j, j < n → (if d < t then ent RB d j else ent RA d j) = ent RA d j) := fun j _ => by rw [if_pos (by omega), HE1.out d (Nat.le_refl _) hdm]
                    have HneD : Hid (t ≠ d) := by show _ ≠ _; omega
                    have k1 := MW.out.out t hlt
                    have k2 : wr.cell? ⟨(K2 t).1, (K2 t).2.1 + c, none⟩ = some (.string (itx (ent RA t c))) := ((MW.out.row t hlt).c c hcn).trans (by rw [HrT.out c hcn])
                    have k3 := MW.out.out d hdm
                    have k4 : wr.cell? ⟨(K2 d).1, (K2 d).2.1 + c, none⟩ = some (.string (itx (ent RA d c))) := ((MW.out.row d hdm).c c hcn).trans (by rw [HrD.out c hcn])
                    have HD := Lib.hid (fun W (hW : Below B w W) => divf_any W (ent RA t c) (ent RA d c) (lim_z (HlimA.out t hlt c hcn)) (lim_z (HlimA.out d hdm c hcn)) HpA.out (lim_num (by have := HlimA.out t hlt c hcn; have := lim_one; omega)) (HL.out W hW))
                    have HN := Lib.hid (HQ.out t (by omega) hlt)
                    have HF2 := Lib.hid (HE2.out t (by omega) hlt)
                    have HF3 := Lib.hid (HE3.out t (by omega) hlt)
                    have hrz := itx_isz (Int.fmod (ent RA t c) (ent RA d c))
                    rw [← HF3.out] at hrz HD
                    obtain ⟨QQ, hQQ⟩ : ∃ q, q = Int.fdiv (ent RA t c) (ent RA d c) := ⟨_, rfl⟩
                    rw [← hQQ] at HD HN HF2
                    clear hQQ HF3
                    obtain ⟨sq, hsq⟩ : ∃ s, s = itx QQ := ⟨_, rfl⟩
                    have Hqq : Hid (itx QQ = sq) := hsq.symm
                    rw [Hqq.out] at HD
                    clear hsq
                    obtain ⟨rz, hrzz⟩ : ∃ z, z = ent RB t c := ⟨_, rfl⟩
                    have Hrz := Lib.hid hrzz
                    rw [← hrzz] at hrz HD
                    clear hrzz
                    generalize itx (ent RA t c) = s at *
                    generalize itx (ent RA d c) = s' at *
                    generalize hsr : itx rz = sr at *
                    clear hsr
                    have q1 := NWm.cell k1
                    have q2 := NWm.cell k2
                    have q3 := NWm.cell k3
                    have q4 := NWm.cell k4
                    have hnon : Nonempty (NWm wr) := ⟨⟨wr, Below.refl _ _⟩⟩
                    have I : Hid (Below wr.heap.size wr wr.drew) := (Below.refl _ _).drew
                    go_wp2_with fail
                    clear k1 k2 k3 k4
                    refine RW.wp_region_readers 14 [(2,0),(2,1),(2,2),(1,3),(2,4),(2,5),(1,6),(2,7),(2,8),(2,9),(1,10),(2,11),(2,12),(1,13),(0,14),(2,15),(2,16),(2,17),(2,18),(0,19),(0,20),(0,21)] (fun w' => ∃ p : NWm wr, w' = p.w) (by kernel_rfl) (by kernel_rfl) ?_ ?_
                    · exact ⟨⟨_, I.out⟩, rfl⟩
                    iterate 14 ((first | refine RW.walkR_any ?_ | refine RW.walkR_read ?_); simp only [List.drop_succ_cons, List.drop_zero, List.take_succ_cons, List.take_zero]; go_big_quiet_step (fail); refine wpQuiet_nil ?_)
                    clear hnon q1 q2 q3 q4
                    refine RW.walkR_move ?_
                    simp only [List.drop_succ_cons, List.drop_zero, List.take_succ_cons, List.take_zero]
                    go_wp2_with fail
                    refine Calls.mono (HD.out _ (D3.out.trans (I.out.mono (Nat.le_trans hBw D3.out.size)))) ?_
                    rintro e w5 ⟨rfl, hbx⟩
                    have I5 : Hid (Below wr.heap.size wr w5) := I.out.trans (hbx.mono I.out.size)
                    clear hbx I HD
                    go_wp2_with fail
                    iterate 4 ((first | refine RW.walkR_any ?_ | refine RW.walkR_read ?_); simp only [List.drop_succ_cons, List.drop_zero, List.take_succ_cons, List.take_zero]; go_big_quiet_step (fail); refine wpQuiet_nil ?_)
                    refine RW.walkR_move ?_
                    simp only [List.drop_succ_cons, List.drop_zero, List.take_succ_cons, List.take_zero]
                    go_wp2_with fail
                    refine RW.walkR_move ?_
                    simp only [List.drop_succ_cons, List.drop_zero, List.take_succ_cons, List.take_zero]
                    go_wp2_with fail
                    refine RW.walkR_move ?_
                    simp only [List.drop_succ_cons, List.drop_zero, List.take_succ_cons, List.take_zero]
                    go_wp2_with fail
                    simp only [RW.walkR]
                    have D5 := Lib.hid (D3.out.trans (I5.out.mono (Nat.le_trans hBw D3.out.size)))
                    have M5 := Lib.hid (MW.out.below I5.out (Nat.le_refl _))
                    have hdL : d < mm := hdm
                    have k1 := M5.out.out t hlt
                    have k3 := M5.out.out d hdL
                    clear M D3 MW I5
                    have q1 := NWm.cell k1
                    have q3 := NWm.cell k3
                    have hnon : Nonempty (NWm w5) := ⟨⟨w5, Below.refl _ _⟩⟩
                    have I : Hid (Below w5.heap.size w5 w5.drew) := (Below.refl _ _).drew
                    go_wp2_with fail
                    clear k1 k3
                    refine RW.wp_region_readers 9 [(2,0),(2,1),(2,2),(1,3),(2,4),(2,5),(2,6),(2,7),(1,8),(0,9)] (fun w' => ∃ p : NWm w5, w' = p.w) (by kernel_rfl) (by kernel_rfl) ?_ ?_
                    · exact ⟨⟨_, I.out⟩, rfl⟩
                    iterate 9 ((first | refine RW.walkR_any ?_ | refine RW.walkR_read ?_); simp only [List.drop_succ_cons, List.drop_zero, List.take_succ_cons, List.take_zero]; go_big_quiet_step (fail); refine wpQuiet_nil ?_)
                    clear hnon q1 q3
                    have M6 := Lib.hid (M5.out.below I.out (Nat.le_refl _))
                    have D6 := Lib.hid (D5.out.trans (I.out.mono (Nat.le_trans hBw D5.out.size)))
                    have HLs := Lib.hid (less_any w5.drew B (K2 t).1 (K2 t).2.1 (K2 t).2.2 (K2 d).1 (K2 d).2.1 (K2 d).2.2 n QQ (ent RA t) (ent RA d) ((M6.out.row t hlt).congr HrT.out) ((M6.out.row d hdL).congr HrD.out) (fun e => HneD.out (M6.out.inj d t hdL hlt e).symm) (M6.out.lo t hlt).1 (by omega) (HN.out.1) (fun j hj => (HN.out.2 j hj).1) (HlimA.out t hlt) (HlimA.out d hdL) (fun W hW => HL.out W (D6.out.trans hW)))
                    rw [Hqq.out] at HLs
                    refine RW.walkR_move ?_
                    simp only [List.drop_succ_cons, List.drop_zero, List.take_succ_cons, List.take_zero]
                    go_wp2_with fail
                    refine Calls.mono HLs.out ?_
                    rintro e w7 ⟨rfl, hR7, hB7, hb7⟩
                    have M7 := Lib.hid (M6.out.put hlt hB7 hR7)
                    have D7 := Lib.hid (D6.out.trans hb7)
                    clear hR7 hB7 hb7 HLs M5 M6 D5 D6 I
                    go_wp2_with fail
                    simp only [RW.walkR]
                    have M8 : Hid (MatS w7 B g mm n K2 fun i j => if i < t + 1 then ent RB i j else ent RA i j) := M7.out.congr fun i hi j hj => by
                      by_cases e : i = t
                      · subst e
                        rw [if_pos rfl, if_pos (Nat.lt_succ_self _), HF2.out j]
                      · rw [if_neg e]
                        by_cases e2 : i < t
                        · rw [if_pos e2, if_pos (by omega)]
                        · rw [if_neg e2, if_neg (by omega)]
                    clear M7
                    have Hiff : ∀ b2 : Bool, (b2 = true ↔ b = true ∨ rz ≠ 0) → (b2 = true ↔ ∃ i, d < i ∧ i < t + 1 ∧ ent RB i c ≠ 0) := fun b2 h => by
                      rw [h, HB.out]
                      constructor
                      · rintro (⟨i, h1, h2, h3⟩ | h3)
                        · exact ⟨i, h1, by omega, h3⟩
                        · exact ⟨t, by omega, by omega, by rw [← Hrz.out]; exact h3⟩
                      · rintro ⟨i, h1, h2, h3⟩
                        by_cases e : i = t
                        · rw [e, ← Hrz.out] at h3; exact .inr h3
                        · exact .inl ⟨i, h1, by omega, h3⟩
                    have HIff := Lib.hid Hiff
                    clear Hiff
                    cases b with
                    | true =>
                      go_wp2_with fail
                      go_roundw
                      case rel => exact ⟨t + 1, true, by omega, by omega, by go_num, rfl, HIff.out true ⟨fun _ => .inl rfl, fun _ => rfl⟩, M8, D7⟩
                      case measure => simp [intOf]; omega
                    | false =>
                      by_cases hz : rz = 0
                      · rw [decide_eq_true hz] at hrz
                        have Hz := Lib.hid hz
                        clear hz
                        go_wp2_with fail
                        go_roundw
                        case rel => exact ⟨t + 1, false, by omega, by omega, by go_num, rfl, HIff.out false ⟨fun h => by simp at h, fun h => by rcases h with h | h; (· simp at h); exact absurd Hz.out h⟩, M8, D7⟩
                        case measure => simp [intOf]; omega
                      · rw [decide_eq_false hz] at hrz
                        have Hz := Lib.hid hz
                        clear hz
                        go_wp2_with fail
                        go_roundw
                        case rel => exact ⟨t + 1, true, by omega, by omega, by go_num, rfl, HIff.out true ⟨fun _ => .inr Hz.out, fun _ => rfl⟩, M8, D7⟩
                        case measure => simp [intOf]; omega
                  · have hltt : decide (t < mm) = false := decide_eq_false hlt
                    obtain rfl : mm = t := by omega
                    have MB : Hid (MatS wr B g mm n K2 (ent RB)) := M.out.congr fun i hi j hj => if_pos hi
                    clear M
                    cases b with
                    | true =>
                      obtain ⟨f', hf', J'⟩ := LM.out (HB.out.1 rfl)
                      have Jh := Lib.hid J'
                      clear J'
                      go_wp2_with fail
                      go_roundg f'
                      case rel => exact ⟨rfl, RB, K2, Jh, MB, D3⟩
                      case measure => exact hf'
                    | false =>
                      have HZ : Hid (∀ i, d < i → i < mm → ent RB i c = 0) := fun i h1 h2 => Classical.byContradiction fun h => by
                        have := HB.out.2 ⟨i, h1, h2, h⟩
                        simp at this
                      clear HB
                      have hdd : d < mm := hdm
                      have Hpos := Lib.hid (show ent RB d c ≠ 0 by rw [HE1.out d (Nat.le_refl _) hdd]; exact HpA.out)
                      have Hlen3 : Hid ((posL RB d c).length = mm) := (posL_length _ _ _).trans HlenB.out
                      have Hrec3 : Hid (Rect n (posL RB d c)) := by
                        show Rect _ _
                        unfold posL
                        split
                        · exact negL_rect HrecB.out d
                        · exact HrecB.out
                      have Hp3 : Hid (ent (posL RB d c) d c ≠ 0) := by
                        have := (posL_ent RB d c (i := d) (by rw [HlenB.out]; exact hdd) c).2.2 Hpos.out rfl
                        show _ ≠ _
                        omega
                      have L2 := Lib.hid (LN2.out RB (posL RB d c) rfl HZ.out rfl)
                      have L3 := Lib.hid (LX.out RB (posL RB d c) rfl HZ.out rfl)
                      have HR3 : Hid (∀ i, i < mm → ∀ j, (ent RB d c < 0 → (if i = d then -(ent RB d j) else ent RB i j) = ent (posL RB d c) i j) ∧ (¬ ent RB d c < 0 → ent RB i j = ent (posL RB d c) i j)) := fun i hi j => by
                        constructor
                        · intro h
                          unfold posL
                          rw [if_pos h, negL_ent RB d (by rw [HlenB.out]; exact hi)]
                          by_cases e : i = d
                          · rw [if_pos e, if_pos e, e]
                          · rw [if_neg e, if_neg e]
                        · intro h
                          unfold posL
                          rw [if_neg h]
                      have HlB : Hid (∀ j, j < n → (ent RB d j).natAbs ≤ LimN) := fun j hj => by rw [HE1.out d (Nat.le_refl _) hdd]; exact HlimA.out d hdd j hj
                      clear LN2 LX LM HE1 HE2 HE3 HQ HlimA HlenA HpA HrecB HlenB HZ
                      generalize posL RB d c = R3 at *
                      have Hlim3 : Hid (∀ i, i < mm → ∀ j, j < n → (ent R3 i j).natAbs ≤ LimN) := L2.out.1
                      have HQ3 : Hid (∀ i, i < d → (Int.fdiv (ent R3 i c) (ent R3 d c)).natAbs ≤ LimN ∧ ∀ j, j < n → (Int.fdiv (ent R3 i c) (ent R3 d c) * ent R3 d j).natAbs ≤ LimN ∧ (ent R3 i j - Int.fdiv (ent R3 i c) (ent R3 d c) * ent R3 d j).natAbs ≤ LimN) := fun i h1 => by
                        have := L2.out.2 i (by omega) (by omega)
                        unfold redQ at this
                        simp only [if_pos h1] at this
                        exact this
                      have HF1 : Hid (∀ i, d ≤ i → i < mm → ∀ j, ent (elimL R3 d (redQ R3 d c)) i j = ent R3 i j) := fun i h1 h2 j => by
                        rw [elimL_ent Hrec3.out (by rw [Hlen3.out]; exact hdd) _ (by rw [Hlen3.out]; exact h2), redQ_zero _ _ _ _ h1]; omega
                      have HF2 : Hid (∀ i, i < d → ∀ j, ent (elimL R3 d (redQ R3 d c)) i j = ent R3 i j - Int.fdiv (ent R3 i c) (ent R3 d c) * ent R3 d j) := fun i h1 j => by
                        rw [elimL_ent Hrec3.out (by rw [Hlen3.out]; exact hdd) _ (by rw [Hlen3.out]; omega)]
                        unfold redQ
                        rw [if_pos h1]
                      clear L2 Hlen3 Hrec3
                      generalize elimL R3 d (redQ R3 d c) = R4 at *
                      have hcn' : (c : Int) < n := by omega
                      have hd' : (d : Int) < mm := by omega
                      have k3 := MB.out.out d hdd
                      have k4 := (MB.out.row d hdd).c c hcn
                      have HS := Lib.hid (fun W => sign_any W (ent RB d c))
                      obtain ⟨sg, hsg⟩ : ∃ x, x = (ent RB d c).sign := ⟨_, rfl⟩
                      have Hsg : Hid (sg < 0 ↔ ent RB d c < 0) := by
                        show _ ↔ _
                        rw [hsg]
                        rcases sign_cases (ent RB d c) with ⟨h1, h2⟩ | ⟨h1, h2⟩ | ⟨h1, h2⟩ <;> rw [h2] <;> omega
                      rw [← hsg] at HS
                      clear hsg
                      generalize itx (ent RB d c) = s' at *
                      go_wp2_with fail
                      refine Calls.mono (HS.out _) ?_
                      rintro e w5 ⟨rfl, hbx⟩
                      have M5 := Lib.hid (MB.out.below hbx (Nat.le_refl _))
                      have D5 := Lib.hid (D3.out.trans (hbx.mono (Nat.le_trans hBw D3.out.size)))
                      clear k3 k4 hbx MB D3 HS
                      by_cases hs : sg < 0
                      · have hst : decide (sg < 0) = true := decide_eq_true hs
                        have Hs := Lib.hid (Hsg.out.1 hs)
                        have k3 := M5.out.out d hdd
                        have HNg := Lib.hid (negate_any w5 B (K2 d).1 (K2 d).2.1 (K2 d).2.2 n (ent RB d) (M5.out.row d hdd) (M5.out.lo d hdd).1 (by omega) HlB.out)
                        clear hs
                        go_wp2_with fail
                        refine Calls.mono HNg.out ?_
                        rintro e w7 ⟨rfl, hR7, hB7, hb7⟩
                        have M7 : Hid (MatS w7 B g mm n K2 (ent R3)) := (M5.out.put hdd hB7 hR7).congr fun i hi j hj => by
                          have h1 := (HR3.out i hi j).1 Hs.out
                          rw [← h1]
                          by_cases e : i = d
                          · rw [if_pos e, if_pos e]
                          · rw [if_neg e, if_neg e]
                        have D7 := Lib.hid (D5.out.trans hb7)
                        clear hR7 hB7 hb7 HNg M5 D5 k3 hst
                        go_wp2_with fail
                        go_loopw [143] (fun iz wx => ∃ t : Nat, t ≤ d ∧ iz = .int .i64 t ∧ Hid (MatS wx B g mm n K2 fun i j => if i < t then ent R4 i j else ent R3 i j) ∧ Hid (Below B w wx)) (fun iz _ => d - (intOf iz).toNat)
                        case atStart => exact ⟨0, Nat.zero_le _, rfl, M7.out.congr fun i hi j hj => by rw [if_neg (Nat.not_lt_zero _)], D7⟩
                        case round =>
                          clear M7 D7
                          obtain ⟨t, ht1, rfl, M, D3⟩ := hrel
                          by_cases hlt0 : t < d
                          · have hltt : decide (t < d) = true := decide_eq_true hlt0
                            have hlt : t < mm := by omega
                            have hlt' : (t : Int) < mm := by omega
                            have MW := M
                            have HrT : Hid (∀ j, j < n → (if t < t then ent R4 t j else ent R3 t j) = ent R3 t j) := fun j _ => if_neg (Nat.lt_irrefl _)
                            have HrD : Hid (∀ j, j < n → (if d < t then ent R4 d j else ent R3 d j) = ent R3 d j) := fun j _ => if_neg (by omega)
                            have HneD : Hid (t ≠ d) := by show _ ≠ _; omega
                            have k1 := MW.out.out t hlt
                            have k2 : wr.cell? ⟨(K2 t).1, (K2 t).2.1 + c, none⟩ = some (.string (itx (ent R3 t c))) := ((MW.out.row t hlt).c c hcn).trans (by rw [HrT.out c hcn])
                            have k3 := MW.out.out d hdm
                            have k4 : wr.cell? ⟨(K2 d).1, (K2 d).2.1 + c, none⟩ = some (.string (itx (ent R3 d c))) := ((MW.out.row d hdm).c c hcn).trans (by rw [HrD.out c hcn])
                            have HD := Lib.hid (fun W (hW : Below B w W) => divf_any W (ent R3 t c) (ent R3 d c) (lim_z (Hlim3.out t hlt c hcn)) (lim_z (Hlim3.out d hdm c hcn)) Hp3.out (lim_num (by have := Hlim3.out t hlt c hcn; have := lim_one; omega)) (HL.out W hW))
                            have HN := Lib.hid (HQ3.out t hlt0)
                            have HG2 := Lib.hid (HF2.out t hlt0)
                            obtain ⟨QQ, hQQ⟩ : ∃ q, q = Int.fdiv (ent R3 t c) (ent R3 d c) := ⟨_, rfl⟩
                            rw [← hQQ] at HD HN HG2
                            clear hQQ
                            obtain ⟨sq, hsq⟩ : ∃ s, s = itx QQ := ⟨_, rfl⟩
                            have Hqq : Hid (itx QQ = sq) := hsq.symm
                            rw [Hqq.out] at HD
                            clear hsq
                            generalize itx (Int.fmod (ent R3 t c) (ent R3 d c)) = sr at *
                            generalize itx (ent R3 t c) = s at *
                            generalize itx (ent R3 d c) = s9 at *
                            have q1 := NWm.cell k1
                            have q2 := NWm.cell k2
                            have q3 := NWm.cell k3
                            have q4 := NWm.cell k4
                            have hnon : Nonempty (NWm wr) := ⟨⟨wr, Below.refl _ _⟩⟩
                            have I : Hid (Below wr.heap.size wr wr.drew) := (Below.refl _ _).drew
                            go_wp2_with fail
                            clear k1 k2 k3 k4
                            refine RW.wp_region_readers 14 [(2,0),(2,1),(2,2),(1,3),(2,4),(2,5),(1,6),(2,7),(2,8),(2,9),(1,10),(2,11),(2,12),(1,13),(0,14),(2,15),(2,16),(2,17),(2,18),(0,19),(0,20),(0,21)] (fun w' => ∃ p : NWm wr, w' = p.w) (by kernel_rfl) (by kernel_rfl) ?_ ?_
                            · exact ⟨⟨_, I.out⟩, rfl⟩
                            iterate 14 ((first | refine RW.walkR_any ?_ | refine RW.walkR_read ?_); simp only [List.drop_succ_cons, List.drop_zero, List.take_succ_cons, List.take_zero]; go_big_quiet_step (fail); refine wpQuiet_nil ?_)
                            clear hnon q1 q2 q3 q4
                            refine RW.walkR_move ?_
                            simp only [List.drop_succ_cons, List.drop_zero, List.take_succ_cons, List.take_zero]
                            go_wp2_with fail
                            refine Calls.mono (HD.out _ (D3.out.trans (I.out.mono (Nat.le_trans hBw D3.out.size)))) ?_
                            rintro e w5 ⟨rfl, hbx⟩
                            have I5 : Hid (Below wr.heap.size wr w5) := I.out.trans (hbx.mono I.out.size)
                            clear hbx I HD
                            go_wp2_with fail
                            iterate 4 ((first | refine RW.walkR_any ?_ | refine RW.walkR_read ?_); simp only [List.drop_succ_cons, List.drop_zero, List.take_succ_cons, List.take_zero]; go_big_quiet_step (fail); refine wpQuiet_nil ?_)
                            refine RW.walkR_move ?_
                            simp only [List.drop_succ_cons, List.drop_zero, List.take_succ_cons, List.take_zero]
                            go_wp2_with fail
                            refine RW.walkR_move ?_
                            simp only [List.drop_succ_cons, List.drop_zero, List.take_succ_cons, List.take_zero]
                            go_wp2_with fail
                            refine RW.walkR_move ?_
                            simp only [List.drop_succ_cons, List.drop_zero, List.take_succ_cons, List.take_zero]
                            go_wp2_with fail
                            simp only [RW.walkR]
                            have D5 := Lib.hid (D3.out.trans (I5.out.mono (Nat.le_trans hBw D3.out.size)))
                            have M5 := Lib.hid (MW.out.below I5.out (Nat.le_refl _))
                            have hdL : d < mm := hdm
                            have k1 := M5.out.out t hlt
                            have k3 := M5.out.out d hdL
                            clear M D3 MW I5
                            have q1 := NWm.cell k1
                            have q3 := NWm.cell k3
                            have hnon : Nonempty (NWm w5) := ⟨⟨w5, Below.refl _ _⟩⟩
                            have I : Hid (Below w5.heap.size w5 w5.drew) := (Below.refl _ _).drew
                            go_wp2_with fail
                            clear k1 k3
                            refine RW.wp_region_readers 9 [(2,0),(2,1),(2,2),(1,3),(2,4),(2,5),(2,6),(2,7),(1,8),(0,9)] (fun w' => ∃ p : NWm w5, w' = p.w) (by kernel_rfl) (by kernel_rfl) ?_ ?_
                            · exact ⟨⟨_, I.out⟩, rfl⟩
                            iterate 9 ((first | refine RW.walkR_any ?_ | refine RW.walkR_read ?_); simp only [List.drop_succ_cons, List.drop_zero, List.take_succ_cons, List.take_zero]; go_big_quiet_step (fail); refine wpQuiet_nil ?_)
                            clear hnon q1 q3
                            have M6 := Lib.hid (M5.out.below I.out (Nat.le_refl _))
                            have D6 := Lib.hid (D5.out.trans (I.out.mono (Nat.le_trans hBw D5.out.size)))
                            have HLs := Lib.hid (less_any w5.drew B (K2 t).1 (K2 t).2.1 (K2 t).2.2 (K2 d).1 (K2 d).2.1 (K2 d).2.2 n QQ (ent R3 t) (ent R3 d) ((M6.out.row t hlt).congr HrT.out) ((M6.out.row d hdL).congr HrD.out) (fun e => HneD.out (M6.out.inj d t hdL hlt e).symm) (M6.out.lo t hlt).1 (by omega) (HN.out.1) (fun j hj => (HN.out.2 j hj).1) (Hlim3.out t hlt) (Hlim3.out d hdL) (fun W hW => HL.out W (D6.out.trans hW)))
                            rw [Hqq.out] at HLs
                            refine RW.walkR_move ?_
                            simp only [List.drop_succ_cons, List.drop_zero, List.take_succ_cons, List.take_zero]
                            go_wp2_with fail
                            refine Calls.mono HLs.out ?_
                            rintro e w7 ⟨rfl, hR7, hB7, hb7⟩
                            have M7 := Lib.hid (M6.out.put hlt hB7 hR7)
                            have D7 := Lib.hid (D6.out.trans hb7)
                            clear hR7 hB7 hb7 HLs M5 M6 D5 D6 I
                            go_wp2_with fail
                            simp only [RW.walkR]
                            have M8 : Hid (MatS w7 B g mm n K2 fun i j => if i < t + 1 then ent R4 i j else ent R3 i j) := M7.out.congr fun i hi j hj => by
                              by_cases e : i = t
                              · subst e
                                rw [if_pos rfl, if_pos (Nat.lt_succ_self _), HG2.out j]
                              · rw [if_neg e]
                                by_cases e2 : i < t
                                · rw [if_pos e2, if_pos (by omega)]
                                · rw [if_neg e2, if_neg (by omega)]
                            clear M7
                            go_wp2_with fail
                            go_roundw
                            case rel => exact ⟨t + 1, by omega, by go_num, M8, D7⟩
                            case measure => simp [intOf]; omega
                          · have hltt : decide (t < d) = false := decide_eq_false hlt0
                            have hltn : ¬ (t : Int) < d := by omega
                            have MB : Hid (MatS wr B g mm n K2 (ent R4)) := M.out.congr fun i hi j hj => by
                              by_cases e : i < t
                              · rw [if_pos e]
                              · rw [if_neg e]; exact (HF1.out i (by omega) hi j).symm
                            clear M
                            go_wp2_with fail
                            go_roundw
                            case rel => exact ⟨d + 1, c + 1, R4, K2, by go_num, by go_num, by omega, by omega, L3, MB, D3⟩
                            case measure => simp [intOf]; omega
                      · have hst : decide (sg < 0) = false := decide_eq_false hs
                        have Hs : Hid (¬ ent RB d c < 0) := fun h => hs (Hsg.out.2 h)
                        have M7 : Hid (MatS w5 B g mm n K2 (ent R3)) := M5.out.congr fun i hi j hj => (HR3.out i hi j).2 (by have := Hs.out; omega)
                        have D7 := D5
                        clear M5 D5 hs
                        go_wp2_with fail
                        go_loopw [143] (fun iz wx => ∃ t : Nat, t ≤ d ∧ iz = .int .i64 t ∧ Hid (MatS wx B g mm n K2 fun i j => if i < t then ent R4 i j else ent R3 i j) ∧ Hid (Below B w wx)) (fun iz _ => d - (intOf iz).toNat)
                        case atStart => exact ⟨0, Nat.zero_le _, rfl, M7.out.congr fun i hi j hj => by rw [if_neg (Nat.not_lt_zero _)], D7⟩
                        case round =>
                          clear M7 D7
                          obtain ⟨t, ht1, rfl, M, D3⟩ := hrel
                          by_cases hlt0 : t < d
                          · have hltt : decide (t < d) = true := decide_eq_true hlt0
                            have hlt : t < mm := by omega
                            have hlt' : (t : Int) < mm := by omega
                            have MW := M
                            have HrT : Hid (∀ j, j < n → (if t < t then ent R4 t j else ent R3 t j) = ent R3 t j) := fun j _ => if_neg (Nat.lt_irrefl _)
                            have HrD : Hid (∀ j, j < n → (if d < t then ent R4 d j else ent R3 d j) = ent R3 d j) := fun j _ => if_neg (by omega)
                            have HneD : Hid (t ≠ d) := by show _ ≠ _; omega
                            have k1 := MW.out.out t hlt
                            have k2 : wr.cell? ⟨(K2 t).1, (K2 t).2.1 + c, none⟩ = some (.string (itx (ent R3 t c))) := ((MW.out.row t hlt).c c hcn).trans (by rw [HrT.out c hcn])
                            have k3 := MW.out.out d hdm
                            have k4 : wr.cell? ⟨(K2 d).1, (K2 d).2.1 + c, none⟩ = some (.string (itx (ent R3 d c))) := ((MW.out.row d hdm).c c hcn).trans (by rw [HrD.out c hcn])
                            have HD := Lib.hid (fun W (hW : Below B w W) => divf_any W (ent R3 t c) (ent R3 d c) (lim_z (Hlim3.out t hlt c hcn)) (lim_z (Hlim3.out d hdm c hcn)) Hp3.out (lim_num (by have := Hlim3.out t hlt c hcn; have := lim_one; omega)) (HL.out W hW))
                            have HN := Lib.hid (HQ3.out t hlt0)
                            have HG2 := Lib.hid (HF2.out t hlt0)
                            obtain ⟨QQ, hQQ⟩ : ∃ q, q = Int.fdiv (ent R3 t c) (ent R3 d c) := ⟨_, rfl⟩
                            rw [← hQQ] at HD HN HG2
                            clear hQQ
                            obtain ⟨sq, hsq⟩ : ∃ s, s = itx QQ := ⟨_, rfl⟩
                            have Hqq : Hid (itx QQ = sq) := hsq.symm
                            rw [Hqq.out] at HD
                            clear hsq
                            generalize itx (Int.fmod (ent R3 t c) (ent R3 d c)) = sr at *
                            generalize itx (ent R3 t c) = s at *
                            generalize itx (ent R3 d c) = s9 at *
                            have q1 := NWm.cell k1
                            have q2 := NWm.cell k2
                            have q3 := NWm.cell k3
                            have q4 := NWm.cell k4
                            have hnon : Nonempty (NWm wr) := ⟨⟨wr, Below.refl _ _⟩⟩
                            have I : Hid (Below wr.heap.size wr wr.drew) := (Below.refl _ _).drew
                            go_wp2_with fail
                            clear k1 k2 k3 k4
                            refine RW.wp_region_readers 14 [(2,0),(2,1),(2,2),(1,3),(2,4),(2,5),(1,6),(2,7),(2,8),(2,9),(1,10),(2,11),(2,12),(1,13),(0,14),(2,15),(2,16),(2,17),(2,18),(0,19),(0,20),(0,21)] (fun w' => ∃ p : NWm wr, w' = p.w) (by kernel_rfl) (by kernel_rfl) ?_ ?_
                            · exact ⟨⟨_, I.out⟩, rfl⟩
                            iterate 14 ((first | refine RW.walkR_any ?_ | refine RW.walkR_read ?_); simp only [List.drop_succ_cons, List.drop_zero, List.take_succ_cons, List.take_zero]; go_big_quiet_step (fail); refine wpQuiet_nil ?_)
                            clear hnon q1 q2 q3 q4
                            refine RW.walkR_move ?_
                            simp only [List.drop_succ_cons, List.drop_zero, List.take_succ_cons, List.take_zero]
                            go_wp2_with fail
                            refine Calls.mono (HD.out _ (D3.out.trans (I.out.mono (Nat.le_trans hBw D3.out.size)))) ?_
                            rintro e w5 ⟨rfl, hbx⟩
                            have I5 : Hid (Below wr.heap.size wr w5) := I.out.trans (hbx.mono I.out.size)
                            clear hbx I HD
                            go_wp2_with fail
                            iterate 4 ((first | refine RW.walkR_any ?_ | refine RW.walkR_read ?_); simp only [List.drop_succ_cons, List.drop_zero, List.take_succ_cons, List.take_zero]; go_big_quiet_step (fail); refine wpQuiet_nil ?_)
                            refine RW.walkR_move ?_
                            simp only [List.drop_succ_cons, List.drop_zero, List.take_succ_cons, List.take_zero]
                            go_wp2_with fail
                            refine RW.walkR_move ?_
                            simp only [List.drop_succ_cons, List.drop_zero, List.take_succ_cons, List.take_zero]
                            go_wp2_with fail
                            refine RW.walkR_move ?_
                            simp only [List.drop_succ_cons, List.drop_zero, List.take_succ_cons, List.take_zero]
                            go_wp2_with fail
                            simp only [RW.walkR]
                            have D5 := Lib.hid (D3.out.trans (I5.out.mono (Nat.le_trans hBw D3.out.size)))
                            have M5 := Lib.hid (MW.out.below I5.out (Nat.le_refl _))
                            have hdL : d < mm := hdm
                            have k1 := M5.out.out t hlt
                            have k3 := M5.out.out d hdL
                            clear M D3 MW I5
                            have q1 := NWm.cell k1
                            have q3 := NWm.cell k3
                            have hnon : Nonempty (NWm w5) := ⟨⟨w5, Below.refl _ _⟩⟩
                            have I : Hid (Below w5.heap.size w5 w5.drew) := (Below.refl _ _).drew
                            go_wp2_with fail
                            clear k1 k3
                            refine RW.wp_region_readers 9 [(2,0),(2,1),(2,2),(1,3),(2,4),(2,5),(2,6),(2,7),(1,8),(0,9)] (fun w' => ∃ p : NWm w5, w' = p.w) (by kernel_rfl) (by kernel_rfl) ?_ ?_
                            · exact ⟨⟨_, I.out⟩, rfl⟩
                            iterate 9 ((first | refine RW.walkR_any ?_ | refine RW.walkR_read ?_); simp only [List.drop_succ_cons, List.drop_zero, List.take_succ_cons, List.take_zero]; go_big_quiet_step (fail); refine wpQuiet_nil ?_)
                            clear hnon q1 q3
                            have M6 := Lib.hid (M5.out.below I.out (Nat.le_refl _))
                            have D6 := Lib.hid (D5.out.trans (I.out.mono (Nat.le_trans hBw D5.out.size)))
                            have HLs := Lib.hid (less_any w5.drew B (K2 t).1 (K2 t).2.1 (K2 t).2.2 (K2 d).1 (K2 d).2.1 (K2 d).2.2 n QQ (ent R3 t) (ent R3 d) ((M6.out.row t hlt).congr HrT.out) ((M6.out.row d hdL).congr HrD.out) (fun e => HneD.out (M6.out.inj d t hdL hlt e).symm) (M6.out.lo t hlt).1 (by omega) (HN.out.1) (fun j hj => (HN.out.2 j hj).1) (Hlim3.out t hlt) (Hlim3.out d hdL) (fun W hW => HL.out W (D6.out.trans hW)))
                            rw [Hqq.out] at HLs
                            refine RW.walkR_move ?_
                            simp only [List.drop_succ_cons, List.drop_zero, List.take_succ_cons, List.take_zero]
                            go_wp2_with fail
                            refine Calls.mono HLs.out ?_
                            rintro e w7 ⟨rfl, hR7, hB7, hb7⟩
                            have M7 := Lib.hid (M6.out.put hlt hB7 hR7)
                            have D7 := Lib.hid (D6.out.trans hb7)
                            clear hR7 hB7 hb7 HLs M5 M6 D5 D6 I
                            go_wp2_with fail
                            simp only [RW.walkR]
                            have M8 : Hid (MatS w7 B g mm n K2 fun i j => if i < t + 1 then ent R4 i j else ent R3 i j) := M7.out.congr fun i hi j hj => by
                              by_cases e : i = t
                              · subst e
                                rw [if_pos rfl, if_pos (Nat.lt_succ_self _), HG2.out j]
                              · rw [if_neg e]
                                by_cases e2 : i < t
                                · rw [if_pos e2, if_pos (by omega)]
                                · rw [if_neg e2, if_neg (by omega)]
                            clear M7
                            go_wp2_with fail
                            go_roundw
                            case rel => exact ⟨t + 1, by omega, by go_num, M8, D7⟩
                            case measure => simp [intOf]; omega
                          · have hltt : decide (t < d) = false := decide_eq_false hlt0
                            have hltn : ¬ (t : Int) < d := by omega
                            have MB : Hid (MatS wr B g mm n K2 (ent R4)) := M.out.congr fun i hi j hj => by
                              by_cases e : i < t
                              · rw [if_pos e]
                              · rw [if_neg e]; exact (HF1.out i (by omega) hi j).symm
                            clear M
                            go_wp2_with fail
                            go_roundw
                            case rel => exact ⟨d + 1, c + 1, R4, K2, by go_num, by go_num, by omega, by omega, L3, MB, D3⟩
                            case measure => simp [intOf]; omega
      · have hdmt : decide (d < mm) = false := decide_eq_false hdm
        have hdme : d = mm := by omega
        have Hdm := Lib.hid hdme
        have hdc : d ≤ cap := by omega
        clear hdme
        go_wp2_with fail
        go_ret
        exact ⟨d, c, R, K, rfl, M.out, J.out, .inr Hdm.out, hd, D.out⟩
    · have hcnt : decide (c < n) = false := decide_eq_false hcn
      have hce : c = n := by omega
      have Hce := Lib.hid hce
      have hdc : d ≤ cap := by omega
      clear hce
      go_wp2_with fail
      go_ret
      exact ⟨d, c, R, K, rfl, M.out, J.out, .inl Hce.out, hd, D.out⟩

end Go.Proofs.YtepicfdhphiiaaaGreatDoor

/- lattice.longs.form on matrices of any number of rows; what it leaves is the normal form. -/
namespace Go.Proofs.YtepicfdhphiiaaaGreatDoor
open Go.RowKit

/-- Exponents of the bounds. -/
def eM (e mm : Nat) : Nat → Nat
  | 0 => e
  | d + 1 => if d + 1 < mm then (5 * eM e mm d + 2) / 2 + 1 else eM e mm d
def eD (e mm : Nat) : Nat → Nat
  | 0 => 0
  | d + 1 => eD e mm d + eM e mm (d + 1) + 1
theorem ten_le {a b : Nat} (h : a ≤ b) : 10 ^ a ≤ 10 ^ b := Nat.pow_le_pow_right (by decide) h
theorem eD_mono (e mm : Nat) : ∀ d k, d ≤ k → eD e mm d ≤ eD e mm k
  | d, 0, h => by obtain rfl : d = 0 := by omega
                  exact Nat.le_refl _
  | d, k + 1, h => by
    by_cases e1 : d = k + 1
    · rw [e1]; exact Nat.le_refl _
    · have := eD_mono e mm d k (by omega)
      show _ ≤ eD e mm k + eM e mm (k + 1) + 1
      omega
theorem seqs_ten (e mm n : Nat) (h : ∀ d, d ≤ mm → eM e mm d ≤ 999990 ∧ eD e mm d ≤ 999990) : Seqs mm n LimN (fun d => 10 ^ eM e mm d) (fun d => 10 ^ eD e mm d) (fun d => 10 ^ ((5 * eM e mm d + 2) / 2)) := by
  refine ⟨fun d => Nat.pow_pos (by decide), fun d => ?_, fun d hd => ?_, fun d hd => ?_, fun d => ?_, fun d hd _ => ⟨by unfold LimN; exact @ten_le _ 999990 (h d hd).1, by unfold LimN; exact @ten_le _ 999990 (h d hd).2⟩⟩
  · refine ten_le ?_
    rw [eM]
    split
    · omega
    · exact Nat.le_refl _
  · show 3 * 10 ^ _ ≤ 10 ^ eM e mm (d + 1)
    rw [eM, if_pos hd, Nat.pow_succ]
    have := Nat.pow_pos (n := (5 * eM e mm d + 2) / 2) (show 0 < 10 by decide)
    omega
  · show 9 * _ ≤ _
    rw [← Nat.pow_add, ← Nat.pow_add, ← Nat.pow_add, ← Nat.pow_add]
    have h1 : 10 ^ (eM e mm d + eM e mm d + (eM e mm d + eM e mm d) + eM e mm d + 1) ≤ 10 ^ ((5 * eM e mm d + 2) / 2 + (5 * eM e mm d + 2) / 2) := ten_le (by omega)
    rw [Nat.pow_succ] at h1
    omega
  · show (10 ^ _ + 1) * (1 + 10 ^ _) ≤ 10 ^ (eD e mm d + eM e mm (d + 1) + 1)
    have h1 := Nat.pow_pos (n := eD e mm d) (show 0 < 10 by decide)
    have h2 := Nat.pow_pos (n := eM e mm (d + 1)) (show 0 < 10 by decide)
    rw [Nat.pow_succ, Nat.pow_add]
    generalize 10 ^ eD e mm d = a at *
    generalize 10 ^ eM e mm (d + 1) = b at *
    have h3 : (a + 1) * (1 + b) ≤ (2 * a) * (2 * b) := Nat.mul_le_mul (by omega) (by omega)
    have h4 : (2 * a) * (2 * b) = 4 * (a * b) := by ac_rfl
    omega

/-- A matrix that the call writes, with any number of rows. -/
def MatV (w : World) (B : Nat) (v : Value) (m n : Nat) (E : Nat → Nat → Int) : Prop :=
  ∃ (a : Option Addr) (cap : Nat), v = .slice a m cap ∧ (m = 0 ∨ m ≤ cap ∧ ∃ (g : Nat) (K : Nat → Nat × Nat × Nat), a = some ⟨g, 0, none⟩ ∧ MatS w B g m n K E)
theorem MatS.few {w : World} {B g m n k : Nat} {K : Nat → Nat × Nat × Nat} {E : Nat → Nat → Int} (h : MatS w B g m n K E) (hk : k ≤ m) : MatS w B g k n K E :=
  ⟨h.glo, h.glt, fun i hi => h.out i (by omega), fun i hi => h.outf i (by omega), fun i hi => h.lo i (by omega), fun i j hi hj => h.inj i j (by omega) (by omega), fun i hi => h.row i (by omega), fun i hi => h.cap i (by omega)⟩
theorem MatV.below {w w' : World} {B m n C : Nat} {v : Value} {E : Nat → Nat → Int} (h : MatV w B v m n E) (hb : Below C w w') (hC : w.heap.size ≤ C) : MatV w' B v m n E := by
  obtain ⟨a, cap, rfl, h0 | ⟨h1, g, K, rfl, M⟩⟩ := h
  · exact ⟨a, cap, rfl, .inl h0⟩
  · exact ⟨_, cap, rfl, .inr ⟨h1, g, K, rfl, M.below hb hC⟩⟩
theorem MatV.congr {w : World} {B m n : Nat} {v : Value} {E E' : Nat → Nat → Int} (h : MatV w B v m n E) (he : ∀ i, i < m → ∀ j, j < n → E i j = E' i j) : MatV w B v m n E' := by
  obtain ⟨a, cap, rfl, h0 | ⟨h1, g, K, rfl, M⟩⟩ := h
  · exact ⟨a, cap, rfl, .inl h0⟩
  · exact ⟨_, cap, rfl, .inr ⟨h1, g, K, rfl, M.congr he⟩⟩
theorem MatV.less {w : World} {B B' m n : Nat} {v : Value} {E : Nat → Nat → Int} (h : MatV w B v m n E) (hB : B' ≤ B) : MatV w B' v m n E := by
  obtain ⟨a, cap, rfl, h0 | ⟨h1, g, K, rfl, M⟩⟩ := h
  · exact ⟨a, cap, rfl, .inl h0⟩
  · exact ⟨_, cap, rfl, .inr ⟨h1, g, K, rfl, M.less hB⟩⟩

def SameE (w w' : World) (v : Value) (e : Ending) : Prop := e = .returned v ∧ Below w.heap.size w w'
theorem form_nil (w : World) (a : Option Addr) (cap n : Nat) : Calls Tryz.prog 65 #[.slice a 0 cap, .int .i64 n] w fun e w' => SameE w w' (.slice a 0 cap) e := by
  go_enter Tryz.func65, Tryz.ntmps65
  go_wp2_with fail
  go_loopw [5, 6] (fun z y wr => z = .int .i64 0 ∧ y = .int .i64 0 ∧ wr = w) (fun _ _ _ => 0)
  case atStart => exact ⟨rfl, rfl, rfl⟩
  case round =>
    obtain ⟨rfl, rfl, rfl⟩ := hrel
    by_cases hn : 0 < n
    · have h1 : decide (0 < n) = true := decide_eq_true hn
      have h2 : decide ((0 : Int) < n) = true := decide_eq_true (by omega)
      cases a with
      | none =>
        go_wp2_with fail
        go_ret
        exact ⟨rfl, Below.refl _ _⟩
      | some a =>
        go_wp2_with fail
        go_ret
        exact ⟨rfl, Below.refl _ _⟩
    · have h1 : decide (0 < n) = false := decide_eq_false hn
      have h2 : decide ((0 : Int) < n) = false := decide_eq_false (by omega)
      cases a with
      | none =>
        go_wp2_with fail
        go_ret
        exact ⟨rfl, Below.refl _ _⟩
      | some a =>
        go_wp2_with fail
        go_ret
        exact ⟨rfl, Below.refl _ _⟩

/-- form, on any number of rows. -/
theorem form_mat (w : World) (B m n : Nat) (v : Value) (R0 : List (List Int)) (I0 : Nat → Nat → List (List Int) → Prop) (I1 : Nat → Nat → Nat → List (List Int) → Prop) (E : Eng n m LimN I0 I1) (h0 : I0 0 0 R0) (hV : MatV w B v m n (ent R0)) (hB : B ≤ w.heap.size)
    (hm : m ≤ 100) (hn : n ≤ 100) (L : ∀ W, Below B w W → Laid W) :
    Calls Tryz.prog 65 #[v, .int .i64 n] w fun e w' => ∃ v' d c R, e = .returned v' ∧ MatV w' B v' d n (ent R) ∧ I0 d c R ∧ (c = n ∨ d = m) ∧ d ≤ m ∧ Below B w w' := by
  obtain ⟨a, cap, rfl, h1 | ⟨h1, g, K, rfl, M⟩⟩ := hV
  · subst h1
    refine Calls.mono (form_nil w a cap n) ?_
    rintro e w' ⟨rfl, hb⟩
    exact ⟨_, 0, 0, R0, rfl, ⟨a, cap, rfl, .inl rfl⟩, h0, .inr rfl, Nat.le_refl _, hb.mono hB⟩
  · refine Calls.mono (form_any w B g m n cap K R0 I0 I1 E h0 M hm hn h1 L) ?_
    rintro e w' ⟨d, c, R, K', rfl, M', J, hc, hd, hb⟩
    exact ⟨_, d, c, R, rfl, ⟨_, cap, rfl, .inr ⟨Nat.le_trans hd h1, g, K', rfl, M'.few hd⟩⟩, J, hc, hd, hb⟩

theorem ent_take (R : List (List Int)) {d i : Nat} (h : i < d) (j : Nat) : ent (R.take d) i j = ent R i j := by
  unfold ent
  congr 1
  rw [List.getD_eq_getElem?_getD, List.getD_eq_getElem?_getD, List.getElem?_take, if_pos h]
theorem rect_take {n : Nat} {R : List (List Int)} (h : Rect n R) (d : Nat) : Rect n (R.take d) := fun r hr => h r (List.mem_of_mem_take hr)

/-- What form leaves of rows with small numbers: their normal form. -/
def FormL (w w' : World) (B n : Nat) (T : Nat) (R0 : List (List Int)) (e : Ending) : Prop :=
  ∃ v' Bs, e = .returned v' ∧ MatV w' B v' Bs.length n (ent Bs) ∧ IsHnf Bs ∧ Rect n Bs ∧ SameSp R0 Bs ∧ Bs.length ≤ R0.length ∧ (∀ i, i < Bs.length → ∀ j, (ent Bs i j).natAbs ≤ T) ∧ Below B w w'
theorem form_law (w : World) (B e n : Nat) (v : Value) (R0 : List (List Int)) (hr : Rect n R0) (he : ∀ i, i < R0.length → ∀ j, (ent R0 i j).natAbs ≤ 10 ^ e) (hs : ∀ d, d ≤ R0.length → eM e R0.length d ≤ 999990 ∧ eD e R0.length d ≤ 999990)
    (hV : MatV w B v R0.length n (ent R0)) (hB : B ≤ w.heap.size) (hm : R0.length ≤ 100) (hn : n ≤ 100) (L : ∀ W, Below B w W → Laid W) :
    Calls Tryz.prog 65 #[v, .int .i64 n] w fun x w' => FormL w w' B n (10 ^ eD e R0.length R0.length) R0 x := by
  have S := seqs_ten e R0.length n hs
  refine Calls.mono (form_mat w B R0.length n v R0 _ _ (gEng (m0 := R0) rfl S) ⟨FInv.start hr, rfl, Nat.le_refl _, Nat.zero_le _, fun i _ h2 j => he i h2 j, fun i hi => absurd hi (Nat.not_lt_zero _)⟩ hV hB hm hn L) ?_
  rintro x w' ⟨v', d, c, R, rfl, hM, ⟨hF, hl, hdc, hcn, hA, hD⟩, hc, hd, hb⟩
  have hH := hF.hnf (by rw [hl]; exact hc)
  have hlen : (R.take d).length = d := by rw [List.length_take]; omega
  refine ⟨v', R.take d, rfl, ?_, hH.1, rect_take hF.rect d, hH.2, by omega, fun i hi j => ?_, hb⟩
  · rw [hlen]
    exact hM.congr fun i hi j _ => (ent_take R hi j).symm
  · rw [hlen] at hi
    rw [ent_take R hi]
    exact Nat.le_trans (hD i hi j) (ten_le (eD_mono _ _ _ _ hd))
/-- A matrix in normal form stays. -/
theorem form_same (w : World) (B n : Nat) (v : Value) (R0 : List (List Int)) (hr : Rect n R0) (hh : IsHnf R0) (he : ∀ i, i < R0.length → ∀ j, (ent R0 i j).natAbs ≤ LimN)
    (hV : MatV w B v R0.length n (ent R0)) (hB : B ≤ w.heap.size) (hm : R0.length ≤ 100) (hn : n ≤ 100) (L : ∀ W, Below B w W → Laid W) :
    Calls Tryz.prog 65 #[v, .int .i64 n] w fun x w' => ∃ v', x = .returned v' ∧ MatV w' B v' R0.length n (ent R0) ∧ Below B w w' := by
  refine Calls.mono (form_mat w B R0.length n v R0 _ _ (hEng hh he) ⟨rfl, FInv.start hr, Nat.zero_le _⟩ hV hB hm hn L) ?_
  rintro x w' ⟨v', d, c, R, rfl, hM, ⟨rfl, hF, hcn⟩, hc, hd, hb⟩
  have hH := hF.hnf hc
  have e1 := hnf_same hh hH.1 hr (rect_take hr d) hH.2
  have e2 : d = R.length := by
    have := congrArg List.length e1
    rw [List.length_take] at this
    omega
  subst e2
  exact ⟨v', rfl, hM, hb⟩

end Go.Proofs.YtepicfdhphiiaaaGreatDoor

/- Rows put together one by one; lattice.longsOf. -/
namespace Go.Proofs.YtepicfdhphiiaaaGreatDoor
open Go.RowKit

theorem append_new_at {P : Program} {W : World} {ops : Array Oper} {rest : List Oper} {o : Oper} {a : Act} {Q : Exit → Act → World → Prop} (hgd : o.guard = none) (s x : Operand) (t : TypeId)
    (ho : o.op = .call { callee := .builtin .append, args := #[s, x], argTypes := #[t, t] })
    {e : TypeId} {z : Value} {size bytes : Nat} (E : ElemOf P t e z size bytes)
    (v : Value) (m : Nat) (news : List Value) (hs : a.eval s = v) (hx : a.eval x = .slice (some ⟨W.heap.size, 0, none⟩) m m)
    {base n : Nat} {xs : List Value} (hown : W.ownsRow base e size v n xs) (hbase : base ≤ W.heap.size)
    (hl : news.length = m * size) (h1 : ∀ u ∈ news, u.oneCell' = true) (h63 : n + m ≤ 4611686018427387904) (hbytes : (n + m) * bytes ≤ 140737488355328)
    (h : ∀ v' w', w'.ownsRow base e size v' (n + m) (xs ++ news) → (W.alloc (.cells news.toArray e)).grownBy w' v.ownBlock → (v'.ownBlock = v.ownBlock ∨ v'.ownBlock = some (W.alloc (.cells news.toArray e)).heap.size) → wpList P ops Q rest (a.put o.dst v') w') :
    wpList P ops Q (o :: rest) a (W.alloc (.cells news.toArray e)) := by
  obtain ⟨i, hi, hz, hsize, hby⟩ := E.info
  refine wpList_append_own_at _ hgd s x t ho base e i z size bytes E.ht hi hz hsize hby E.hzs E.pos v n xs hs (hown.alloc _) ⟨W.heap.size, 0, none⟩ m m news hx hl ?_ h1 (by unfold maxLen; omega) hbytes (by simp; omega) fun v' w' a b _ d => h v' w' a b d
  intro j u hj
  have hadd : (⟨W.heap.size, 0, none⟩ : Addr).add j = ⟨W.heap.size, j, none⟩ := by unfold Addr.add; split <;> simp_all
  rw [hadd, cell_of_row _ W.heap.size j _ e (0, 0) (heap_alloc_new W _)]
  simpa using hj

theorem infoLL : (Tryz.prog.info? 113).map (fun i => (i.zero, i.size, i.bytes)) = some (some (.slice none 0 0), 1, 24) := by kernel_rfl
theorem elLL : ElemOf Tryz.prog 112 113 (.slice none 0 0) 1 24 := ⟨Tryz.underlying112, info_parts infoLL, rfl, by decide⟩

/-- The headers of rows. -/
def hdrs (K : Nat → Nat × Nat × Nat) (n t : Nat) : List Value := (List.range t).map fun i => .slice (some ⟨(K i).1, (K i).2.1, none⟩) n (K i).2.2
theorem hdrs_length (K : Nat → Nat × Nat × Nat) (n t : Nat) : (hdrs K n t).length = t := by simp [hdrs]
theorem hdrs_get (K : Nat → Nat × Nat × Nat) (n t : Nat) {i : Nat} (h : i < t) : (hdrs K n t)[i]? = some (.slice (some ⟨(K i).1, (K i).2.1, none⟩) n (K i).2.2) := by
  unfold hdrs
  rw [List.getElem?_map, List.getElem?_range h]; rfl
theorem hdrs_succ (K : Nat → Nat × Nat × Nat) (n t : Nat) (k : Nat × Nat × Nat) : hdrs (fun i => if i = t then k else K i) n (t + 1) = hdrs K n t ++ [.slice (some ⟨k.1, k.2.1, none⟩) n k.2.2] := by
  unfold hdrs
  rw [List.range_succ, List.map_append]
  congr 1
  · refine List.map_congr_left fun i hi => ?_
    have hlt := List.mem_range.1 hi
    have hne : ¬ i = t := by omega
    simp only [if_neg hne]
  · simp
/-- Some rows, put together by appends. -/
structure BldS (w : World) (B : Nat) (a : Option Addr) (c t n : Nat) (K : Nat → Nat × Nat × Nat) (E : Nat → Nat → Int) : Prop where
  own : w.ownsRow B 113 1 (.slice a t c) t (hdrs K n t)
  lo : ∀ i, i < t → B ≤ (K i).1 ∧ some (K i).1 ≠ (Value.slice a t c).ownBlock
  inj : ∀ i k, i < t → k < t → (K i).1 = (K k).1 → i = k
  row : ∀ i, i < t → RowS w (K i).1 (K i).2.1 n (E i)
  cap : ∀ i, i < t → n ≤ (K i).2.2
theorem BldS.nil (w : World) (B n : Nat) (K : Nat → Nat × Nat × Nat) (E : Nat → Nat → Int) : BldS w B none 0 0 n K E :=
  ⟨World.ownsRow_nil _ _ _ _, fun _ hi => absurd hi (Nat.not_lt_zero _), fun _ _ hi => absurd hi (Nat.not_lt_zero _), fun _ hi => absurd hi (Nat.not_lt_zero _), fun _ hi => absurd hi (Nat.not_lt_zero _)⟩
theorem BldS.below {w w' : World} {B c t n C : Nat} {a : Option Addr} {K : Nat → Nat × Nat × Nat} {E : Nat → Nat → Int} (h : BldS w B a c t n K E) (hb : Below C w w') (hC : w.heap.size ≤ C) : BldS w' B a c t n K E :=
  ⟨own_below h.own hb hC, h.lo, h.inj, fun i hi => (h.row i hi).below hb hC, h.cap⟩
theorem BldS.mat {w : World} {B c t n : Nat} {a : Option Addr} {K : Nat → Nat × Nat × Nat} {E : Nat → Nat → Int} (h : BldS w B a c t n K E) : MatV w B (.slice a t c) t n E := by
  refine ⟨a, c, rfl, ?_⟩
  rcases Nat.eq_zero_or_pos t with h0 | h0
  · exact .inl h0
  · obtain ⟨g, cap, hv, q1, q2, q3, q4, q5⟩ := own_open h.own h0
    simp only [Value.slice.injEq, true_and] at hv
    obtain ⟨rfl, rfl⟩ := hv
    refine .inr ⟨q3, g, K, rfl, q1, q2, fun i hi => by rw [q4 i (by omega), hdrs_get K n t hi], fun i _ => q5 i, fun i hi => ⟨(h.lo i hi).1, fun e => (h.lo i hi).2 (by rw [e]; rfl)⟩, h.inj, h.row, h.cap⟩
theorem BldS.size {w : World} {B c t n : Nat} {a : Option Addr} {K : Nat → Nat × Nat × Nat} {E : Nat → Nat → Int} (h : BldS w B a c t n K E) {k : Nat} (hk : (Value.slice a t c).ownBlock = some k) : B ≤ k ∧ k < w.heap.size := by
  have := h.own.lt k hk; omega
/-- One row more. -/
theorem BldS.push {W w' : World} {B c t n c' b off d : Nat} {a a' : Option Addr} {K : Nat → Nat × Nat × Nat} {E : Nat → Nat → Int} {F : Nat → Int} (h : BldS W B a c t n K E) (hF : RowS W b off n F) (hB : B ≤ b) (hd : n ≤ d)
    (h1 : ∀ i, i < t → (K i).1 ≠ b) (h2 : (Value.slice a t c).ownBlock ≠ some b) (o : Obj)
    (hown : w'.ownsRow B 113 1 (.slice a' (t + 1) c') (t + 1) (hdrs K n t ++ [.slice (some ⟨b, off, none⟩) n d])) (hg : (W.alloc o).grownBy w' (Value.slice a t c).ownBlock)
    (hs : (Value.slice a' (t + 1) c').ownBlock = (Value.slice a t c).ownBlock ∨ (Value.slice a' (t + 1) c').ownBlock = some (W.heap.size + 1)) :
    BldS w' B a' c' (t + 1) n (fun i => if i = t then (b, off, d) else K i) (fun i => if i = t then F else E i) := by
  have keep : ∀ {b' off' : Nat} {G : Nat → Int}, RowS W b' off' n G → some b' ≠ (Value.slice a t c).ownBlock → RowS w' b' off' n G := fun {b' off' G} hr hne => by
    refine hr.heap (Nat.le_trans (by rw [World.size_alloc]; omega) hg.size) ?_
    rw [hg.block b' (by rw [World.size_alloc]; have := hr.lt; omega) hne]
    exact heap_alloc_old W o (by have := hr.lt; omega)
  have nb : ∀ {b' off' : Nat} {G : Nat → Int}, RowS W b' off' n G → some b' ≠ (Value.slice a t c).ownBlock → some b' ≠ (Value.slice a' (t + 1) c').ownBlock := fun {b' off' G} hr hne => by
    rcases hs with e | e
    · rw [e]; exact hne
    · rw [e]
      intro e2
      have e3 := Option.some.inj e2
      have := hr.lt
      omega
  refine ⟨by rw [hdrs_succ]; exact hown, fun i hi => ?_, fun i k hi hk e => ?_, fun i hi => ?_, fun i hi => ?_⟩
  · by_cases e : i = t
    · simp only [if_pos e]
      exact ⟨hB, nb hF (fun e2 => h2 e2.symm)⟩
    · simp only [if_neg e]
      have := h.lo i (by omega)
      exact ⟨this.1, nb (h.row i (by omega)) this.2⟩
  · by_cases e1 : i = t
    · by_cases e2 : k = t
      · omega
      · simp only [if_pos e1, if_neg e2] at e
        exact absurd e.symm (h1 k (by omega))
    · by_cases e2 : k = t
      · simp only [if_neg e1, if_pos e2] at e
        exact absurd e (h1 i (by omega))
      · simp only [if_neg e1, if_neg e2] at e
        exact h.inj i k (by omega) (by omega) e
  · by_cases e : i = t
    · simp only [if_pos e]
      exact keep hF (fun e2 => h2 e2.symm)
    · simp only [if_neg e]
      exact keep (h.row i (by omega)) (h.lo i (by omega)).2
  · by_cases e : i = t
    · simp only [if_pos e]; exact hd
    · simp only [if_neg e]; exact h.cap i (by omega)

/-- Rows that are given. -/
def RdM (w : World) (a : Option Addr) (rows : List (List Int)) : Prop :=
  ∃ A : Nat → Option Addr × Nat, Rd w a ((List.range rows.length).map fun i => .slice (A i).1 (rows.getD i []).length (A i).2) ∧ ∀ i, i < rows.length → Rd w (A i).1 (ints (rows.getD i []))
theorem RdM.below {w w' : World} {a : Option Addr} {rows : List (List Int)} {B : Nat} (h : RdM w a rows) (hb : Below B w w') (hB : w.heap.size ≤ B) : RdM w' a rows := by
  obtain ⟨A, h1, h2⟩ := h
  exact ⟨A, h1.below hb hB, fun i hi => (h2 i hi).below hb hB⟩

/-- What longsOf leaves. -/
def LoE (w w' : World) (n m : Nat) (E : Nat → Nat → Int) (e : Ending) : Prop := ∃ a' c' K, e = .returned (.slice a' m c') ∧ BldS w' w.heap.size a' c' m n K E ∧ Below w.heap.size w w'
theorem longsOf_bld (w : World) (a : Option Addr) (c n : Nat) (rows : List (List Int)) (hr : RdM w a rows) (hrect : Rect n rows) (hi : ∀ r ∈ rows, I64s r) (hn : 0 < n) (hn1 : n ≤ 100) (hl : rows.length ≤ 100) (L : Laid w) :
    Calls Tryz.prog 74 #[.slice a rows.length c] w fun e w' => LoE w w' n rows.length (ent rows) e := by
  obtain ⟨A, hA, hrow⟩ := hr
  have Hc := Lib.hid (fun (hpos : 0 < rows.length) W (hW : Below w.heap.size w W) => by
    obtain ⟨b, off, e, hb, hcell⟩ := hA.open (by simpa using hpos)
    exact (⟨b, off, e, fun i (hi2 : i < rows.length) => (hW.cell (p := ⟨b, off + i, none⟩) hb).trans (hcell i _ (by rw [List.getElem?_map, List.getElem?_range hi2]; rfl))⟩ : ∃ b off, a = some ⟨b, off, none⟩ ∧ ∀ i, i < rows.length → W.cell? ⟨b, off + i, none⟩ = some (.slice (A i).1 (rows.getD i []).length (A i).2)))
  have HO := Lib.hid (fun i (hi2 : i < rows.length) W (hW : Below w.heap.size w W) => by
    have hm := lrow_mem hi2
    have hle := hrect _ hm
    have := longOf_any W (A i).1 (A i).2 (rows.getD i []) ((hrow i hi2).below hW (Nat.le_refl _)) (hi _ hm) (by omega) (by omega) (L.below hW)
    rw [hle] at this
    exact this)
  have Hlen : Hid (∀ i, i < rows.length → (rows.getD i []).length = n) := fun i hi2 => hrect _ (lrow_mem hi2)
  have HE : Hid (∀ i, ent rows i = fun j => (rows.getD i []).getD j 0) := fun i => rfl
  clear hrow hA hi hrect L
  obtain ⟨m, hm⟩ : ∃ m, rows.length = m := ⟨_, rfl⟩
  rw [hm] at hl Hc HO Hlen ⊢
  clear hm
  by_cases hm0 : m = 0
  · subst hm0
    clear Hc HO Hlen
    go_enter Tryz.func74, Tryz.ntmps74
    go_wp2_with fail
    go_loopw [3, 8] (fun o z wr => o = .slice none 0 0 ∧ z = .int .i64 0 ∧ wr = w) (fun _ _ _ => 0)
    case atStart => exact ⟨rfl, rfl, rfl⟩
    case round =>
      obtain ⟨rfl, rfl, rfl⟩ := hrel
      go_wp2_with fail
      go_ret
      exact ⟨none, 0, fun _ => (0, 0, 0), rfl, BldS.nil wr wr.heap.size n (fun _ => (0, 0, 0)) _, Below.refl _ _⟩
  · obtain ⟨b, off, rfl, -⟩ := Hc.out (by omega) w (Below.refl _ _)
    have Hk : Hid (∀ W, Below w.heap.size w W → ∀ i, i < m → W.cell? ⟨b, off + i, none⟩ = some (.slice (A i).1 n (A i).2)) := fun W hW i hi2 => by
      obtain ⟨b', off', e, h⟩ := Hc.out (by omega) W hW
      simp only [Option.some.injEq, Addr.mk.injEq, and_true] at e
      obtain ⟨rfl, rfl⟩ := e
      rw [h i hi2, Hlen.out i hi2]
    clear Hc
    go_enter Tryz.func74, Tryz.ntmps74
    go_wp2_with fail
    go_loopw [3, 8] (fun o z wr => ∃ (t : Nat) (a : Option Addr) (c : Nat) (K : Nat → Nat × Nat × Nat), t ≤ m ∧ z = .int .i64 t ∧ o = .slice a t c ∧ Hid (BldS wr w.heap.size a c t n K (ent rows)) ∧ Hid (Below w.heap.size w wr)) (fun _ z _ => m - (intOf z).toNat)
    case atStart => exact ⟨0, none, 0, fun _ => (0, 0, 0), Nat.zero_le _, rfl, rfl, BldS.nil _ _ _ _ _, Below.refl _ _⟩
    case round =>
      obtain ⟨t, a, c, K, ht, rfl, rfl, O, D⟩ := hrel
      by_cases hlt : t < m
      · have hlt' : (t : Int) < m := by omega
        have hltt : decide (t < m) = true := decide_eq_true hlt
        have ct := Hk.out wr D.out t hlt
        have HOt := Lib.hid (HO.out t hlt wr D.out)
        have Hlt := Lib.hid (Hlen.out t hlt)
        have Het := Lib.hid (HE.out t)
        generalize (A t).1 = a1 at *
        generalize (A t).2 = c1 at *
        generalize rows.getD t [] = xs at *
        go_wp2_with fail
        refine Calls.mono HOt.out ?_
        rintro e w1 ⟨a2, c2, rfl, hown, hb1⟩
        have R1 := Lib.hid (own_rowS hown hn Hlt.out)
        obtain ⟨g, rfl, hg1, hg2, hg3⟩ := R1.out
        have G1 := Lib.hid hg1
        have G2 := Lib.hid hg2
        have G3 := Lib.hid hg3
        have D1 := Lib.hid (D.out.trans (hb1.mono D.out.size))
        have O1 := Lib.hid (O.out.below hb1 (Nat.le_refl _))
        have hO1 := O1.out.own
        have Hne1 : Hid (∀ i, i < t → (K i).1 ≠ g) := fun i hi e => by have := (O.out.row i hi).lt; omega
        have Hne2 : Hid ((Value.slice a t c).ownBlock ≠ some g) := fun e => by have := (O.out.size e).2; omega
        have HBg : Hid (w.heap.size ≤ g) := Nat.le_trans D.out.size hg1
        clear hown hb1 D O R1 hg1 hg2 hg3 ct HOt
        go_wp2_with (at_builtin; refine append_new_at rfl (.tmp 12) (.tmp 15) 112 rfl elLL _ 1 [.slice (some ⟨g, 0, none⟩) n c2] rfl rfl hO1 D1.out.size rfl ?c1 (by omega) (by omega) ?_)
        case c1 => first | rfl | (intro u hu; obtain rfl := List.mem_singleton.1 hu; rfl)
        intro v' w2 hown2 hg2 hs2
        obtain ⟨a3, c3, rfl⟩ := own_form hown2
        have B2 : Hid (Below w.heap.size w w2) := ((D1.out.alloc D1.out.size _)).grown hg2 (Nat.le_trans D1.out.size (by simp)) (fun kk hk => (O1.out.size hk).1)
        have O2 := Lib.hid (O1.out.push G3.out HBg.out G2.out Hne1.out Hne2.out _ hown2 hg2 hs2)
        clear hown2 hg2 hs2 O1 D1 hO1 Hne1 Hne2 HBg G1 G2 G3
        go_wp2
        go_roundw
        case rel =>
          refine ⟨t + 1, a3, c3, _, by omega, by go_num, rfl, ⟨O2.out.own, O2.out.lo, O2.out.inj, fun i hi2 => (O2.out.row i hi2).congr fun j _ => ?_, O2.out.cap⟩, B2⟩
          by_cases e : i = t
          · rw [e, if_pos rfl, Het.out]
          · rw [if_neg e]
        case measure => simp [intOf]; omega
      · have hlt' : ¬ (t : Int) < m := by omega
        have hltt : decide (t < m) = false := decide_eq_false hlt
        obtain rfl : m = t := by omega
        go_wp2
        go_ret
        exact ⟨a, c, K, rfl, O.out, D.out⟩
theorem longsOf_any (w : World) (a : Option Addr) (c n : Nat) (rows : List (List Int)) (hr : RdM w a rows) (hrect : Rect n rows) (hi : ∀ r ∈ rows, I64s r) (hn : 0 < n) (hn1 : n ≤ 100) (hl : rows.length ≤ 100) (L : Laid w) :
    Calls Tryz.prog 74 #[.slice a rows.length c] w fun e w' => ∃ v', e = .returned v' ∧ MatV w' w.heap.size v' rows.length n (ent rows) ∧ Below w.heap.size w w' := by
  refine Calls.mono (longsOf_bld w a c n rows hr hrect hi hn hn1 hl L) ?_
  rintro e w' ⟨a', c', K, rfl, h, hb⟩
  exact ⟨_, rfl, h.mat, hb⟩

def ResI (w:World) (n:Nat) (l:List Int) (e:Ending):Prop:=(mx l=0∧∃ a c,e = .returned (.tuple #[.slice a n c,.int .i64 0])∧Rd w a (ints l))∨(mx l≠0∧e = .returned (.tuple #[.slice none 0 0,.int .i64 4]))
theorem ResI.form{w:World}{n:Nat}{l:List Int}{e:Ending}(h:ResI w n l e):∃ v1 v2,e = .returned (.tuple #[v1,v2]):=by
 rcases h with⟨_,a,c,h,_⟩|⟨_,h⟩
 ·exact⟨_,_,h⟩
 ·exact⟨_,_,h⟩
def Ok (c:Nat→Nat→Int) (u v:Nat):Prop:=0≤c v u∧(c v u=0→u<v)
structure Srt (c:Nat→Nat→Int) (n i:Nat) (F:Nat→Nat):Prop where
 lt:∀ k,k<n→F k<n
 inj:∀ k m,k<n→m<n→F k=F m→k=m
 hi:∀ k,i≤k→k<n→F k=k
 lo:∀ k,k<i→F k<i
 adj:∀ k,k+1<i→Ok c (F k) (F (k+1))
structure Ins (c:Nat→Nat→Int) (n i j:Nat) (F:Nat→Nat):Prop where
 lt:∀ k,k<n→F k<n
 inj:∀ k m,k<n→m<n→F k=F m→k=m
 x:F j=i
 hi:∀ k,i<k→k<n→F k=k
 lo:∀ k,k≤i→F k≤i
 a1:∀ k,k+1<j→Ok c (F k) (F (k+1))
 a2:∀ k,j<k→k+1≤i→Ok c (F k) (F (k+1))
 a3:∀ k,k+1=j→j<i→Ok c (F k) (F (j+1))
 a4:j<i→Ok c i (F (j+1))
 ji:j≤i
 n:i<n
theorem Srt.first(c:Nat→Nat→Int)(n:Nat):Srt c n 1 fun k=>k :=
 ⟨fun _ h=>h,fun _ _ _ _ h=>h,fun _ _ _=>rfl,fun _ h=>h,fun _ h=>by omega⟩
theorem Srt.start{c:Nat→Nat→Int}{n i:Nat}{F:Nat→Nat}(h:Srt c n i F)(hi:i<n):Ins c n i i F :=
 ⟨h.lt,h.inj,h.hi i nr_ hi,fun k h1 h2=>h.hi k (by omega) h2,fun k hk=>by
  rcases Nat.lt_or_ge k i with h1|h1
  ·exact Nat.le_of_lt (h.lo k h1)
  ·have:k=i:=by omega
   rw[this,h.hi i nr_ hi];exact Nat.le_refl _,h.adj,fun k h1 h2=>by omega,fun k h1 h2=>by omega,fun h1=>by omega,Nat.le_refl _,hi⟩
def swF (F:Nat→Nat) (j:Nat):Nat→Nat:=fun k=>if k=j then F (j+1) else if k=j+1 then F j else F k
theorem Ins.swap{c:Nat→Nat→Int}(hc:∀ u v,c v u = - c u v){n i j:Nat}{F:Nat→Nat}(h:Ins c n i (j+1) F)(hs:c (F (j+1)) (F j)<0):Ins c n i j (swF F j):=by
 have hji:=h.ji;have hn:=h.n;have hx:=h.x;have s1:swF F j j=i:=by unfold swF;rw[if_pos rfl];exact hx
 have s2:swF F j (j+1)=F j:=by unfold swF;rw[if_neg (by omega),if_pos rfl]
 have s3:∀ k,k≠j→k≠j+1→swF F j k=F k:=fun k h1 h2=>by unfold swF;rw[if_neg h1,if_neg h2]
 refine⟨fun k hk=>?_,fun k m hk hm e=>?_,s1,fun k h1 h2=>?_,fun k hk=>?_,fun k hk=>?_,fun k h1 h2=>?_,fun k h1 h2=>?_,fun h1=>?_,by omega,hn⟩
 ·unfold swF;split
  ·exact h.lt _ (by omega)
  ·split
   ·exact h.lt _ (by omega)
   ·exact h.lt _ hk
 ·unfold swF at e
  by_cases k1:k=j
  ·by_cases m1:m=j
   ·omega
   ·rw[if_pos k1,if_neg m1] at e
    by_cases m2:m=j+1
    ·rw[if_pos m2] at e;have:=h.inj _ _ (by omega) (by omega) e
     omega
    ·rw[if_neg m2] at e;have:=h.inj _ _ (by omega) hm e
     omega
  ·rw[if_neg k1] at e
   by_cases k2:k=j+1
   ·rw[if_pos k2] at e
    by_cases m1:m=j
    ·rw[if_pos m1] at e;have:=h.inj _ _ (by omega) (by omega) e
     omega
    ·rw[if_neg m1] at e
     by_cases m2:m=j+1
     ·omega
     ·rw[if_neg m2] at e;have:=h.inj _ _ (by omega) hm e
      omega
   ·rw[if_neg k2] at e
    by_cases m1:m=j
    ·rw[if_pos m1] at e;have:=h.inj _ _ hk (by omega) e
     omega
    ·rw[if_neg m1] at e
     by_cases m2:m=j+1
     ·rw[if_pos m2] at e;have:=h.inj _ _ hk (by omega) e
      omega
     ·rw[if_neg m2] at e;exact h.inj _ _ hk hm e
 ·rw[s3 k (by omega) (by omega)];exact h.hi k h1 h2
 ·unfold swF;split
  ·omega
  ·split
   ·exact h.lo _ (by omega)
   ·exact h.lo _ hk
 ·rw[s3 k (by omega) (by omega),s3 (k+1) (by omega) (by omega)];exact h.a1 k (by omega)
 ·rcases Nat.lt_or_ge (j+1) k with h3 | h3
  ·rw[s3 k (by omega) (by omega),s3 (k+1) (by omega) (by omega)];exact h.a2 k h3 h2
  ·have e:k=j+1:=by omega
   subst e;rw[s2,s3 (j+1+1) (by omega) (by omega)];exact h.a3 j rfl (by omega)
 ·subst h1;rw[s3 k (by omega) (by omega),s2];exact h.a1 k (by omega)
 ·rw[s2,← hx];have e:=hc (F (j+1)) (F j);exact⟨by omega,fun h0=>by omega⟩
structure RowF (W:World) (g n:Nat) (F:Nat→Nat):Prop where
 lt:g<W.heap.size
 cell:∀ k,k<n→W.cell? ⟨g,k,none⟩=some (.int .i64 (F k:Nat))
 fr:∀ k,W.frozen? ⟨g,k,none⟩=false
theorem RowF.below{W W':World}{g n D:Nat}{F:Nat→Nat}(h:RowF W g n F)(hb:Below D W W')(hD:W.heap.size≤D):RowF W' g n F:=by
 have hlt:=h.lt;have e:=hb.block g (by omega);have hs:=hb.size;refine⟨?_,fun k hk=>?_,fun k=>?_⟩
 ·have h2:=Array.getElem?_eq_some_iff.1 (show W.heap[g]?=some W.heap[g] from Array.getElem?_eq_getElem hlt);rw[Array.getElem?_eq_getElem hlt] at e;exact(Array.getElem?_eq_some_iff.1 e).1
 ·rw[hb.cell (p:=⟨g,k,none⟩) (show g<D by omega)];exact h.cell k hk
 ·have:=h.fr k
  unfold World.frozen? at this ⊢;rw[show W'.heap[(⟨g,k,none⟩:Addr).block]?=W.heap[(⟨g,k,none⟩:Addr).block]? from e];exact this
theorem RowF.swap{W:World}{g n:Nat}{F:Nat→Nat}(h:RowF W g n F)(j:Nat)(hj:j+1<n):
  RowF ((W.setCell ⟨g,j+1,none⟩ (.int .i64 (F j:Nat))).setCell ⟨g,j,none⟩ (.int .i64 (F (j+1):Nat))) g n (swF F j):=by
 have h0:=h.cell j (by omega);have h1:=h.cell (j+1) hj;have ne:∀ a b:Nat,a≠b→(⟨g,a,none⟩:Addr)≠⟨g,b,none⟩:=fun a b hab e=>by cases e;exact hab rfl
 refine⟨by simpa using h.lt,fun k hk=>?_,fun k=>?_⟩
 ·unfold swF
  by_cases k1:k=j
  ·subst k1;rw[if_pos rfl];exact World.cell?_setCell_same _ _ _ (u := .int .i64 (F k:Nat)) (by rw[World.cell?_setCell_other _ _ _ _ (ne _ _ (by omega))];exact h0)
  ·rw[if_neg k1,World.cell?_setCell_other _ _ _ _ (ne _ _ (fun e=>k1 e.symm))]
   by_cases k2:k=j+1
   ·subst k2;rw[if_pos rfl];exact World.cell?_setCell_same _ _ _ h1
   ·rw[if_neg k2,World.cell?_setCell_other _ _ _ _ (ne _ _ (fun e=>k2 e.symm))];exact h.cell k hk
 ·have:=h.fr k
  simpa using this
theorem RowF.rd{W:World}{g n:Nat}{F:Nat→Nat}(h:RowF W g n F):Rd W (some ⟨g,0,none⟩) (ints ((List.range n).map fun (k:Nat)=>((F k:Nat):Int))):=by
 refine .inr ⟨g,0,rfl,h.lt,fun i v hv=>?_⟩;rw[Nat.zero_add];have hi:i<n:=by
  have:=(List.getElem?_eq_some_iff.1 hv).1
  simpa [ints_length] using this
 rw[ints_get _ i (by simpa using hi)] at hv;cases hv
 rw[h.cell i hi];simp
def RowB (W:World) (g:Nat) (t:TypeId) (D:List UInt8):Prop:=W.rowIs g t D.length (fun i => .int .u8 ((D.getD i 0).toNat:Nat))
theorem RowB.cell{W:World}{g:Nat}{t:TypeId}{D:List UInt8}(h:RowB W g t D){i:Nat}(hi:i<D.length):W.cell? ⟨g,i,none⟩=some (.int .u8 ((D.getD i 0).toNat:Nat)):=World.rowIs.cell h hi
theorem RowB.frozen{W:World}{g:Nat}{t:TypeId}{D:List UInt8}(h:RowB W g t D)(i:Nat):W.frozen? ⟨g,i,none⟩=false:=World.rowIs.frozen h i
theorem RowB.set{W:World}{g:Nat}{t:TypeId}{D:List UInt8}(h:RowB W g t D)(i x:Nat)(hx:x<256):RowB (W.setCell ⟨g,i,none⟩ (.int .u8 (x:Nat))) g t (D.set i (UInt8.ofNat x)):=by
 unfold RowB;rw[List.length_set];refine(World.rowIs.set h i _).congr fun j hj=>?_
 by_cases e:j=i
 ·subst e;rw[if_pos rfl];simp only[List.getD_eq_getElem?_getD,List.getElem?_set];simp only[if_true,if_pos hj,Option.getD_some];simp[Nat.mod_eq_of_lt hx]
 ·rw[if_neg e];simp only[List.getD_eq_getElem?_getD,List.getElem?_set];rw[if_neg (fun h=>e h.symm)]
theorem RowB.text{W:World}{g:Nat}{t src dst e:TypeId}{D:List UInt8}(h:RowB W g t D)(k n c:Nat)(hn:k+n=D.length)
  (hs:Tryz.prog.underlying src=some (.slice e)) (he:Tryz.prog.underlying e=some (.int .u8)) (hd:Tryz.prog.underlying dst=some .string) :
  (convert src dst (.slice (some ⟨g,k,none⟩) n c)).run Tryz.prog W = .ok (.string ⟨(D.drop k).toArray⟩) W:=by
 have hl:(D.drop k).length=n:=by simp;omega
 rw[← hl];refine run_convert_bytes_back W src dst e ⟨g,k,none⟩ c (D.drop k) hs he hd fun j hj=>?_
 rw[Lib.add_plain];rw[RowB.cell h (by omega)];rw[List.getD_eq_getElem?_getD,List.getElem?_eq_getElem (by omega)];simp
def jn (L:List ByteArray):ByteArray:=⟨(Lib.join (L.map (·.data.toList)) [32]).toArray⟩
theorem Digs.reverse{l:List UInt8}(h:Digs l):Digs l.reverse:=fun c hc=>h c (List.mem_reverse.1 hc)
structure JAt (w:World) (n:Nat) (T:List UInt8) (wr:World):Prop where
 row:∃ D,RowB wr w.heap.size 5 D∧D.length=9*n+1∧(D.getD 0 0).toNat=48∧D.drop (9*n+1-T.length)=T
 bel:Below w.heap.size w wr
theorem JAt.set{w wr:World}{n:Nat}{T:List UInt8}(h:JAt w n T wr)(m x:Nat)(hm:m+T.length=9*n)(hm0:0<m)(hx:x<256):JAt w n (UInt8.ofNat x::T) (wr.setCell ⟨w.heap.size,m,none⟩ (.int .u8 (x:Nat))):=by
 obtain⟨D,h1,h2,h3,h4⟩:=h.row;refine⟨⟨D.set m (UInt8.ofNat x),h1.set m x hx,by rw[List.length_set];exact h2,?_,?_⟩,h.bel.setCell nr_ _⟩
 ·rw[List.getD_eq_getElem?_getD,List.getElem?_set_ne (by omega),← List.getD_eq_getElem?_getD];exact h3
 ·have e:9*n+1-(UInt8.ofNat x::T).length=m:=by simp;omega
  rw[e,List.drop_eq_getElem_cons (by simp;omega),List.getElem_set_self,List.drop_set,if_pos (by omega)];congr 1;rw[← h4];congr 1;omega
theorem JAt.cell{w wr:World}{n:Nat}{T:List UInt8}(h:JAt w n T wr)(m:Nat)(hm:m≤9*n):(∃ x:Nat,wr.cell? ⟨w.heap.size,m,none⟩=some (.int .u8 x))∧wr.frozen? ⟨w.heap.size,m,none⟩=false:=by
 obtain⟨D,h1,h2,_,_⟩:=h.row;exact⟨⟨_,h1.cell (by omega)⟩,h1.frozen m⟩
theorem JAt.done{w wr:World}{n:Nat}{T:List UInt8}(h:JAt w n T wr)(hT:T.length=9*n)(hd:Digs T):∃ D,RowB wr w.heap.size 5 D∧D.length=9*n+1∧Digs D∧dval D=dval T:=by
 obtain⟨D,h1,h2,h3,h4⟩:=h.row;have e:9*n+1-T.length=1:=by omega
 rw[e] at h4
 match D,h2,h3,h4 with
 | c::D,h2,h3,h4 =>
  obtain rfl:D=T:=by simpa using h4
  have hc:c.toNat=48:=by simpa using h3
  refine⟨_,h1,h2,fun y hy=>?_,?_⟩
  ·rcases List.mem_cons.1 hy with rfl | hy
   ·omega
   ·exact hd y hy
  ·rw[dval_cons,hc];simp
end Go.Proofs.YtepicfdhphiiaaaGreatDoor

namespace Go.Proofs.YtepicfdhphiiaaaGreatDoor.LN
def upP:List Int→List Int→Nat
 | p::ps,k::ks=>p.toNat^k.toNat*upP ps ks
 | _,_=>1
theorem upP_snoc:∀ (ps ks:List Int) (p k:Int),ps.length=ks.length→upP (ps++[p]) (ks++[k])=upP ps ks*p.toNat^k.toNat
 | [],[],p,k,_=>by simp[upP]
 | q::ps,m::ks,p,k,h=>by
  have ih:=upP_snoc ps ks p k (by simpa using h);simp only[List.cons_append,upP];rw[ih,Nat.mul_assoc]
theorem upP_le(K:Nat):∀ (ps ks:List Int),(∀ p∈ps,2≤p∧p≤97)→(∀ k∈ks,k≤(K:Int))→upP ps ks<10^(2*K*ps.length+1)
 | [],_,_,_=>by simp[upP]
 | _::_,[],_,_=>by
  simp only[upP];exact Nat.one_lt_pow (by omega) (by decide)
 | p::ps,k::ks,h,h2=>by
  have ih:=upP_le K ps ks (fun q hq=>h q (List.mem_cons_of_mem _ hq)) fun q hq=>h2 q (List.mem_cons_of_mem _ hq)
  obtain⟨a,b⟩:=h p List.mem_cons_self;have hk:=h2 k List.mem_cons_self;simp only[upP];have h3:p.toNat^k.toNat≤100^k.toNat:=Nat.pow_le_pow_left (by omega) _;have h4:100^k.toNat≤100^K:=Nat.pow_le_pow_right (by decide) (by omega);have h5:(100:Nat)^K=10^(2*K):=by rw[show (100:Nat)=10^2 from rfl,← Nat.pow_mul]
  rw[h5] at h4;have e:10^(2*K*(p::ps).length+1)=10^(2*K)*10^(2*K*ps.length+1):=by rw[← Nat.pow_add];congr 1;rw[List.length_cons,Nat.mul_add];omega
  rw[e];exact Nat.mul_lt_mul_of_le_of_lt (Nat.le_trans h3 h4) ih (Nat.pow_pos (by decide))
end Go.Proofs.YtepicfdhphiiaaaGreatDoor.LN

namespace Go.Proofs.YtepicfdhphiiaaaGreatDoor
open Go.RowKit
structure UpAt (ps ks:List Int) (k u d:Nat):Prop where
 up:u=LN.upP (ps.take k) (ks.take k)
 dn:d=LN.upP (ps.take k) ((ks.map fun z => -z).take k)
 le:∀ z∈ks.take k,z≤500 ∧ -500≤z
theorem take_next{α:Type}(l:List α)(k:Nat)(h:k<l.length):l.take (k+1)=l.take k++[l[k]]:=List.take_succ_eq_append_getElem h
theorem UpAt.next{ps ks:List Int}{k u d:Nat}(h:UpAt ps ks k u d)(h1:k<ps.length)(hk:k<ks.length)(hz:ks[k]≤500 ∧ -500≤ks[k]):
  UpAt ps ks (k+1) (u*ps[k].toNat^ks[k].toNat) (d*ps[k].toNat^(-ks[k]).toNat):=by
 refine⟨?_,?_,?_⟩
 ·rw[take_next ps k h1,take_next ks k hk,LN.upP_snoc _ _ _ _ (by simp;omega),← h.up]
 ·have hk2:k<(ks.map fun z => -z).length:=by simpa using hk
  rw[take_next ps k h1,take_next _ k hk2,LN.upP_snoc _ _ _ _ (by simp;omega),← h.dn,List.getElem_map]
 ·intro z hz2;rw[take_next ks k hk] at hz2;rcases List.mem_append.1 hz2 with h3|h3
  ·exact h.le z h3
  ·obtain rfl:=List.mem_singleton.1 h3;exact hz
theorem UpAt.num{ps ks:List Int}{k u d:Nat}(h:UpAt ps ks k u d)(hp:∀ p∈ps,2≤p∧p≤97)(hn:ps.length≤100):Num u∧Num d:=by
 have hl:(ps.take k).length≤100:=by simp;omega
 have hb:2*500*(ps.take k).length+1≤1000000:=by omega
 have hp':∀ p∈ps.take k,2≤p∧p≤97:=fun p hp1=>hp p (List.mem_of_mem_take hp1)
 refine⟨?_,?_⟩
 ·rw[h.up];exact num_pow (LN.upP_le 500 _ _ hp' fun z hz=>by have:=h.le z hz;omega) (by omega) hb
 ·rw[h.dn];refine num_pow (LN.upP_le 500 _ _ hp' fun z hz=>?_) (by omega) hb;rw[← List.map_take] at hz;obtain⟨y,hy,rfl⟩:=List.mem_map.1 hz;have:=h.le y hy
  omega
end Go.Proofs.YtepicfdhphiiaaaGreatDoor

namespace Go.Proofs.YtepicfdhphiiaaaGreatDoor
open Go.ChangeShapes Go.WideShapes Go.ChangeAt Go.RowKit
theorem own:ownKnob Tryz.prog.godebug=none:=by kernel_rfl
end Go.Proofs.YtepicfdhphiiaaaGreatDoor

namespace Go.Proofs.YtepicfdhphiiaaaGreatDoor
open Go.ChangeShapes Go.WideShapes Go.ChangeAt Go.RowKit Go.Joins
section
variable {H:Type} {enc:TypeId×Value→H} {W:World}
def four {α:Type} (a b c d z : α):Nat → α
 | 0=>a | 1=>b | 2=>c | 3=>d | _=>z
end
end Go.Proofs.YtepicfdhphiiaaaGreatDoor

namespace Go.Proofs.YtepicfdhphiiaaaGreatDoor
open Go.ChangeShapes Go.WideShapes Go.ChangeAt Go.RowKit Go.Joins
section
variable {H:Type} {enc:TypeId×Value→H} {W:World}
end
end Go.Proofs.YtepicfdhphiiaaaGreatDoor

namespace Go.Proofs.YtepicfdhphiiaaaGreatDoor
open Go.RowKit
theorem rdi_cells{W:World}{al:Option Addr}{l:List (List Int)}(h:RdI W al l)(h0:0<l.length):
  ∃ b off,al=some ⟨b,off,none⟩∧b<W.heap.size∧∀ (i:Nat) (hi:i<l.length),∃ a' c',W.cell? ⟨b,off+i,none⟩=some (.slice a' l[i].length c')∧Rd W a' (ints l[i]):=by
 rcases h with rfl|⟨b,off,rfl,hb,hc⟩
 ·simp at h0
 ·refine⟨b,off,rfl,hb,fun i hi=>?_⟩;have:=hc i hi
  rw[List.getD_eq_getElem?_getD,List.getElem?_eq_getElem hi] at this;exact this
def idxB {α:Type} (pf : α→Bool):List α→Nat→Int
 | [],_ => -1
 | x::l,k=>if pf x=true then (k:Int) else idxB pf l (k+1)
theorem idxB_any{α:Type}(pf : α→Bool):∀ (l:List α) (k:Nat),decide (0≤idxB pf l k)=l.any pf
 | [],_=>by simp[idxB]
 | x::l,k=>by
  unfold idxB;rw[List.any_cons]
  by_cases h:pf x=true
  ·rw[if_pos h,h];simp
  ·rw[if_neg h,idxB_any pf l (k+1)];simp only[Bool.not_eq_true] at h;rw[h,Bool.false_or]
theorem idxI_any(w:World)(a:Option Addr)(c:Nat)(l:List Int)(hr:Rd w a (ints l))(hl:l.length≤1000000)(f:FuncId)(lb:Array Value)(eg:∀ args w,(callFunc f args).run Tryz.prog w = .ok (.enter f args) w)(pf:Int→Bool)
  (hcl:∀ W,Below w.heap.size w W→∀ x∈l,Gives Tryz.prog f (#[.int .i64 x]++lb) W (.bool (pf x))) :
  Gives Tryz.prog 145 #[.slice a l.length c,.func (.func f) #[] lb] w (.int .i64 (idxB pf l 0)):=by
 unfold Gives;have Hr:=hd_ hr;have Hcl:=hd_ hcl;clear hr hcl;generalize hm:l.length=m at *;have Hm:=hd_ hm;clear hm;generalize hv:idxB pf l 0=v at *;have Hvv:Hid (v=idxB pf l 0):=hv.symm;clear hv;go_enter Tryz.func145,Tryz.ntmps145;go_wp2_with fail
 go_loopw [8] (fun i wr=>∃ k:Nat,k≤m∧i = .int .i64 k∧Hid (v=idxB pf (l.drop k) k)∧Hid (Below w.heap.size w wr)) (fun i _=>m-(intOf i).toNat)
 case atStart=>exact⟨0,Nat.zero_le _,rfl,Hvv,Below.refl _ _⟩
 case round =>
  clear Hvv;obtain⟨k,hk,rfl,Hx,B⟩:=hrel
  by_cases hlt:k<m
  ·have hlt':(k:Int)<m:=by omega
   have hkb:k<l.length:=by rw[Hm.out];exact hlt
   obtain⟨b,off,rfl,hb,hcells⟩:=Hr.out.open (by rw[ints_length];omega);have cy:=hcells k _ (ints_get l k hkb);rw[← B.out.cell (p:=⟨b,off+k,none⟩) hb] at cy;have Hd:Hid (l.drop k=l[k]::l.drop (k+1)):=List.drop_eq_getElem_cons hkb;have Hc:=hd_ (Hcl.out wr B.out l[k] (List.getElem_mem hkb));clear hcells;generalize l[k]=x at *;cases hf:pf x with
   | false =>
    have Hn:Hid (v=idxB pf (l.drop (k+1)) (k+1)):=by show _=_;rw[Hx.out,Hd.out,idxB,if_neg (by rw[hf];decide)]
    rw[hf] at Hc;go_wp2_with fail;refine cm_ Hc.out ?_;rintro e w1 ⟨rfl,hb1⟩;have B1:=bt_ B hb1;clear hb1 Hc B cy;go_wp2_with fail
    go_roundw
    case rel=>exact⟨k+1,by omega,by go_num,Hn,B1⟩
    case measure=>simp[intOf];omega
   | true =>
    have Hn:Hid (v=k):=by show _=_;rw[Hx.out,Hd.out,idxB,if_pos hf]
    rw[hf] at Hc;go_wp2_with fail;refine cm_ Hc.out ?_;rintro e w1 ⟨rfl,hb1⟩;have B1:=bt_ B hb1;clear hb1 Hc B cy;go_wp2_with fail;go_ret;exact⟨by rw[Hn.out];rfl,B1.out⟩
  ·have hlt':¬ (k:Int)<m:=by omega
   have Hn:Hid (v = -1):=by show _=_;rw[Hx.out,List.drop_of_length_le (by rw[Hm.out];omega)];rfl
   go_wp2_with fail;go_ret;exact⟨by rw[Hn.out];rfl,B.out⟩
theorem conI_any(w:World)(a:Option Addr)(c:Nat)(l:List Int)(hr:Rd w a (ints l))(hl:l.length≤1000000)(f:FuncId)(lb:Array Value)(eg:∀ args w,(callFunc f args).run Tryz.prog w = .ok (.enter f args) w)(pf:Int→Bool)
  (hcl:∀ W,Below w.heap.size w W→∀ x∈l,Gives Tryz.prog f (#[.int .i64 x]++lb) W (.bool (pf x))) :
  Gives Tryz.prog 114 #[.slice a l.length c,.func (.func f) #[] lb] w (.bool (l.any pf)):=by
 unfold Gives;have Hc:=hd_ (idxI_any w a c l hr hl f lb eg pf hcl);have Hv:=hd_ (idxB_any pf l 0);unfold Gives at Hc;clear hr hcl;generalize l.length=m at *;generalize idxB pf l 0=v at *;generalize l.any pf=z at *;go_enter Tryz.func114,Tryz.ntmps114;go_wp2_with fail;refine cm_ Hc.out ?_;rintro e w1 ⟨rfl,hb1⟩;have B1:=hd_ hb1;clear hb1 Hc;go_wp2_with fail;go_ret;exact⟨by rw[← Hv.out];rfl,B1.out⟩
theorem enter_of {f : FuncId} {fn : Func} {c : Code} (hf : Tryz.prog.funcs[f]? = some fn) (hname : (fn.name == "runtime.NumGoroutine") = false) (hb : fn.body = some c) : ∀ args w, (callFunc f args).run Tryz.prog w = .ok (.enter f args) w := enters_of hf hname hb
theorem islEq_any(w:World)(a1 a2:Option Addr)(c1 c2:Nat)(la lb:List Int)(r1:Rd w a1 (ints la))(r2:Rd w a2 (ints lb))(hbig:la.length≤1000000):
  Gives Tryz.prog 79 #[.slice a1 la.length c1,.slice a2 lb.length c2] w (.bool (decide (la=lb))):=by
 unfold Gives
 by_cases hl:la.length=lb.length
 ·have R1:=hd_ r1;have R2:=hd_ r2;have Hyes:Hid (∀ k,(∀ j (h1:j<la.length) (h2:j<lb.length),j<k→la[j]=lb[j])→k=la.length→la=lb):=fun k h hk=>List.ext_getElem hl fun i h1 h2=>h i h1 h2 (by omega)
  have Hno:Hid (∀ k (h1:k<la.length) (h2:k<lb.length),la[k]≠lb[k]→¬ la=lb):=fun k h1 h2 hne he=>hne (by subst he;rfl)
  obtain⟨n,hn⟩:∃ n,la.length=n:=⟨_,rfl⟩;have hm:lb.length=n:=hl.symm.trans hn;rw[hn] at hbig;rw[hn,hm];have Hn:=hd_ hn;have Hm:=hd_ hm;clear hl r1 r2 hn hm;go_enter Tryz.func79,Tryz.ntmps79;go_wp2_with fail
  go_loopw [13] (fun i wr=>∃ k:Nat,k≤n∧i = .int .i64 k∧Hid (∀ j (h1:j<la.length) (h2:j<lb.length),j<k→la[j]=lb[j])∧Hid (Below w.heap.size w wr)) (fun i _=>n-(intOf i).toNat)
  case atStart=>exact⟨0,Nat.zero_le _,rfl,fun j _ _ hj=>absurd hj (Nat.not_lt_zero _),Below.refl _ _⟩
  case round =>
   obtain⟨k,hk,rfl,Hp,B⟩:=hrel
   by_cases hlt:k<n
   ·have hlt':(k:Int)<n:=by omega
    have h1:k<la.length:=by rw[Hn.out];exact hlt
    have h2:k<lb.length:=by rw[Hm.out];exact hlt
    obtain⟨g1,o1,rfl,hg1,hc1⟩:=R1.out.open (by rw[ints_length];omega);obtain⟨g2,o2,rfl,hg2,hc2⟩:=R2.out.open (by rw[ints_length];omega);have x1:=hc1 k _ (ints_get la k h1);have x2:=hc2 k _ (ints_get lb k h2);rw[← B.out.cell (p:=⟨g1,o1+k,none⟩) hg1] at x1;rw[← B.out.cell (p:=⟨g2,o2+k,none⟩) hg2] at x2;have Hp':Hid (la[k]=lb[k]→∀ j (h1:j<la.length) (h2:j<lb.length),j<k+1→la[j]=lb[j]):=fun he j g1 g2 hj=>by
     rcases Nat.lt_or_ge j k with h|h
     ·exact Hp.out j g1 g2 h
     ·have e:j=k:=by omega
      subst e;exact he
    have Hnk:=hd_ (Hno.out k h1 h2);clear Hp hc1 hc2;generalize la[k]=p at *;generalize lb[k]=q at *;have q1:=cell_regrown x1;have q2:=cell_regrown x2;have HK:=hd_ hlt
    by_cases hpq:p=q
    ·have Hq:=hd_ (Hp'.out hpq);subst hpq;clear Hp' Hnk;go_wp2_with fail;clear x1 x2;refine wp_region_quiet_below (by kernel_rfl) (by kernel_rfl) ?_
     repeat (first | go_big_quiet_step (fail) | quiet_step (fail))
     refine wq_ ?_;intro w6 hw6;obtain⟨⟨dq,osq⟩,rfl⟩:=hw6;have B6:=hd_ (B.out.trans ((below_regrown wr dq osq).mono B.out.size));clear q1 q2 B;generalize Go.Sort.grow (redrawn wr dq) osq=w6 at *;go_wp2_with fail
     go_roundw
     case rel=>exact⟨k+1,HK.out,by go_num,Hq,B6⟩
     case measure=>simp[intOf];omega
    ·have Hz:Hid (decide (la=lb)=false):=decide_eq_false (Hnk.out hpq);have hpq':(p==q)=false:=by rw[beq_eq_false_iff_ne];exact hpq
     clear Hp' Hnk;go_wp2_with fail;clear x1 x2;refine wp_region_quiet_below (by kernel_rfl) (by kernel_rfl) ?_
     repeat (first | go_big_quiet_step (fail) | quiet_step (fail))
     refine wq_ ?_;intro w6 hw6;obtain⟨⟨dq,osq⟩,rfl⟩:=hw6;have B6:=hd_ (B.out.trans ((below_regrown wr dq osq).mono B.out.size));clear q1 q2 B;generalize Go.Sort.grow (redrawn wr dq) osq=w6 at *;go_wp2_with fail;go_ret;exact⟨by rw[Hz.out];rfl,B6.out⟩
   ·have hlt':¬ (k:Int)<n:=by omega
    have Hz:Hid (decide (la=lb)=true):=decide_eq_true (Hyes.out k Hp.out (by rw[Hn.out];omega));clear Hp;go_wp2_with fail;go_ret;exact⟨by rw[Hz.out];rfl,B.out⟩
 ·have Hz:Hid (decide (la=lb)=false):=decide_eq_false fun h=>hl (by rw[h])
  have hne:((la.length:Int)==lb.length)=false:=by rw[beq_eq_false_iff_ne];omega
  clear r1 r2 hl;generalize la.length=n at *;generalize lb.length=m at *;go_enter Tryz.func79,Tryz.ntmps79;go_wp2_with fail;go_ret;exact⟨by rw[Hz.out];rfl,Below.refl _ _⟩
theorem irowEq_any(w:World)(a1 a2:Option Addr)(c1 c2:Nat)(la lb:List Int)(r1:Rd w a1 (ints la))(r2:Rd w a2 (ints lb))(hbig:la.length≤1000000):
  Gives Tryz.prog 77 #[.slice a1 la.length c1,.slice a2 lb.length c2] w (.bool (decide (la=lb))):=by
 have HA:=hd_ (islEq_any w a1 a2 c1 c2 la lb r1 r2 hbig);unfold Gives at *
 clear r1 r2 hbig;generalize decide (la=lb)=z at *;generalize la.length=n at *;generalize lb.length=m at *;go_enter Tryz.func77,Tryz.ntmps77;go_wp2_with fail;refine cm_ HA.out ?_;rintro e w1 ⟨rfl,hb⟩;have B1:=hd_ hb;clear hb HA;go_wp2_with fail;go_ret;exact⟨rfl,B1.out⟩
theorem made_zeros15(n:Nat):madeCells #[.int .i64 0] n=(ints (List.replicate n 0)).toArray:=by
 apply Array.ext';rw[toList_madeCells_one];simp[ints]
theorem made_i15(n:Nat)(w:World)(hn:n≤100000000):
  (Instr.makeSlice 54 (.int .i64 (n:Int)) (.int .i64 (n:Int))).run Tryz.prog w = .ok (.slice (some ⟨w.heap.size,0,none⟩) n n) (w.alloc (.cells (ints (List.replicate n 0)).toArray 3)):=by
 have:=run_make_row' (P:=Tryz.prog) 54 3 (.int .i64 0) 8 Tryz.underlying54 infoP rfl .i64 .i64 n (by omega) (by omega) w
 rw[made_zeros15] at this;exact this
theorem own_made15(w:World)(l:List Int)(hl:l.length≤100000000):OwnI (w.alloc (.cells (ints l).toArray 3)) w.heap.size (some ⟨w.heap.size,0,none⟩) l.length l :=
 ⟨by simp[ints_length],.inr ⟨w.heap.size,l.length,(ints l).toArray,rfl,Nat.le_refl _,heap_alloc_new _ _,Nat.le_refl _,by unfold maxLen;omega,by simp[ints_length],by rw[Nat.mul_one];exact List.take_of_length_le (by simp[ints_length])⟩⟩
end Go.Proofs.YtepicfdhphiiaaaGreatDoor

/- lattice.zeros, behind. -/
namespace Go.Proofs.YtepicfdhphiiaaaGreatDoor
open Go.RowKit

theorem own_lower {w : World} {B B' n sz : Nat} {e : TypeId} {v : Value} {xs : List Value} (h : w.ownsRow B e sz v n xs) (hb : B' ≤ B) : w.ownsRow B' e sz v n xs := by
  refine ⟨h.1, ?_⟩
  rcases h.2 with h1 | ⟨g, cap, cur, h1, h2, h3⟩
  · exact .inl h1
  · exact .inr ⟨g, cap, cur, h1, Nat.le_trans hb h2, h3⟩

theorem zeros_any (w : World) (n : Nat) (h0 : 0 < n) (h6 : n ≤ 1000) (L : Laid w) :
    Calls Tryz.prog 64 #[.int .i64 n] w fun e w' => ∃ a' c', e = .returned (.slice a' n c') ∧ w'.ownsRow w.heap.size 84 1 (.slice a' n c') n (zs (List.replicate n 0)) ∧ Below w.heap.size w w' := by
  have hmk := made_i15 n w (by omega)
  have O := own_made15 w (List.replicate n 0) (by simp; omega)
  have B := Lib.hid ((Below.refl w.heap.size w).alloc (Nat.le_refl _) (.cells (ints (List.replicate n 0)).toArray 3))
  have HL := longOf_any (w.alloc (.cells (ints (List.replicate n 0)).toArray 3)) (some ⟨w.heap.size, 0, none⟩) n (List.replicate n 0) O.rd (fun x hx => by rw [List.eq_of_mem_replicate hx]; decide) (by simp; omega) (by simp; omega) (L.below B.out)
  rw [List.length_replicate] at HL
  have HLo := Lib.hid HL
  clear O HL L
  have hn0 : (0 : Int) < n := by omega
  go_enter Tryz.func64, Tryz.ntmps64
  go_wp2_with fail
  refine Calls.mono HLo.out ?_
  rintro e w1 ⟨a', c', rfl, hown, hb⟩
  have O1 := Lib.hid (own_lower hown (B' := w.heap.size) (by rw [World.size_alloc]; omega))
  have B1 := Lib.hid (B.out.trans (hb.mono (by rw [World.size_alloc]; omega)))
  clear hown hb B HLo hmk
  go_wp2_with fail
  go_ret
  exact ⟨a', c', rfl, O1.out, B1.out⟩

/-- The ends of the rows whose beginnings are zeros. -/
def bhP (n : Nat) (r : List Int) : Bool := decide ((∀ j, j < n → r.getD j 0 = 0) ∧ ∃ j, j < r.length ∧ r.getD j 0 ≠ 0)
def bhL (n : Nat) (R : List (List Int)) : List (List Int) := (R.filter (bhP n)).map (List.drop n)
theorem bhL_succ (n : Nat) (R : List (List Int)) {t : Nat} (h : t < R.length) : bhL n (R.take (t + 1)) = bhL n (R.take t) ++ (if bhP n (R.getD t []) = true then [(R.getD t []).drop n] else []) := by
  unfold bhL
  rw [List.take_add_one, List.getElem?_eq_getElem h, List.getD_eq_getElem?_getD, List.getElem?_eq_getElem h]
  simp only [Option.toList_some, Option.getD_some, List.filter_append, List.map_append]
  congr 1
  by_cases e : bhP n R[t] = true
  · rw [if_pos e, List.filter_cons_of_pos e]; rfl
  · rw [if_neg e, List.filter_cons_of_neg e]; rfl
theorem bhL_le (n : Nat) (R : List (List Int)) : (bhL n R).length ≤ R.length := by
  unfold bhL
  rw [List.length_map]
  exact List.length_filter_le _ _
theorem ent_app_lt (A C : List (List Int)) {i : Nat} (h : i < A.length) (j : Nat) : ent (A ++ C) i j = ent A i j := by
  unfold ent
  congr 1
  rw [List.getD_eq_getElem?_getD, List.getD_eq_getElem?_getD, List.getElem?_append_left h]
theorem ent_app_eq (A : List (List Int)) (r : List Int) (j : Nat) : ent (A ++ [r]) A.length j = r.getD j 0 := by
  unfold ent
  congr 1
  rw [List.getD_eq_getElem?_getD, List.getElem?_append_right (Nat.le_refl _), Nat.sub_self]; rfl
theorem lead_bh {r : List Int} {n N : Nat} {z : Int} (hl : r.length = N) (h : LeadP (fun j => r.getD j 0) N z) : (n : Int) ≤ z ↔ bhP n r = true := by
  unfold bhP
  rw [decide_eq_true_iff]
  rcases h with ⟨rfl, h0⟩ | ⟨k, hk, rfl, hnz, h0⟩
  · constructor
    · intro h1; omega
    · rintro ⟨_, j, hj, hj2⟩
      exact absurd (h0 j (by omega)) hj2
  · constructor
    · intro h1
      exact ⟨fun j hj => h0 j (by omega), k, by omega, hnz⟩
    · rintro ⟨h1, _⟩
      rcases Nat.lt_or_ge k n with h2 | h2
      · exact absurd (h1 k h2) hnz
      · omega

theorem behind_any (w : World) (B n k : Nat) (v : Value) (R : List (List Int)) (hr : Rect (n + k) R) (hh : IsHnf (bhL n R)) (hrb : Rect k (bhL n R)) (he : ∀ i, i < (bhL n R).length → ∀ j, (ent (bhL n R) i j).natAbs ≤ LimN)
    (hV : MatV w B v R.length (n + k) (ent R)) (hB : B ≤ w.heap.size) (hm : R.length ≤ 100) (hk : 0 < k) (hn : n + k ≤ 100) (L : ∀ W, Below B w W → Laid W) :
    Calls Tryz.prog 66 #[v, .int .i64 n, .int .i64 k] w fun x w' => ∃ v', x = .returned v' ∧ MatV w' B v' (bhL n R).length k (ent (bhL n R)) ∧ Below B w w' := by
  have HF := Lib.hid (fun W (hW : Below B w W) v2 (hv : MatV W B v2 (bhL n R).length k (ent (bhL n R))) => form_same W B k v2 (bhL n R) hrb hh he hv (Nat.le_trans hB hW.size) (Nat.le_trans (bhL_le n R) hm) (by omega) (fun W2 hW2 => L W2 (hW.trans hW2)))
  obtain ⟨a, cap, rfl, h0 | ⟨h1, g, K, rfl, M⟩⟩ := hV
  · have hR : R = [] := List.length_eq_zero_iff.1 h0
    subst hR
    have hb : bhL n [] = [] := rfl
    rw [hb] at HF ⊢
    have HF2 := Lib.hid (HF.out w (Below.refl _ _) (.slice none 0 0) ⟨none, 0, rfl, .inl rfl⟩)
    clear HF hr hh hrb he h0 hb L
    show Calls _ _ #[.slice a 0 cap, _, _] _ _
    go_enter Tryz.func66, Tryz.ntmps66
    go_wp2_with fail
    go_loopw [7, 12] (fun o z wr => o = .slice none 0 0 ∧ z = .int .i64 0 ∧ wr = w) (fun _ _ _ => 0)
    case atStart => exact ⟨rfl, rfl, rfl⟩
    case round =>
      obtain ⟨rfl, rfl, rfl⟩ := hrel
      go_wp2_with fail
      refine Calls.mono HF2.out ?_
      rintro e w1 ⟨v', rfl, hM, hb⟩
      have M1 := Lib.hid hM
      have D1 := Lib.hid hb
      clear hM hb HF2
      go_wp2_with fail
      go_ret
      exact ⟨v', rfl, M1.out, D1.out⟩
  · have HM := Lib.hid M
    have Hr := Lib.hid hr
    have Hle := Lib.hid (bhL_le n R)
    have hBw := Lib.hid hB
    have HT0 : Hid (bhL n (R.take 0) = []) := by show _ = _; simp [bhL]
    have HTn : Hid (bhL n (R.take R.length) = bhL n R) := by show _ = _; rw [List.take_length]
    have HTs := Lib.hid (fun t (ht : t < R.length) => bhL_succ n R ht)
    have HL := Lib.hid (fun t (ht : t ≤ R.length) => show (bhL n (R.take t)).length ≤ t from Nat.le_trans (bhL_le _ _) (by rw [List.length_take]; omega))
    have Hlen : Hid (∀ t, t < R.length → (R.getD t []).length = n + k) := fun t ht => hr _ (lrow_mem ht)
    clear hr hh hrb he M L hB
    obtain ⟨m, hme⟩ : ∃ m, R.length = m := ⟨_, rfl⟩
    rw [hme] at HM HTn HTs HL Hlen hm h1 ⊢
    clear hme Hr Hle h1
    go_enter Tryz.func66, Tryz.ntmps66
    go_wp2_with fail
    go_loopw [7, 12] (fun o z wr => ∃ (t : Nat) (q : Nat) (a : Option Addr) (c : Nat) (K2 : Nat → Nat × Nat × Nat), t ≤ m ∧ q ≤ t ∧ z = .int .i64 t ∧ o = .slice a q c ∧ Hid (q = (bhL n (R.take t)).length) ∧ Hid (BldS wr B a c q k K2 (ent (bhL n (R.take t)))) ∧ Hid (∀ i, i < q → ∃ u, u < t ∧ (K2 i).1 = (K u).1) ∧ Hid (∀ k', (Value.slice a q c).ownBlock = some k' → w.heap.size ≤ k') ∧ Hid (Below w.heap.size w wr)) (fun _ z _ => m - (intOf z).toNat)
    case atStart =>
      refine ⟨0, 0, none, 0, fun _ => (0, 0, 0), Nat.zero_le _, Nat.le_refl _, rfl, rfl, ?_, BldS.nil _ _ _ _ _, fun i hi => absurd hi (Nat.not_lt_zero _), fun k' e => by simp [Value.ownBlock] at e, Below.refl _ _⟩
      show _ = _
      rw [HT0.out]; rfl
    case round =>
      obtain ⟨t, q, a, c, K2, ht, hqt, rfl, rfl, Q, O, U, F, D⟩ := hrel
      by_cases hlt : t < m
      · have hlt' : (t : Int) < m := by omega
        have hltt : decide (t < m) = true := decide_eq_true hlt
        have MW := Lib.hid (HM.out.below D.out (Nat.le_refl _))
        have ct := MW.out.out t hlt
        have HLd := Lib.hid (lead_any wr (K t).1 (K t).2.1 (K t).2.2 (n + k) (ent R t) (MW.out.row t hlt) (by omega))
        go_wp2_with fail
        refine Calls.mono HLd.out ?_
        rintro e w1 ⟨⟨r, rfl, hr⟩, hb⟩
        have Hiff := Lib.hid (lead_bh (n := n) (Hlen.out t hlt) hr)
        have D1 := Lib.hid (D.out.trans (hb.mono D.out.size))
        have O1 := Lib.hid (O.out.below hb (Nat.le_refl _))
        have MW1 := Lib.hid (MW.out.below hb (Nat.le_refl _))
        have HTt := Lib.hid (HTs.out t hlt)
        clear hb hr O D MW HLd ct
        by_cases hp : (n : Int) ≤ r
        · have hpt : decide ((n : Int) ≤ r) = true := decide_eq_true hp
          have hb := Hiff.out.1 hp
          have HT2 := Lib.hid (HTt.out)
          rw [if_pos hb] at HT2
          have hcap := MW1.out.cap t hlt
          have hcn : ¬ (K t).2.2 = n := by omega
          have HR := Lib.hid ((MW1.out.row t hlt).drop n (Nat.le_add_right n k))
          rw [Nat.add_sub_cancel_left] at HR
          have hO1 := O1.out.own
          have HB1 := Lib.hid ((MW1.out.lo t hlt).1)
          have HKw : Hid ((K t).1 < w.heap.size) := (HM.out.row t hlt).lt
          have Hd : Hid (k ≤ (K t).2.2 - n) := by show _ ≤ _; omega
          have H1 : Hid (∀ i, i < q → (K2 i).1 ≠ (K t).1) := fun i hi e => by
            obtain ⟨u, h1, h2⟩ := U.out i hi
            rw [h2] at e
            have := HM.out.inj u t (by omega) hlt e
            omega
          have H2 : Hid ((Value.slice a q c).ownBlock ≠ some (K t).1) := fun e => by
            have h1 := F.out _ e
            have h2 := HKw.out
            omega
          clear hb hp Hiff HTt hcap MW1
          go_wp2_with (at_builtin; refine append_new_at rfl (.tmp 20) (.tmp 24) 112 rfl elLL _ 1 [.slice (some ⟨(K t).1, (K t).2.1 + n, none⟩) k ((K t).2.2 - n)] rfl rfl hO1 (Nat.le_trans hBw.out D1.out.size) rfl ?c1 (by omega) (by omega) ?_)
          case c1 => first | rfl | (intro u hu; obtain rfl := List.mem_singleton.1 hu; rfl)
          intro v' w2 hown2 hg2 hs2
          obtain ⟨a3, c3, rfl⟩ := own_form hown2
          have B2 : Hid (Below w.heap.size w w2) := ((D1.out.alloc D1.out.size _)).grown hg2 (Nat.le_trans D1.out.size (by simp)) (fun kk hk => F.out kk hk)
          have O2 := Lib.hid (O1.out.push HR.out HB1.out Hd.out H1.out H2.out _ hown2 hg2 hs2)
          have F2 : Hid (∀ k', (Value.slice a3 (q + 1) c3).ownBlock = some k' → w.heap.size ≤ k') := fun k' e => by
            rcases hs2 with h | h
            · rw [h] at e; exact F.out k' e
            · rw [h] at e
              have e2 := Option.some.inj e
              have := D1.out.size
              omega
          clear hown2 hg2 hs2 O1 D1 hO1 HR H1 H2 Hd
          go_wp2
          go_roundw
          case rel =>
            refine ⟨t + 1, q + 1, a3, c3, _, by omega, by omega, by go_num, rfl, ?_, ⟨O2.out.own, O2.out.lo, O2.out.inj, fun i hi2 => (O2.out.row i hi2).congr fun j _ => ?_, O2.out.cap⟩, fun i hi => ?_, F2, B2⟩
            · show _ = _
              rw [HT2.out, List.length_append, ← Q.out]; rfl
            · by_cases e : i = q
              · rw [e, if_pos rfl, HT2.out]
                have e3 := ent_app_eq (bhL n (R.take t)) ((R.getD t []).drop n) j
                rw [← Q.out] at e3
                rw [e3, List.getD_eq_getElem?_getD, List.getElem?_drop, ← List.getD_eq_getElem?_getD]; rfl
              · rw [if_neg e, HT2.out, ent_app_lt _ _ (by rw [← Q.out]; omega)]
            · by_cases e : i = q
              · exact ⟨t, by omega, by simp only [if_pos e]⟩
              · obtain ⟨u, h1, h2⟩ := U.out i (by omega)
                exact ⟨u, by omega, by simp only [if_neg e]; exact h2⟩
          case measure => simp [intOf]; omega
        · have hpt : decide ((n : Int) ≤ r) = false := decide_eq_false hp
          have hb : ¬ bhP n (R.getD t []) = true := fun h => hp (Hiff.out.2 h)
          have HT2 := Lib.hid (HTt.out)
          rw [if_neg hb, List.append_nil] at HT2
          clear hb Hiff HTt hp
          go_wp2_with fail
          go_roundw
          case rel =>
            refine ⟨t + 1, q, a, c, K2, by omega, by omega, by go_num, rfl, ?_, ?_, fun i hi => ?_, F, D1⟩
            · show _ = _; rw [HT2.out]; exact Q.out
            · rw [HT2.out]; exact O1
            · obtain ⟨u, h1, h2⟩ := U.out i hi
              exact ⟨u, by omega, h2⟩
          case measure => simp [intOf]; omega
      · have hlt' : ¬ (t : Int) < m := by omega
        have hltt : decide (t < m) = false := decide_eq_false hlt
        obtain rfl : m = t := by omega
        have MO := Lib.hid O.out.mat
        rw [HTn.out] at Q MO
        have Qo := Q.out
        subst Qo
        have DB := Lib.hid (D.out.mono hBw.out)
        have HFx := Lib.hid (HF.out wr DB.out _ MO.out)
        clear O U F D HM HT0 HTn HTs HL Hlen Q MO HF
        go_wp2_with fail
        refine Calls.mono HFx.out ?_
        rintro e w1 ⟨v', rfl, hM, hb⟩
        have M1 := Lib.hid hM
        have D1 := Lib.hid (DB.out.trans hb)
        clear hM hb HFx DB
        go_wp2_with fail
        go_ret
        exact ⟨v', rfl, M1.out, D1.out⟩

end Go.Proofs.YtepicfdhphiiaaaGreatDoor

/- The ends of a normal form, and the annihilator, plain. -/
namespace Go.Proofs.YtepicfdhphiiaaaGreatDoor

theorem redu_right : ∀ {a b : List Vc}, Redu (a ++ b) → Redu b
  | [], _, h => h
  | _ :: _, _, h => redu_right h.2
theorem ech_mem_lo {m : List Vc} {lo : Nat} (h : Ech lo m) {r : Vc} (hr : r ∈ m) : ∀ j, j < lo → r j = 0 := ech_lo h (sp_mem hr)
theorem ech_nz : ∀ {m : List Vc} {lo : Nat}, Ech lo m → ∀ r ∈ m, ∃ p, lo ≤ p ∧ Piv r p
  | r :: m, lo, ⟨p, hp, h0, h1, hm⟩, s, hs => by
    rcases List.mem_cons.1 hs with rfl | hs
    · exact ⟨p, hp, h0, by omega⟩
    · obtain ⟨q, h2, h3⟩ := ech_nz hm s hs
      exact ⟨q, by omega, h3⟩
theorem redu_tails {n : Nat} : ∀ {b : List Vc}, (∀ r ∈ b, ∀ j, j < n → r j = 0) → Redu b → Redu (b.map (tlV n))
  | [], _, _ => trivial
  | r :: b, hz, ⟨h1, h2⟩ => ⟨fun s hs q hq => by
      obtain ⟨t, ht, rfl⟩ := List.mem_map.1 hs
      refine h1 t ht (n + q) ⟨fun j hj => ?_, hq.2⟩
      rcases Nat.lt_or_ge j n with h | h
      · exact hz t (List.mem_cons_of_mem _ ht) j h
      · have := hq.1 (j - n) (by omega)
        unfold tlV at this
        rwa [show n + (j - n) = j by omega] at this, redu_tails (fun s hs => hz s (List.mem_cons_of_mem _ hs)) h2⟩
theorem vf_drop (n : Nat) (r : List Int) : vf (r.drop n) = tlV n (vf r) := by
  funext i
  unfold vf tlV
  rw [List.getD_eq_getElem?_getD, List.getElem?_drop, ← List.getD_eq_getElem?_getD]

/-- The ends of a normal form are a normal form. -/
theorem hnf_bh {n k : Nat} {R : List (List Int)} (hr : Rect (n + k) R) (h : IsHnf R) : IsHnf (bhL n R) ∧ Rect k (bhL n R) ∧ ∀ y, Sp (vfs (bhL n R)) y ↔ Sp (vfs R) (prV n vz y) := by
  obtain ⟨a, b, e, ha, hb, hx⟩ := ech_behind h.e n
  obtain ⟨Ra, Rb, rfl, e1, e2⟩ := List.map_eq_append_iff.1 e
  have hbz : ∀ r ∈ b, ∀ j, j < n → r j = 0 := fun r hr => ech_mem_lo hb hr
  have hbh : bhL n (Ra ++ Rb) = Rb.map (List.drop n) := by
    unfold bhL
    rw [List.filter_append]
    have h1 : Ra.filter (bhP n) = [] := List.filter_eq_nil_iff.2 fun r hr2 h2 => by
      obtain ⟨p, hp, _, hnz⟩ := ha (vf r) (by rw [← e1]; exact List.mem_map.2 ⟨r, hr2, rfl⟩)
      exact hnz ((of_decide_eq_true h2).1 p hp)
    have h2 : Rb.filter (bhP n) = Rb := List.filter_eq_self.2 fun r hr2 => by
      have hm : vf r ∈ b := by rw [← e2]; exact List.mem_map.2 ⟨r, hr2, rfl⟩
      obtain ⟨p, _, hp⟩ := ech_nz hb _ hm
      refine decide_eq_true ⟨fun j hj => hbz _ hm j hj, p, ?_, hp.2⟩
      rcases Nat.lt_or_ge p r.length with h3 | h3
      · exact h3
      · exact absurd (vf_supp (n := r.length) rfl p h3) hp.2
    rw [h1, h2]; rfl
  have hvf : vfs (bhL n (Ra ++ Rb)) = b.map (tlV n) := by
    rw [hbh, ← e2]
    unfold vfs
    rw [List.map_map, List.map_map]
    exact List.map_congr_left fun r _ => vf_drop n r
  have hrd : Redu (a ++ b) := by
    have := h.r
    rw [e] at this
    exact this
  refine ⟨⟨?_, ?_⟩, ?_, fun y => ?_⟩
  · rw [hvf]
    have := ech_tails (n := n) (Nat.le_refl _) hb
    rwa [Nat.sub_self] at this
  · rw [hvf]
    exact redu_tails hbz (redu_right hrd)
  · rw [hbh]
    intro r hr2
    obtain ⟨s, hs, rfl⟩ := List.mem_map.1 hr2
    rw [List.length_drop, hr s (List.mem_append_right _ hs), Nat.add_sub_cancel_left]
  · rw [hvf, sp_map (tl_lin n)]
    constructor
    · rintro ⟨x, h1, rfl⟩
      obtain ⟨h2, h3⟩ := (hx x).2 h1
      rw [← pr_ext h3]
      exact h2
    · intro h1
      refine ⟨prV n vz y, (hx _).1 ⟨h1, fun j hj => by unfold prV; rw [if_pos hj]; rfl⟩, (tl_pr n vz y).symm⟩

/-- The products of a column and the unit. -/
def kwR (R : List (List Int)) (n c : Nat) : List Int := R.map (fun r => r.getD c 0) ++ (List.range n).map fun j => if j = c then 1 else 0
def kwL (R : List (List Int)) (n : Nat) : List (List Int) := (List.range n).map (kwR R n)
theorem kwR_length (R : List (List Int)) (n c : Nat) : (kwR R n c).length = R.length + n := by simp [kwR]
theorem kwL_rect (R : List (List Int)) (n : Nat) : Rect (R.length + n) (kwL R n) := fun r hr => by
  obtain ⟨c, _, rfl⟩ := List.mem_map.1 hr
  exact kwR_length R n c
theorem kwL_length (R : List (List Int)) (n : Nat) : (kwL R n).length = n := by simp [kwL]
theorem dot_unit : ∀ (n c : Nat) (x : Vc), dotV n x (uV c) = if c < n then x c else 0
  | 0, c, x => by rw [if_neg (Nat.not_lt_zero _)]; rfl
  | n + 1, c, x => by
    show dotV n x (uV c) + x n * uV c n = _
    rw [dot_unit n c x]
    unfold uV
    by_cases h : n = c
    · rw [if_pos h, if_neg (by omega), if_pos (by omega), h]; omega
    · rw [if_neg h]
      by_cases h2 : c < n
      · rw [if_pos h2, if_pos (by omega)]; omega
      · rw [if_neg h2, if_neg (by omega)]; omega
theorem vf_kw {R : List (List Int)} {n c : Nat} (hc : c < n) : vf (kwR R n c) = prV R.length (mulV n (vfs R) (uV c)) (uV c) := by
  funext i
  unfold vf prV kwR
  rw [List.getD_eq_getElem?_getD]
  by_cases h : i < R.length
  · rw [if_pos h, List.getElem?_append_left (by simpa using h), List.getElem?_map, List.getElem?_eq_getElem h]
    unfold mulV
    have hl : i < (vfs R).length := by unfold vfs; rw [List.length_map]; exact h
    rw [if_pos hl, dot_unit, if_pos hc, vfs_getD R h]
    unfold vf
    rw [show R.getD i [] = R[i] by rw [List.getD_eq_getElem?_getD, List.getElem?_eq_getElem h]; rfl]; rfl
  · rw [if_neg h, List.getElem?_append_right (by simp; omega), List.length_map, List.getElem?_map]
    unfold uV
    by_cases h2 : i - R.length < n
    · rw [List.getElem?_range h2]; rfl
    · rw [List.getElem?_eq_none (by simp; omega), if_neg (by omega)]; rfl
/-- The annihilator, by the ends of the normal form of the products beside the units. -/
theorem kernel_plain {R Bs : List (List Int)} {n : Nat} (h : IsHnf Bs) (hr : Rect (R.length + n) Bs) (hs : SameSp (kwL R n) Bs) (y : Vc) : Sp (vfs (bhL R.length Bs)) y ↔ Perp n (Sp (vfs R)) y := by
  rw [(hnf_bh hr h).2.2 y, ← hs]
  have e : vfs (kwL R n) = (units n).map (fun x => prV R.length (mulV n (vfs R) x) x) := by
    unfold vfs kwL units
    rw [List.map_map, List.map_map]
    exact List.map_congr_left fun c hc => vf_kw (List.mem_range.1 hc)
  rw [e, sp_map (pr_lin (mul_lin n (vfs R)) id_lin)]
  have hl : (vfs R).length = R.length := by unfold vfs; rw [List.length_map]
  have hsu : ∀ x, Supp R.length (mulV n (vfs R) x) := fun x => by have := mul_supp n (vfs R) x; rwa [hl] at this
  constructor
  · rintro ⟨x, hx, h1⟩
    have h2 : y = x := by have := congrArg (tlV R.length) h1; rwa [tl_pr, tl_pr] at this
    have h3 : vz = mulV n (vfs R) x := by have := congrArg (hdV R.length) h1; rwa [hd_pr (show Supp R.length vz from fun i _ => rfl), hd_pr (hsu x)] at this
    subst h2
    exact ⟨(units_sp n y).1 hx, mul_zero h3.symm⟩
  · rintro ⟨h1, h2⟩
    exact ⟨y, (units_sp n y).2 h1, by rw [zero_mul h2]⟩

end Go.Proofs.YtepicfdhphiiaaaGreatDoor

/- lattice.longs.kernel. -/
namespace Go.Proofs.YtepicfdhphiiaaaGreatDoor
open Go.RowKit

def colR (R : List (List Int)) (c : Nat) : List Int := R.map fun r => r.getD c 0
theorem colR_get (R : List (List Int)) (c : Nat) {i : Nat} (h : i < R.length) : (colR R c).getD i 0 = ent R i c := by
  unfold colR ent
  rw [List.getD_eq_getElem?_getD, List.getElem?_map, show R.getD i [] = R[i] by rw [List.getD_eq_getElem?_getD, List.getElem?_eq_getElem h]; rfl, List.getElem?_eq_getElem h]; rfl
theorem colR_length (R : List (List Int)) (c : Nat) : (colR R c).length = R.length := by simp [colR]
def unI (n c : Nat) : List Int := (List.range n).map fun j => if j = c then 1 else 0
theorem unI_length (n c : Nat) : (unI n c).length = n := by simp [unI]
theorem unI_get (n c : Nat) {j : Nat} (h : j < n) : (unI n c).getD j 0 = if j = c then 1 else 0 := by
  unfold unI
  rw [List.getD_eq_getElem?_getD, List.getElem?_map, List.getElem?_range h]; rfl
theorem kwR_eq (R : List (List Int)) (n c : Nat) : kwR R n c = colR R c ++ unI n c := rfl
theorem kwL_ent (R : List (List Int)) (n : Nat) {c : Nat} (h : c < n) (j : Nat) : ent (kwL R n) c j = (kwR R n c).getD j 0 := by
  unfold ent kwL
  congr 1
  rw [List.getD_eq_getElem?_getD, List.getElem?_map, List.getElem?_range h]; rfl
theorem zs_app (xs ys : List Int) : zs (xs ++ ys) = zs xs ++ zs ys := by unfold zs; exact List.map_append
theorem lim_ten {a : Nat} (h : a ≤ 999990) : 10 ^ a ≤ LimN := by have h2 := ten_le h; unfold LimN; exact h2
theorem itx_one : itx 1 = ⟨#[49]⟩ := dec_one
theorem kw_ent_le {R : List (List Int)} {n e : Nat} (he : ∀ i, i < R.length → ∀ j, (ent R i j).natAbs ≤ 10 ^ e) : ∀ i, i < (kwL R n).length → ∀ j, (ent (kwL R n) i j).natAbs ≤ 10 ^ e := fun i hi j => by
  rw [kwL_length] at hi
  rw [kwL_ent R n hi]
  have h1 := Nat.pow_pos (n := e) (show 0 < 10 by decide)
  rw [kwR_eq, List.getD_eq_getElem?_getD]
  rcases Nat.lt_or_ge j R.length with h | h
  · rw [List.getElem?_append_left (by rw [colR_length]; exact h), ← List.getD_eq_getElem?_getD, colR_get R i h]
    exact he j h i
  · rw [List.getElem?_append_right (by rw [colR_length]; exact h), ← List.getD_eq_getElem?_getD, colR_length]
    rcases Nat.lt_or_ge (j - R.length) n with h2 | h2
    · rw [unI_get n i h2]
      split <;> simp <;> omega
    · rw [List.getD_eq_getElem?_getD, List.getElem?_eq_none (by rw [unI_length]; exact h2)]
      simp

/-- What kernel leaves: the normal form of the annihilator. -/
def KerE (w w' : World) (n T : Nat) (R : List (List Int)) (x : Ending) : Prop :=
  ∃ v' Ks, x = .returned v' ∧ MatV w' w.heap.size v' Ks.length n (ent Ks) ∧ IsHnf Ks ∧ Rect n Ks ∧ Ks.length ≤ n ∧ (∀ i, i < Ks.length → ∀ j, (ent Ks i j).natAbs ≤ T) ∧ (∀ y, Sp (vfs Ks) y ↔ Perp n (Sp (vfs R)) y) ∧ Below w.heap.size w w'

theorem ent_drop_le {n : Nat} {Bs : List (List Int)} {T : Nat} (h : ∀ i, i < Bs.length → ∀ j, (ent Bs i j).natAbs ≤ T) : ∀ i, i < (bhL n Bs).length → ∀ j, (ent (bhL n Bs) i j).natAbs ≤ T := fun i hi j => by
  obtain ⟨r, hr, e⟩ := List.mem_map.1 (show (bhL n Bs).getD i [] ∈ (Bs.filter (bhP n)).map (List.drop n) from lrow_mem (m := bhL n Bs) hi)
  obtain ⟨k, hk, e2⟩ := mem_lrow (List.mem_filter.1 hr).1
  have : ent (bhL n Bs) i j = ent Bs k (n + j) := by
    unfold ent
    rw [← e, e2, List.getD_eq_getElem?_getD, List.getElem?_drop, ← List.getD_eq_getElem?_getD]
  rw [this]
  exact h k hk _

theorem kernel_any (w : World) (B e n : Nat) (v : Value) (R : List (List Int)) (he : ∀ i, i < R.length → ∀ j, (ent R i j).natAbs ≤ 10 ^ e) (hs : ∀ d, d ≤ n → eM e n d ≤ 999990 ∧ eD e n d ≤ 999990)
    (hV : MatV w B v R.length n (ent R)) (hm : R.length ≤ 40) (hn0 : 0 < n) (hn : n ≤ 40) (L : ∀ W, Below w.heap.size w W → Laid W) :
    Calls Tryz.prog 75 #[v, .int .i64 n] w fun x w' => KerE w w' n (10 ^ eD e n n) R x := by
  obtain ⟨a, cap, rfl, hV⟩ := hV
  have HV := Lib.hid hV
  have HL := Lib.hid L
  have HF := Lib.hid (fun W (hW : Below w.heap.size w W) v2 (hv : MatV W w.heap.size v2 n (R.length + n) (ent (kwL R n))) => by
    have := form_law W w.heap.size e (R.length + n) v2 (kwL R n) (kwL_rect R n) (kw_ent_le he) (by rw [kwL_length]; exact hs) (by rw [kwL_length]; exact hv) hW.size (by rw [kwL_length]; omega) (by omega) (fun W2 hW2 => L W2 (hW.trans hW2))
    rw [kwL_length] at this
    exact this)
  have HBh := Lib.hid (fun W (hW : Below w.heap.size w W) v2 Bs (hB : IsHnf Bs) (hrB : Rect (R.length + n) Bs) (hlB : Bs.length ≤ n) (hle : ∀ i, i < Bs.length → ∀ j, (ent Bs i j).natAbs ≤ 10 ^ eD e n n) (hv : MatV W w.heap.size v2 Bs.length (R.length + n) (ent Bs)) =>
    behind_any W w.heap.size R.length n v2 Bs hrB (hnf_bh hrB hB).1 (hnf_bh hrB hB).2.1 (fun i hi j => Nat.le_trans (ent_drop_le hle i hi j) (lim_ten (hs n (Nat.le_refl _)).2)) hv hW.size (by omega) hn0 (by omega) (fun W2 hW2 => L W2 (hW.trans hW2)))
  have HZ := Lib.hid (fun W (hW : Below w.heap.size w W) => zeros_any W n hn0 (by omega) (L W hW))
  have HKs := Lib.hid (fun t i (hi : i < R.length) => (zs_take (colR R t) i (by rw [colR_length]; exact hi)).trans (by rw [colR_get R t hi]))
  have HK0 := Lib.hid (fun t => show zs ((colR R t).take 0) = [] from by rw [List.take_zero]; rfl)
  have HKn := Lib.hid (fun t => show zs ((colR R t).take R.length) = zs (colR R t) from by rw [← colR_length R t, List.take_length])
  have HRl := Lib.hid (fun t => colR_length R t)
  clear hV L he hs
  obtain ⟨m, hme⟩ : ∃ m, R.length = m := ⟨_, rfl⟩
  have Hme := Lib.hid hme
  rw [hme] at HV HF HBh HKs HKn HRl hm ⊢
  clear hme
  go_enter Tryz.func75, Tryz.ntmps75
  go_wp2_with fail
  go_loopw [5, 12] (fun o z wr => ∃ (t : Nat) (a : Option Addr) (c : Nat) (K : Nat → Nat × Nat × Nat), t ≤ n ∧ z = .int .i64 t ∧ o = .slice a t c ∧ Hid (BldS wr w.heap.size a c t (m + n) K (ent (kwL R n))) ∧ Hid (Below w.heap.size w wr)) (fun _ z _ => n - (intOf z).toNat)
  case atStart => exact ⟨0, none, 0, fun _ => (0, 0, 0), Nat.zero_le _, rfl, rfl, BldS.nil _ _ _ _ _, Below.refl _ _⟩
  case round =>
    obtain ⟨t, a2, c2, K2, ht, rfl, rfl, O, D⟩ := hrel
    by_cases hlt : t < n
    · have hlt' : (t : Int) < n := by omega
      have hltt : decide (t < n) = true := decide_eq_true hlt
      obtain ⟨w0, rfl⟩ : ∃ x, x = wr := ⟨_, rfl⟩
      go_wp2_with fail
      go_loopw [7, 17] (fun o z wx => ∃ (i : Nat) (a3 : Option Addr) (c3 : Nat), i ≤ m ∧ z = .int .i64 i ∧ o = .slice a3 i c3 ∧ Hid (wx.ownsRow w0.heap.size 84 1 (.slice a3 i c3) i (zs ((colR R t).take i))) ∧ Hid (Below w0.heap.size w0 wx)) (fun _ z _ => m - (intOf z).toNat)
      case atStart => exact ⟨0, none, 0, Nat.zero_le _, rfl, rfl, by rw [HK0.out]; exact World.ownsRow_nil _ _ _ _, Below.refl _ _⟩
      case round =>
        obtain ⟨i, a3, c3, hi, rfl, rfl, P, D3⟩ := hrel
        by_cases hlt2 : i < m
        · have hlt2' : (i : Int) < m := by omega
          have hltt2 : decide (i < m) = true := decide_eq_true hlt2
          obtain ⟨h1, g, K, rfl, M⟩ := HV.out.resolve_left (by omega)
          have MW := (M.below D.out (Nat.le_refl _)).below D3.out (Nat.le_refl _)
          have k1 := MW.out i hlt2
          have k2 := (MW.row i hlt2).c t hlt
          have hP := P.out
          have hks := Lib.hid (HKs.out t i hlt2)
          clear M MW h1
          generalize (K i).1 = b1 at *
          generalize (K i).2.1 = o1 at *
          generalize (K i).2.2 = d1 at *
          generalize hsx : itx (ent R i t) = s at *
          clear hsx
          go_wp2_with (at_builtin; refine wpList_append_new rfl (.tmp 21) (.tmp 26) 113 rfl elL _ 1 [.string s] rfl rfl hP D3.out.size rfl ?c1 (by omega) (by omega) ?_)
          case c1 => first | rfl | (intro u hu; obtain rfl := List.mem_singleton.1 hu; rfl)
          intro v' w2 hown2 hg2 _
          obtain ⟨a4, c4, rfl⟩ := own_form hown2
          have B2 : Hid (Below w0.heap.size w0 w2) := ((D3.out.alloc D3.out.size _)).grown hg2 (Nat.le_trans D3.out.size (by simp)) (fun kk hk => (P.out.lt kk hk).1)
          have O2 : Hid (w2.ownsRow w0.heap.size 84 1 (.slice a4 (i + 1) c4) (i + 1) (zs ((colR R t).take (i + 1)))) := by
            show World.ownsRow ..
            rw [hks.out]; exact hown2
          clear hown2 hg2 P D3 hP hks k1 k2
          go_wp2
          go_roundw
          case rel => exact ⟨i + 1, a4, c4, by omega, by go_num, rfl, O2, B2⟩
          case measure => simp [intOf]; omega
        · have hltt2 : decide (i < m) = false := decide_eq_false hlt2
          have hlt2' : ¬ (i : Int) < m := by omega
          obtain rfl : m = i := by omega
          obtain ⟨w1, rfl⟩ : ∃ x, x = wr := ⟨_, rfl⟩
          rw [HKn.out] at P
          have D4 := Lib.hid (D.out.trans (D3.out.mono D.out.size))
          have HZ1 := Lib.hid (HZ.out w1 D4.out)
          go_wp2_with fail
          refine Calls.mono HZ1.out ?_
          rintro e w2 ⟨a5, c5, rfl, hown, hb⟩
          obtain ⟨g, rfl, hg1, hg2, hg3⟩ := own_rowS hown hn0 (by simp)
          have kc := hg3.c t hlt
          rw [Nat.zero_add] at kc
          have kf := hg3.f t hlt
          rw [Nat.zero_add] at kf
          have RS := hg3.set t hlt 1
          rw [itx_one, Nat.zero_add] at RS
          have RU : Hid (RowS (w2.setCell ⟨g, t, none⟩ (.string ⟨#[49]⟩)) g 0 n fun j => (unI n t).getD j 0) := RS.congr fun j hj => by
            rw [unI_get n t hj]
            by_cases e1 : j = t
            · rw [if_pos e1, if_pos e1]
            · rw [if_neg e1, if_neg e1, List.getD_eq_getElem?_getD, List.getElem?_replicate, if_pos hj]; rfl
          have hb3 : Hid (Below w1.heap.size w1 (w2.setCell ⟨g, t, none⟩ (.string ⟨#[49]⟩))) := hb.setCell (p := ⟨g, t, none⟩) hg1 _
          have P3 := own_below P.out hb3.out (Nat.le_refl _)
          have D5 : Hid (Below w0.heap.size w0 (w2.setCell ⟨g, t, none⟩ (.string ⟨#[49]⟩))) := D3.out.trans (hb3.out.mono D3.out.size)
          have RR := RU.out.rd (zs (unI n t)) (by rw [zs_length, unI_length]) (fun j hj => by rw [zs_get _ _ (by rw [unI_length]; exact hj)])
          have G2 := Lib.hid hg2
          clear hg1 hg2 hg3 RS hb hb3 RU hown HZ1 P D3 D4
          go_wp2_with (at_builtin; refine wpList_append_rd rfl (.tmp 35) (.tmp 36) 113 rfl elL _ rfl P3 (some ⟨g, 0, none⟩) n c5 (zs (unI n t)) rfl (fun h => by cases h) (by rw [zs_length, unI_length]) RR ?c1 (by omega) (by omega) D5.out.size ?_)
          case c1 =>
            intro u hu
            obtain ⟨x, _, rfl⟩ := List.mem_map.1 hu
            rfl
          intro v' w3 hown3 hg3
          obtain ⟨a6, c6, rfl⟩ := own_form hown3
          rw [← zs_app, ← kwR_eq] at hown3
          have hbz : Below w0.heap.size w0 w3 := D5.out.grown hg3 D5.out.size (fun kk hk => (P3.lt kk hk).1)
          obtain ⟨g3, rfl, hh1, hh2, hh3⟩ := own_rowS hown3 (by omega) (by rw [kwR_length, Hme.out])
          have O1 := Lib.hid (O.out.below hbz (Nat.le_refl _))
          have hO1 := O1.out.own
          have Hne1 : Hid (∀ i, i < t → (K2 i).1 ≠ g3) := fun i hi e => by have := (O.out.row i hi).lt; omega
          have Hne2 : Hid ((Value.slice a2 t c2).ownBlock ≠ some g3) := fun e => by have := (O.out.size e).2; omega
          have HBg : Hid (w.heap.size ≤ g3) := Nat.le_trans D.out.size hh1
          have D6 := Lib.hid (D.out.trans (hbz.mono D.out.size))
          have H2 := Lib.hid hh2
          have H3 := Lib.hid hh3
          clear hown3 hg3 hbz hh1 hh2 hh3 RR P3 D5 O D kc kf
          go_wp2_with (at_builtin; refine append_new_at rfl (.tmp 34) (.tmp 38) 112 rfl elLL _ 1 [.slice (some ⟨g3, 0, none⟩) (m + n) c6] rfl rfl hO1 D6.out.size rfl ?c2 (by omega) (by omega) ?_)
          case c2 => first | rfl | (intro u hu; obtain rfl := List.mem_singleton.1 hu; rfl)
          intro v' w4 hown4 hg4 hs4
          obtain ⟨a7, c7, rfl⟩ := own_form hown4
          have B7 : Hid (Below w.heap.size w w4) := ((D6.out.alloc D6.out.size _)).grown hg4 (Nat.le_trans D6.out.size (by simp)) (fun kk hk => (O1.out.size hk).1)
          have O7 := Lib.hid (O1.out.push H3.out HBg.out H2.out Hne1.out Hne2.out _ hown4 hg4 hs4)
          clear hown4 hg4 hs4 O1 D6 hO1 Hne1 Hne2 HBg H2 H3
          go_wp2
          go_roundw
          case rel =>
            refine ⟨t + 1, a7, c7, _, by omega, by go_num, rfl, ⟨O7.out.own, O7.out.lo, O7.out.inj, fun i hi2 => (O7.out.row i hi2).congr fun j _ => ?_, O7.out.cap⟩, B7⟩
            by_cases e1 : i = t
            · rw [e1, if_pos rfl, kwL_ent R n hlt]
            · rw [if_neg e1]
          case measure => simp [intOf]; omega
    · have hltt : decide (t < n) = false := decide_eq_false hlt
      have hlt' : ¬ (t : Int) < n := by omega
      obtain rfl : n = t := by omega
      have MO := Lib.hid O.out.mat
      have HFx := Lib.hid (HF.out wr D.out _ MO.out)
      obtain ⟨N, hN⟩ : ∃ N : Nat, m + n = N := ⟨_, rfl⟩
      have HNn := Lib.hid hN
      rw [hN] at HFx
      have e1 : IntKind.i64.wrap ((m : Int) + n) = (N : Int) := by rw [← hN, ← Int.natCast_add]; exact IntWalk.i64_in _ (by omega)
      clear O MO HF HZ HKs HK0 HKn HRl HV hN
      go_wp2_with fail
      refine Calls.mono HFx.out ?_
      rintro e w1 ⟨v1, Bs, rfl, hM, hH, hR, hS, hLn, hB, hb⟩
      rw [← HNn.out] at hM hR
      have D1 := Lib.hid (D.out.trans hb)
      have HBx := Lib.hid (HBh.out w1 D1.out v1 Bs hH hR (by rw [kwL_length] at hLn; exact hLn) hB hM)
      have HS := Lib.hid hS
      have HH := Lib.hid hH
      have HR := Lib.hid hR
      have HB := Lib.hid hB
      have HLn : Hid (Bs.length ≤ n) := by show _ ≤ _; rw [kwL_length] at hLn; exact hLn
      clear hM hH hR hS hLn hB hb HFx D HBh e1
      go_wp2_with fail
      refine Calls.mono HBx.out ?_
      rintro e w2 ⟨v2, rfl, hM, hb⟩
      have M2 := Lib.hid hM
      have D2 := Lib.hid (D1.out.trans hb)
      clear hM hb HBx D1
      go_wp2_with fail
      go_ret
      have hm' := Hme.out
      subst hm'
      exact ⟨v2, _, rfl, M2.out, (hnf_bh HR.out HH.out).1, (hnf_bh HR.out HH.out).2.1, Nat.le_trans (bhL_le _ _) HLn.out, ent_drop_le HB.out, kernel_plain HH.out HR.out HS.out, D2.out⟩

end Go.Proofs.YtepicfdhphiiaaaGreatDoor

/- lattice.long.short. -/
namespace Go.Proofs.YtepicfdhphiiaaaGreatDoor
open Go.RowKit

/-- Numbers of a matrix. -/
def Fit (z : Int) : Prop := z.natAbs ≤ 1000000000
instance (z : Int) : Decidable (Fit z) := by unfold Fit; infer_instance
/-- What short leaves. -/
def Sh1 (w w' : World) (n : Nat) (xs : List Int) (e : Ending) : Prop :=
  Below w.heap.size w w' ∧ (((∀ j, j < n → Fit (xs.getD j 0)) ∧ ∃ a c, e = .returned (.tuple #[.slice a n c, .int .i64 0]) ∧ w'.ownsRow w.heap.size 3 1 (.slice a n c) n (ints xs)) ∨ ((∃ j, j < n ∧ ¬ Fit (xs.getD j 0)) ∧ e = .returned (.tuple #[.slice none 0 0, .int .i64 4])))
theorem ints_take (xs : List Int) (t : Nat) (h : t < xs.length) : ints (xs.take (t + 1)) = ints (xs.take t) ++ [.int .i64 (xs.getD t 0)] := by
  unfold ints
  rw [List.take_add_one, List.map_append, List.getElem?_eq_getElem h, List.getD_eq_getElem?_getD, List.getElem?_eq_getElem h]; rfl

theorem short1_any (w : World) (b off c n : Nat) (xs : List Int) (hF : RowS w b off n fun j => xs.getD j 0) (hl : xs.length = n) (hn : 0 < n) (hn1 : n ≤ 1000) (hz : ∀ j, j < n → (xs.getD j 0).natAbs ≤ LimN) (L : Laid w) :
    Calls Tryz.prog 108 #[.slice (some ⟨b, off, none⟩) n c] w fun e w' => Sh1 w w' n xs e := by
  have RF := Lib.hid hF
  have HS := Lib.hid (fun W (hW : Below w.heap.size w W) t (ht : t < n) => smallz_any W (xs.getD t 0) (lim_z (hz t ht)) (L.below hW))
  have Hzt := Lib.hid (fun t (ht : t < n) => ints_take xs t (by omega))
  have Hz0 : Hid (ints (xs.take 0) = []) := by show _ = _; rw [List.take_zero]; rfl
  have Hzn : Hid (ints (xs.take n) = ints xs) := by show _ = _; rw [← hl, List.take_length]
  clear hF hz L hl
  obtain ⟨i0, hi0, hz0, hz1, hz2⟩ := info_parts infoP
  go_enter Tryz.func108, Tryz.ntmps108
  go_wp2_with (at_make; refine wpList_make_own _ rfl _ _ 54 rfl w.heap.size 3 i0 (.int .i64 0) 1 Tryz.underlying54 hi0 hz0 hz1 .i64 .i64 _ n rfl rfl (by first | rfl | omega) (by rw [hz2]; omega) (by unfold maxLen; omega) (Nat.le_refl _) ?_; intro w0 hown0 hg0)
  have B0 : Hid (Below w.heap.size w w0) := (Below.refl _ _).grown hg0 (Nat.le_refl _) (fun k h => by cases h)
  have O0 := Lib.hid hown0
  clear hown0 hg0
  go_loopw [4, 14] (fun o z wr => ∃ (t : Nat) (a : Option Addr) (c : Nat), t ≤ n ∧ z = .int .i64 t ∧ o = .slice a t c ∧ Hid (wr.ownsRow w.heap.size 3 1 (.slice a t c) t (ints (xs.take t))) ∧ Hid (∀ j, j < t → Fit (xs.getD j 0)) ∧ Hid (Below w.heap.size w wr)) (fun _ z _ => n - (intOf z).toNat)
  case atStart => exact ⟨0, _, _, Nat.zero_le _, rfl, rfl, by rw [Hz0.out]; exact O0.out, fun j hj => absurd hj (Nat.not_lt_zero _), B0⟩
  case round =>
    clear O0 B0
    obtain ⟨t, a, c, ht, rfl, rfl, O, T, B⟩ := hrel
    by_cases hlt : t < n
    · have hlt' : (t : Int) < n := by omega
      have hltt : decide (t < n) = true := decide_eq_true hlt
      have ct := (RF.out.below B.out (Nat.le_refl _)).c t hlt
      have HSt := Lib.hid (fun W hW => HS.out W hW t hlt)
      have hzt := Lib.hid (Hzt.out t hlt)
      obtain ⟨x, hx⟩ : ∃ x, x = xs.getD t 0 := ⟨_, rfl⟩
      have Hx := Lib.hid hx
      rw [← hx] at ct HSt hzt
      clear hx
      generalize itx x = s at *
      by_cases hr : -9223372036854775808 ≤ x ∧ x ≤ 9223372036854775807
      · rw [if_pos hr] at HSt
        by_cases hf : Fit x
        · have Hf := Lib.hid hf
          have g1 : decide ((1000000000 : Int) < x) = false := decide_eq_false (by unfold Fit at hf; omega)
          have g2 : decide (x < (-1000000000 : Int)) = false := decide_eq_false (by unfold Fit at hf; omega)
          have g3 : ¬ (1000000000 : Int) < x := of_decide_eq_false g1
          have g4 : ¬ x < (-1000000000 : Int) := of_decide_eq_false g2
          clear hf hr
          go_wp2_with fail
          refine Calls.mono (HSt.out _ B.out) ?_
          rintro e w1 ⟨rfl, hb1⟩
          have B1 := Lib.hid (B.out.trans (hb1.mono B.out.size))
          have O1 : Hid (w1.ownsRow w.heap.size 3 1 (.slice a t c) t (ints (xs.take t))) := own_below O.out hb1 (Nat.le_refl _)
          have hO1 := O1.out
          clear hb1 B O ct HSt
          go_wp2_with (at_builtin; refine wpList_append_new rfl (.tmp 33) (.tmp 35) 54 rfl elRow _ 1 [.int .i64 x] rfl rfl hO1 B1.out.size rfl ?c1 (by omega) (by omega) ?_)
          case c1 => first | rfl | (intro u hu; obtain rfl := List.mem_singleton.1 hu; rfl)
          intro v' w2 hown2 hg2 _
          obtain ⟨a2, c2, rfl⟩ := own_form hown2
          have B2 : Hid (Below w.heap.size w w2) := ((B1.out.alloc B1.out.size _)).grown hg2 (Nat.le_trans B1.out.size (by simp)) (fun kk hk => (O1.out.lt kk hk).1)
          have O2 : Hid (w2.ownsRow w.heap.size 3 1 (.slice a2 (t + 1) c2) (t + 1) (ints (xs.take (t + 1)))) := by
            show World.ownsRow ..
            rw [hzt.out]; exact hown2
          clear hown2 hg2 O1 B1 hzt hO1
          go_wp2
          go_roundw
          case rel =>
            refine ⟨t + 1, a2, c2, by omega, by go_num, rfl, O2, fun j hj => ?_, B2⟩
            by_cases e : j = t
            · rw [e, ← Hx.out]; exact Hf.out
            · exact T.out j (by omega)
          case measure => simp [intOf]; omega
        · have Hf := Lib.hid hf
          by_cases g0 : (1000000000 : Int) < x
          · have g1 : decide ((1000000000 : Int) < x) = true := decide_eq_true g0
            clear hf hr
            go_wp2_with fail
            refine Calls.mono (HSt.out _ B.out) ?_
            rintro e w1 ⟨rfl, hb1⟩
            have B1 := Lib.hid (B.out.trans (hb1.mono B.out.size))
            clear hb1 B O ct HSt
            go_wp2_with fail
            go_ret2
            exact ⟨B1.out, .inr ⟨⟨t, hlt, by rw [← Hx.out]; exact Hf.out⟩, rfl⟩⟩
          · have g1 : decide ((1000000000 : Int) < x) = false := decide_eq_false g0
            have g3 : x < (-1000000000 : Int) := by unfold Fit at hf; omega
            have g2 : decide (x < (-1000000000 : Int)) = true := decide_eq_true g3
            clear hf hr
            go_wp2_with fail
            refine Calls.mono (HSt.out _ B.out) ?_
            rintro e w1 ⟨rfl, hb1⟩
            have B1 := Lib.hid (B.out.trans (hb1.mono B.out.size))
            clear hb1 B O ct HSt
            go_wp2_with fail
            go_ret2
            exact ⟨B1.out, .inr ⟨⟨t, hlt, by rw [← Hx.out]; exact Hf.out⟩, rfl⟩⟩
      · rw [if_neg hr] at HSt
        have Hf : Hid (¬ Fit x) := fun h => hr (by unfold Fit at h; omega)
        clear hr
        go_wp2_with fail
        refine Calls.mono (HSt.out _ B.out) ?_
        rintro e w1 ⟨rfl, hb1⟩
        have B1 := Lib.hid (B.out.trans (hb1.mono B.out.size))
        clear hb1 B O ct HSt
        go_wp2_with fail
        go_ret2
        exact ⟨B1.out, .inr ⟨⟨t, hlt, by rw [← Hx.out]; exact Hf.out⟩, rfl⟩⟩
    · have hlt' : ¬ (t : Int) < n := by omega
      have hltt : decide (t < n) = false := decide_eq_false hlt
      obtain rfl : n = t := by omega
      rw [Hzn.out] at O
      go_wp2
      go_ret2
      exact ⟨B.out, .inl ⟨T.out, a, c, rfl, O.out⟩⟩

end Go.Proofs.YtepicfdhphiiaaaGreatDoor

/- Rows of ints put together; lattice.longs.short. -/
namespace Go.Proofs.YtepicfdhphiiaaaGreatDoor
open Go.RowKit

/-- n cells with ints. -/
structure RowI (w : World) (b off n : Nat) (F : Nat → Int) : Prop where
  lt : b < w.heap.size
  c : ∀ j, j < n → w.cell? ⟨b, off + j, none⟩ = some (.int .i64 (F j))
theorem RowI.heap {w w' : World} {b off n : Nat} {F : Nat → Int} (h : RowI w b off n F) (hs : w.heap.size ≤ w'.heap.size) (he : w'.heap[b]? = w.heap[b]?) : RowI w' b off n F :=
  ⟨Nat.lt_of_lt_of_le h.lt hs, fun j hj => by rw [(cell_heap he _).1]; exact h.c j hj⟩
theorem RowI.below {w w' : World} {b off n B : Nat} {F : Nat → Int} (h : RowI w b off n F) (hb : Below B w w') (hB : w.heap.size ≤ B) : RowI w' b off n F :=
  h.heap hb.size (hb.block b (Nat.lt_of_lt_of_le h.lt hB))
theorem RowI.congr {w : World} {b off n : Nat} {F G : Nat → Int} (h : RowI w b off n F) (he : ∀ j, j < n → F j = G j) : RowI w b off n G :=
  ⟨h.lt, fun j hj => by rw [← he j hj]; exact h.c j hj⟩
theorem own_rowI {w : World} {B n c : Nat} {a : Option Addr} {xs : List Int} (h : w.ownsRow B 3 1 (.slice a n c) n (ints xs)) (hn : 0 < n) (hl : xs.length = n) :
    ∃ g, a = some ⟨g, 0, none⟩ ∧ B ≤ g ∧ n ≤ c ∧ RowI w g 0 n fun j => xs.getD j 0 := by
  obtain ⟨g, cap, hv, q1, q2, q3, q4, q5⟩ := own_open h hn
  simp only [Value.slice.injEq] at hv
  obtain ⟨rfl, -, rfl⟩ := hv
  refine ⟨g, rfl, q1, q3, q2, fun j hj => ?_⟩
  rw [Nat.zero_add, q4 j (by omega), ints_get _ _ (by omega), List.getD_eq_getElem?_getD, List.getElem?_eq_getElem (by omega)]; rfl

/-- Some rows, of ints, put together by appends. -/
structure BldR (w : World) (B : Nat) (a : Option Addr) (c t n : Nat) (K : Nat → Nat × Nat × Nat) (E : Nat → Nat → Int) : Prop where
  own : w.ownsRow B 54 1 (.slice a t c) t (hdrs K n t)
  lo : ∀ i, i < t → B ≤ (K i).1 ∧ some (K i).1 ≠ (Value.slice a t c).ownBlock
  inj : ∀ i k, i < t → k < t → (K i).1 = (K k).1 → i = k
  row : ∀ i, i < t → RowI w (K i).1 (K i).2.1 n (E i)
  cap : ∀ i, i < t → n ≤ (K i).2.2
theorem BldR.nil (w : World) (B n : Nat) (K : Nat → Nat × Nat × Nat) (E : Nat → Nat → Int) : BldR w B none 0 0 n K E :=
  ⟨World.ownsRow_nil _ _ _ _, fun _ hi => absurd hi (Nat.not_lt_zero _), fun _ _ hi => absurd hi (Nat.not_lt_zero _), fun _ hi => absurd hi (Nat.not_lt_zero _), fun _ hi => absurd hi (Nat.not_lt_zero _)⟩
theorem BldR.below {w w' : World} {B c t n C : Nat} {a : Option Addr} {K : Nat → Nat × Nat × Nat} {E : Nat → Nat → Int} (h : BldR w B a c t n K E) (hb : Below C w w') (hC : w.heap.size ≤ C) : BldR w' B a c t n K E :=
  ⟨own_below h.own hb hC, h.lo, h.inj, fun i hi => (h.row i hi).below hb hC, h.cap⟩
theorem BldR.size {w : World} {B c t n : Nat} {a : Option Addr} {K : Nat → Nat × Nat × Nat} {E : Nat → Nat → Int} (h : BldR w B a c t n K E) {k : Nat} (hk : (Value.slice a t c).ownBlock = some k) : B ≤ k ∧ k < w.heap.size := by
  have := h.own.lt k hk; omega
/-- One row of ints more. -/
theorem BldR.push {W w' : World} {B c t n c' b off d : Nat} {a a' : Option Addr} {K : Nat → Nat × Nat × Nat} {E : Nat → Nat → Int} {F : Nat → Int} (h : BldR W B a c t n K E) (hF : RowI W b off n F) (hB : B ≤ b) (hd : n ≤ d)
    (h1 : ∀ i, i < t → (K i).1 ≠ b) (h2 : (Value.slice a t c).ownBlock ≠ some b) (o : Obj)
    (hown : w'.ownsRow B 54 1 (.slice a' (t + 1) c') (t + 1) (hdrs K n t ++ [.slice (some ⟨b, off, none⟩) n d])) (hg : (W.alloc o).grownBy w' (Value.slice a t c).ownBlock)
    (hs : (Value.slice a' (t + 1) c').ownBlock = (Value.slice a t c).ownBlock ∨ (Value.slice a' (t + 1) c').ownBlock = some (W.heap.size + 1)) :
    BldR w' B a' c' (t + 1) n (fun i => if i = t then (b, off, d) else K i) (fun i => if i = t then F else E i) := by
  have keep : ∀ {b' off' : Nat} {G : Nat → Int}, RowI W b' off' n G → some b' ≠ (Value.slice a t c).ownBlock → RowI w' b' off' n G := fun {b' off' G} hr hne => by
    refine hr.heap (Nat.le_trans (by rw [World.size_alloc]; omega) hg.size) ?_
    rw [hg.block b' (by rw [World.size_alloc]; have := hr.lt; omega) hne]
    exact heap_alloc_old W o (by have := hr.lt; omega)
  have nb : ∀ {b' off' : Nat} {G : Nat → Int}, RowI W b' off' n G → some b' ≠ (Value.slice a t c).ownBlock → some b' ≠ (Value.slice a' (t + 1) c').ownBlock := fun {b' off' G} hr hne => by
    rcases hs with e | e
    · rw [e]; exact hne
    · rw [e]
      intro e2
      have e3 := Option.some.inj e2
      have := hr.lt
      omega
  refine ⟨by rw [hdrs_succ]; exact hown, fun i hi => ?_, fun i k hi hk e => ?_, fun i hi => ?_, fun i hi => ?_⟩
  · by_cases e : i = t
    · simp only [if_pos e]
      exact ⟨hB, nb hF (fun e2 => h2 e2.symm)⟩
    · simp only [if_neg e]
      have := h.lo i (by omega)
      exact ⟨this.1, nb (h.row i (by omega)) this.2⟩
  · by_cases e1 : i = t
    · by_cases e2 : k = t
      · omega
      · simp only [if_pos e1, if_neg e2] at e
        exact absurd e.symm (h1 k (by omega))
    · by_cases e2 : k = t
      · simp only [if_neg e1, if_pos e2] at e
        exact absurd e (h1 i (by omega))
      · simp only [if_neg e1, if_neg e2] at e
        exact h.inj i k (by omega) (by omega) e
  · by_cases e : i = t
    · simp only [if_pos e]
      exact keep hF (fun e2 => h2 e2.symm)
    · simp only [if_neg e]
      exact keep (h.row i (by omega)) (h.lo i (by omega)).2
  · by_cases e : i = t
    · simp only [if_pos e]; exact hd
    · simp only [if_neg e]; exact h.cap i (by omega)


/-- Rows that were put together can be read. -/
theorem BldR.rdm {w : World} {B c t n : Nat} {a : Option Addr} {K : Nat → Nat × Nat × Nat} {rows : List (List Int)} (h : BldR w B a c t n K (ent rows)) (ht : rows.length = t) (hr : Rect n rows) : RdM w a rows := by
  refine ⟨fun i => (some ⟨(K i).1, (K i).2.1, none⟩, (K i).2.2), ?_, fun i hi => ?_⟩
  · have e : ((List.range rows.length).map fun i => Value.slice (some ⟨(K i).1, (K i).2.1, none⟩) (rows.getD i []).length (K i).2.2) = hdrs K n t := by
      unfold hdrs
      rw [ht]
      refine List.map_congr_left fun i hi => ?_
      rw [rect_len hr (by rw [ht]; exact List.mem_range.1 hi)]
    show Rd w a ((List.range rows.length).map fun i => Value.slice (some ⟨(K i).1, (K i).2.1, none⟩) (rows.getD i []).length (K i).2.2)
    rw [e]
    exact own_rd h.own
  · have hl := rect_len hr hi
    refine .inr ⟨(K i).1, (K i).2.1, rfl, (h.row i (by omega)).lt, fun j v hv => ?_⟩
    have hj := (List.getElem?_eq_some_iff.1 hv).1
    rw [ints_length] at hj
    rw [ints_get _ _ hj] at hv
    have := (h.row i (by omega)).c j (by omega)
    rw [this, ← hv]
    unfold ent
    rw [List.getD_eq_getElem?_getD (l := rows.getD i []), List.getElem?_eq_getElem hj]; rfl

theorem below_setRow{B:Nat}{a w:World}(h:Below B a w){g:Nat}(hg:B≤g)(c:Array Value):Below B a (w.setRow g c) :=
 h.trans ⟨rfl,rfl,rfl,by simp,fun k hk=>setRow_other w g k c (by omega)⟩
theorem results_ct{P:Program}{fn:Func}{p y:Tmp}{ty:TypeId}(h:fn.results = #[.cell p ty,.tmp y])(tmps:Array Value)(w:World)(g:Nat)(t:TypeId)(cs:Array Value)(fr:Nat×Nat)(d:TypeDesc)
  (hp:tmps.getD p undef = .pointer (some ⟨g,0,none⟩)) (hg:w.heap[g]?=some (.cells cs t fr))
  (hu:P.underlying ty=some d) (hd:(match d with | .struct _ | .array _ _=>true | _=>false)=true) (hi:(P.info? ty).map (·.size)=some cs.size) :
  (results fn tmps).run P w = .ok (.tuple #[.agg cs,tmps.getD y undef]) w:=by
 have hp':tmps[p]?.getD undef = .pointer (some ⟨g,0,none⟩):=by simpa using hp
 simp[results,h,hp',asAddr,run_loadVar_row w g t ty cs fr d hg hu hd hi]
end Go.Proofs.YtepicfdhphiiaaaGreatDoor

/- lattice.longs.short. -/
namespace Go.Proofs.YtepicfdhphiiaaaGreatDoor
open Go.RowKit

theorem elMx : ElemOf Tryz.prog 30 54 (.slice none 0 0) 1 24 := ⟨Tryz.underlying30, info_parts infoRw, rfl, by decide⟩
/-- A lattice as a value. -/
def latV (n : Nat) (a : Option Addr) (t c : Nat) : Value := .agg #[.int .i64 n, .slice a t c]
/-- What short leaves of rows. -/
def ShE (w w' : World) (n : Nat) (Bs : List (List Int)) (e : Ending) : Prop :=
  Below w.heap.size w w' ∧ (((∀ i, i < Bs.length → ∀ j, j < n → Fit (ent Bs i j)) ∧ ∃ a c K, e = .returned (.tuple #[latV n a Bs.length c, .int .i64 0]) ∧ BldR w' w.heap.size a c Bs.length n K (ent Bs)) ∨ ((∃ i j, i < Bs.length ∧ j < n ∧ ¬ Fit (ent Bs i j)) ∧ e = .returned (.tuple #[latV 0 none 0 0, .int .i64 4])))

theorem BldR.set1 {w : World} {B c t n g o : Nat} {a : Option Addr} {K : Nat → Nat × Nat × Nat} {E : Nat → Nat → Int} (h : BldR w B a c t n K E) (hg : g < B) (v : Value) : BldR (w.setCell ⟨g, o, none⟩ v) B a c t n K E := by
  refine ⟨h.own.kept (row := some g) ⟨rfl, rfl, rfl, by rw [World.size_setCell]; exact Nat.le_refl _, fun k _ hne => obj_other (fun e => hne (by rw [e])) _ _⟩ ?_, h.lo, h.inj, fun i hi => (h.row i hi).heap (by rw [World.size_setCell]; exact Nat.le_refl _) (obj_other (by have := (h.lo i hi).1; omega) _ _), h.cap⟩
  cases hv : (Value.slice a t c).ownBlock with
  | none => exact .inl rfl
  | some k => exact .inr (by have := (h.size hv).1; intro e; have := Option.some.inj e; omega)
theorem obj_two {w : World} {g : Nat} {a b : Value} {t : TypeId} (h : w.heap[g]? = some (.cells #[a, b] t (0, 0))) :
    w.cell? ⟨g, 0, none⟩ = some a ∧ w.cell? ⟨g, 1, none⟩ = some b ∧ w.frozen? ⟨g, 0, none⟩ = false ∧ w.frozen? ⟨g, 1, none⟩ = false :=
  ⟨cell_of_row w g 0 _ _ _ h, cell_of_row w g 1 _ _ _ h, by simp [World.frozen?, h], by simp [World.frozen?, h]⟩
theorem BldR.setR {w : World} {B c t n g : Nat} {a : Option Addr} {K : Nat → Nat × Nat × Nat} {E : Nat → Nat → Int} (h : BldR w B a c t n K E) (hg : g < B) (cs : Array Value) : BldR (w.setRow g cs) B a c t n K E := by
  have hs : (w.setRow g cs).heap.size = w.heap.size := by simp
  refine ⟨h.own.kept (row := some g) ⟨rfl, rfl, rfl, Nat.le_of_eq hs.symm, fun k _ hne => setRow_other w g k cs (fun e => hne (by rw [e]))⟩ ?_, h.lo, h.inj, fun i hi => (h.row i hi).heap (Nat.le_of_eq hs.symm) (setRow_other w g _ cs (by have := (h.lo i hi).1; omega)), h.cap⟩
  cases hv : (Value.slice a t c).ownBlock with
  | none => exact .inl rfl
  | some k => exact .inr (by have := (h.size hv).1; intro e; have := Option.some.inj e; omega)
theorem BldR.lower {w : World} {B B' c t n : Nat} {a : Option Addr} {K : Nat → Nat × Nat × Nat} {E : Nat → Nat → Int} (h : BldR w B a c t n K E) (hb : B' ≤ B) : BldR w B' a c t n K E :=
  ⟨own_lower h.own hb, fun i hi => ⟨Nat.le_trans hb (h.lo i hi).1, (h.lo i hi).2⟩, h.inj, h.row, h.cap⟩
theorem BldR.congr {w : World} {B c t n : Nat} {a : Option Addr} {K : Nat → Nat × Nat × Nat} {E E' : Nat → Nat → Int} (h : BldR w B a c t n K E) (he : ∀ i, i < t → ∀ j, j < n → E i j = E' i j) : BldR w B a c t n K E' :=
  ⟨h.own, h.lo, h.inj, fun i hi => (h.row i hi).congr (he i hi), h.cap⟩
theorem shorts_any (w : World) (B n : Nat) (v : Value) (Bs : List (List Int)) (hV : MatV w B v Bs.length n (ent Bs)) (hr : Rect n Bs) (hz : ∀ i, i < Bs.length → ∀ j, j < n → (ent Bs i j).natAbs ≤ LimN) (hm : Bs.length ≤ 100) (hn : 0 < n) (hn1 : n ≤ 100) (L : ∀ W, Below w.heap.size w W → Laid W) :
    Calls Tryz.prog 67 #[v, .int .i64 n] w fun e w' => ShE w w' n Bs e := by
  obtain ⟨a, cap, rfl, hV⟩ := hV
  have HV := Lib.hid hV
  have H1 := Lib.hid (fun W (hW : Below w.heap.size w W) i (hi : i < Bs.length) b off c (hF : RowS W b off n (ent Bs i)) => short1_any W b off c n (Bs.getD i []) hF (rect_len hr hi) hn (by omega) (hz i hi) (L W hW))
  have Hlen : Hid (∀ i, i < Bs.length → (Bs.getD i []).length = n) := fun i hi => rect_len hr hi
  clear hV hz L hr
  obtain ⟨m, hme⟩ : ∃ m, Bs.length = m := ⟨_, rfl⟩
  have Hme := Lib.hid hme
  rw [hme] at HV H1 Hlen hm ⊢
  clear hme
  have K0 := heap_at w #[.int .i64 0, .slice none 0 0] 67 _ rfl
  have e1 : (w.alloc (.cells #[.int .i64 0, .slice none 0 0] 67)).heap.size = w.heap.size + 1 := by simp
  have N1 := Lib.hid (heap_at (w.alloc (.cells #[.int .i64 0, .slice none 0 0] 67)) #[.int .i64 n, .slice none 0 0] 67 _ e1)
  have N0 := Lib.hid (heap_old K0 (.cells #[.int .i64 n, .slice none 0 0] 67))
  have B0 := Lib.hid (((Below.refl w.heap.size w).alloc (Nat.le_refl _) (.cells #[.int .i64 0, .slice none 0 0] 67)).alloc (by rw [e1]; omega) (.cells #[.int .i64 n, .slice none 0 0] 67))
  have S0 : Hid (w.heap.size + 2 ≤ ((w.alloc (.cells #[.int .i64 0, .slice none 0 0] 67)).alloc (.cells #[.int .i64 n, .slice none 0 0] 67)).heap.size) := by show _ ≤ _; simp
  clear K0 e1
  go_enter Tryz.func67, Tryz.ntmps67
  go_wp2_with fail
  generalize (w.alloc (.cells #[.int .i64 0, .slice none 0 0] 67)).alloc (.cells #[.int .i64 n, .slice none 0 0] 67) = w2 at *
  go_loopw [15] (fun z wr => ∃ (t : Nat) (a2 : Option Addr) (c2 : Nat) (K : Nat → Nat × Nat × Nat), t ≤ m ∧ z = .int .i64 t ∧ Hid (wr.heap[w.heap.size]? = some (.cells #[.int .i64 0, .slice none 0 0] 67 (0, 0))) ∧ Hid (wr.heap[w.heap.size + 1]? = some (.cells #[.int .i64 n, .slice a2 t c2] 67 (0, 0))) ∧ Hid (w.heap.size + 2 ≤ wr.heap.size) ∧ Hid (BldR wr (w.heap.size + 2) a2 c2 t n K (ent Bs)) ∧ Hid (∀ i, i < t → ∀ j, j < n → Fit (ent Bs i j)) ∧ Hid (Below w.heap.size w wr)) (fun z _ => m - (intOf z).toNat)
  case atStart => exact ⟨0, none, 0, fun _ => (0, 0, 0), Nat.zero_le _, rfl, N0, N1, S0, BldR.nil _ _ _ _ _, fun i hi => absurd hi (Nat.not_lt_zero _), B0⟩
  case round =>
    clear N0 N1 S0 B0
    obtain ⟨t, a2, c2, K2, ht, rfl, N0, N1, S0, O, T, D⟩ := hrel
    by_cases hlt : t < m
    · have hlt' : (t : Int) < m := by omega
      have hltt : decide (t < m) = true := decide_eq_true hlt
      obtain ⟨h1, g, K, rfl, M⟩ := HV.out.resolve_left (by omega)
      have MW := M.below D.out (Nat.le_refl _)
      have k1 := MW.out t hlt
      have HS := Lib.hid (H1.out wr D.out t hlt _ _ (K t).2.2 (MW.row t hlt))
      clear M MW h1
      go_wp2_with fail
      refine Calls.mono HS.out ?_
      rintro e w1 ⟨hb, hsh⟩
      have D1 := Lib.hid (D.out.trans (hb.mono D.out.size))
      have P0 : Hid (w1.heap[w.heap.size]? = some (.cells #[.int .i64 0, .slice none 0 0] 67 (0, 0))) := (hb.block _ (by have := S0.out; omega)).trans N0.out
      have P1 : Hid (w1.heap[w.heap.size + 1]? = some (.cells #[.int .i64 n, .slice a2 t c2] 67 (0, 0))) := (hb.block _ (by have := S0.out; omega)).trans N1.out
      have S1 : Hid (w.heap.size + 2 ≤ w1.heap.size) := Nat.le_trans S0.out hb.size
      have O1 := Lib.hid (O.out.below hb (Nat.le_refl _))
      rcases hsh with ⟨hfit, a3, c3, rfl, hown⟩ | ⟨⟨j, hj, hnf⟩, rfl⟩
      · obtain ⟨g3, rfl, q1, q2, q3⟩ := own_rowI hown hn (Hlen.out t hlt)
        have Hfit := Lib.hid hfit
        have Hne1 : Hid (∀ i, i < t → (K2 i).1 ≠ g3) := fun i hi e => by have := (O.out.row i hi).lt; omega
        have Hne2 : Hid ((Value.slice a2 t c2).ownBlock ≠ some g3) := fun e => by have := (O.out.size e).2; omega
        have HBg : Hid (w.heap.size + 2 ≤ g3) := Nat.le_trans S0.out q1
        have Q2 := Lib.hid q2
        have Q3 := Lib.hid q3
        obtain ⟨-, kc, -, -⟩ := obj_two P1.out
        have hO1 := O1.out.own
        clear hfit hown q1 q2 q3 hb N0 N1 S0 O D HS k1
        go_wp2_with (at_builtin; refine append_new_at rfl (.tmp 29) (.tmp 31) 30 rfl elMx _ 1 [.slice (some ⟨g3, 0, none⟩) n c3] rfl rfl hO1 S1.out rfl ?c1 (by omega) (by omega) ?_)
        case c1 => first | rfl | (intro u hu; obtain rfl := List.mem_singleton.1 hu; rfl)
        intro v' w3 hown3 hg3 hs3
        obtain ⟨a4, c4, rfl⟩ := own_form hown3
        have hnb : ∀ k, k < w.heap.size + 2 → some k ≠ (Value.slice a2 t c2).ownBlock := fun k hk e => by have := (O1.out.size e.symm).1; omega
        have R0 : Hid (w3.heap[w.heap.size]? = some (.cells #[.int .i64 0, .slice none 0 0] 67 (0, 0))) := by
          show _ = _
          rw [hg3.block _ (by rw [World.size_alloc]; have := S1.out; omega) (hnb _ (by omega)), heap_alloc_old _ _ (by have := S1.out; omega)]
          exact P0.out
        have R1 : Hid (w3.heap[w.heap.size + 1]? = some (.cells #[.int .i64 n, .slice a2 t c2] 67 (0, 0))) := by
          show _ = _
          rw [hg3.block _ (by rw [World.size_alloc]; have := S1.out; omega) (hnb _ (by omega)), heap_alloc_old _ _ (by have := S1.out; omega)]
          exact P1.out
        have S3 : Hid (w.heap.size + 2 ≤ w3.heap.size) := Nat.le_trans S1.out (Nat.le_trans (by rw [World.size_alloc]; omega) hg3.size)
        have D3 : Hid (Below w.heap.size w w3) := ((D1.out.alloc D1.out.size _)).grown hg3 (Nat.le_trans D1.out.size (by simp)) (fun kk hk => by have := (O1.out.size hk).1; omega)
        have O3 := Lib.hid (O1.out.push Q3.out HBg.out Q2.out Hne1.out Hne2.out _ hown3 hg3 hs3)
        obtain ⟨-, kd, -, kf⟩ := obj_two R1.out
        clear hown3 hg3 hs3 O1 D1 hO1 Hne1 Hne2 HBg Q2 Q3 P0 P1 S1 kc hnb
        go_wp2_with fail
        go_roundw
        case rel =>
          refine ⟨t + 1, a4, c4, _, by omega, by go_num, (obj_other (by omega) _ _).trans R0.out, (obj_set R1.out 1 _).trans rfl, by show _ ≤ _; rw [World.size_setCell]; exact S3.out, (O3.out.congr fun i hi2 j _ => ?_).set1 (by omega) _, fun i hi j hj => ?_, D3.out.setCell (p := ⟨w.heap.size + 1, 1, none⟩) (Nat.le_succ _) _⟩
          · by_cases e1 : i = t
            · rw [e1, if_pos rfl]; rfl
            · rw [if_neg e1]
          · by_cases e1 : i = t
            · rw [e1]; exact Hfit.out j hj
            · exact T.out i (by omega) j hj
        case measure => simp [intOf]; omega
      · have Hnf := Lib.hid hnf
        clear hnf hb N0 N1 S0 O D HS k1
        go_wp2_with (refine wpList_store_row rfl 67 (.tmp 4) (.tmp 26) rfl w.heap.size _ rfl rfl 67 _ P0.out (by kernel_rfl) rfl (by simp [Value.oneCell']) ?_)
        refine bodyPost_ret (results_ct rfl _ _ w.heap.size 67 _ (0, 0) _ rfl (setRow_heap _ _ _ _ _ _ P0.out) Tryz.underlying67 rfl (by kernel_rfl)) rfl ⟨below_setRow D1.out (Nat.le_refl _) _, .inr ⟨⟨t, j, by rw [Hme.out]; exact hlt, hj, Hnf.out⟩, rfl⟩⟩
    · have hlt' : ¬ (t : Int) < m := by omega
      have hltt : decide (t < m) = false := decide_eq_false hlt
      obtain rfl : m = t := by omega
      go_wp2_with (first | (refine wpList_load_row rfl 67 (.tmp 6) rfl (w.heap.size + 1) rfl 67 _ (0, 0) _ N1.out Tryz.underlying67 rfl (by kernel_rfl) ?_) | (refine wpList_store_row rfl 67 (.tmp 4) (.tmp 35) rfl w.heap.size _ rfl rfl 67 _ N0.out (by kernel_rfl) rfl (by simp [Value.oneCell']) ?_))
      refine bodyPost_ret (results_ct rfl _ _ w.heap.size 67 _ (0, 0) _ rfl (setRow_heap _ _ _ _ _ _ N0.out) Tryz.underlying67 rfl (by kernel_rfl)) rfl ⟨below_setRow D.out (Nat.le_refl _) _, .inl ⟨fun i hi => T.out i (by rw [Hme.out] at hi; exact hi), a2, c2, K2, ?_, ?_⟩⟩
      · rw [Hme.out]; rfl
      · rw [Hme.out]
        exact (O.out.setR (by omega) _).lower (by omega)

def rfit (x:Int):Prop := -1000000000≤x∧x≤1000000000
instance (x:Int):Decidable (rfit x):=inferInstanceAs (Decidable (_∧_))
def ridx:List Int→Nat→Int
 | [],_ => -1
 | x::l,k=>if rfit x then ridx l (k+1) else k
def rcode (r:List Int):Int:=if r.length≤64 then (if ridx r 0<0 then 0 else 4) else 4
theorem ridx_lt:∀ (l:List Int) (k:Nat),ridx l k<0↔∀ x∈l,rfit x
 | [],k=>by simp[ridx]
 | x::l,k=>by
  unfold ridx;split
  ·rename_i h;rw[ridx_lt l (k+1)];simp[h]
  ·rename_i h;simp[h]
theorem rcode_zero{r:List Int}:rcode r=0↔r.length≤64∧∀ x∈r,rfit x:=by
 unfold rcode;split
 ·split
  ·rename_i h1 h2;exact⟨fun _=>⟨h1,(ridx_lt r 0).1 h2⟩,fun _=>rfl⟩
  ·rename_i h1 h2;exact⟨fun h=>by simp at h,fun h=>absurd ((ridx_lt r 0).2 h.2) h2⟩
 ·rename_i h1;exact⟨fun h=>by simp at h,fun h=>absurd h.1 h1⟩
theorem fits_any(w:World)(x:Int):Gives Tryz.prog 116 #[.int .i64 x] w (.bool (decide (rfit x))):=by
 unfold Gives;have B:=hd_ (Below.refl w.heap.size w)
 by_cases h1 : -1000000000≤x
 ·by_cases h2:x≤1000000000
  ·rw[show decide (rfit x)=true from decide_eq_true ⟨h1,h2⟩];go_enter Tryz.func116,Tryz.ntmps116;go_wp2;go_ret;exact⟨by simp,B.out⟩
  ·rw[show decide (rfit x)=false from decide_eq_false (fun h=>h2 h.2)];go_enter Tryz.func116,Tryz.ntmps116;go_wp2;go_ret;exact⟨by simp,B.out⟩
 ·rw[show decide (rfit x)=false from decide_eq_false (fun h=>h1 h.1)];go_enter Tryz.func116,Tryz.ntmps116;go_wp2;go_ret;exact⟨by simp,B.out⟩
theorem unfit_any(w:World)(x:Int):Gives Tryz.prog 115 #[.int .i64 x] w (.bool (!decide (rfit x))):=by
 unfold Gives;have H:=hd_ (fits_any w x);go_enter Tryz.func115,Tryz.ntmps115;go_wp2_with fail;refine cm_ H.out ?_;rintro e w1 ⟨rfl,hb⟩;have B:=hd_ hb;clear hb H;go_wp2_with fail;go_ret;exact⟨rfl,B.out⟩
theorem rindex_any(w:World)(a:Option Addr)(c:Nat)(l:List Int)(hr:Rd w a (ints l))(hl:l.length≤1000000):
  Gives Tryz.prog 145 #[.slice a l.length c,.func (.func 115) #[] #[]] w (.int .i64 (ridx l 0)):=by
 unfold Gives;have Hr:=hd_ hr;have Hv:Hid (ridx l 0=ridx l 0):=rfl;clear hr;generalize hm:l.length=m at *;have Hm:=hd_ hm;clear hm;generalize hv:ridx l 0=v at *;have Hvv:Hid (v=ridx l 0):=hv.symm;clear hv Hv;go_enter Tryz.func145,Tryz.ntmps145;go_wp2_with fail
 go_loopw [8] (fun i wr=>∃ k:Nat,k≤m∧i = .int .i64 k∧Hid (v=ridx (l.drop k) k)∧Hid (Below w.heap.size w wr)) (fun i _=>m-(intOf i).toNat)
 case atStart=>exact⟨0,Nat.zero_le _,rfl,Hvv,Below.refl _ _⟩
 case round =>
  obtain⟨k,hk,rfl,Hx,B⟩:=hrel
  by_cases hlt:k<m
  ·have hlt':(k:Int)<m:=by omega
   have hkb:k<l.length:=by rw[Hm.out];exact hlt
   obtain⟨b,off,rfl,hb,hcells⟩:=Hr.out.open (by rw[ints_length];omega);have cy:=hcells k _ (ints_get l k hkb);rw[← B.out.cell (p:=⟨b,off+k,none⟩) hb] at cy;have Hd:Hid (l.drop k=l[k]::l.drop (k+1)):=List.drop_eq_getElem_cons hkb;have Hc:Hid (∀ x,Gives Tryz.prog 115 #[.int .i64 x] wr (.bool (!decide (rfit x)))):=fun x=>unfit_any wr x
   clear hcells;generalize l[k]=x at *
   by_cases hf:rfit x
   ·have Hn:Hid (v=ridx (l.drop (k+1)) (k+1)):=by show _=_;rw[Hx.out,Hd.out,ridx,if_pos hf]
    have Hc2:=hd_ (Hc.out x);rw[show (!decide (rfit x))=false by simp[hf]] at Hc2;go_wp2_with fail;refine cm_ Hc2.out ?_;rintro e w1 ⟨rfl,hb1⟩;have B1:=bt_ B hb1;clear hb1 Hc Hc2 B cy;go_wp2_with fail
    go_roundw
    case rel=>exact⟨k+1,by omega,by go_num,Hn,B1⟩
    case measure=>simp[intOf];omega
   ·have Hn:Hid (v=k):=by show _=_;rw[Hx.out,Hd.out,ridx,if_neg hf]
    have Hc2:=hd_ (Hc.out x);rw[show (!decide (rfit x))=true by simp[hf]] at Hc2;go_wp2_with fail;refine cm_ Hc2.out ?_;rintro e w1 ⟨rfl,hb1⟩;have B1:=bt_ B hb1;clear hb1 Hc Hc2 B cy;go_wp2_with fail;go_ret;exact⟨by rw[Hn.out];rfl,B1.out⟩
  ·have hlt':¬ (k:Int)<m:=by omega
   have Hn:Hid (v = -1):=by show _=_;rw[Hx.out,List.drop_of_length_le (by rw[Hm.out];omega)];rfl
   go_wp2_with fail;go_ret;exact⟨by rw[Hn.out];rfl,B.out⟩
theorem rcontains_any(w:World)(a:Option Addr)(c:Nat)(l:List Int)(hr:Rd w a (ints l))(hl:l.length≤1000000):
  Gives Tryz.prog 114 #[.slice a l.length c,.func (.func 115) #[] #[]] w (.bool (decide (0≤ridx l 0))):=by
 unfold Gives;have Hi:=hd_ (rindex_any w a c l hr hl);clear hr;generalize ridx l 0=v at *;go_enter Tryz.func114,Tryz.ntmps114;go_wp2_with fail;refine cm_ Hi.out ?_;rintro e w1 ⟨rfl,hb⟩;have B:=hd_ hb;clear hb Hi;go_wp2_with fail;go_ret;exact⟨by simp,B.out⟩
theorem rowCheck_any(w:World)(a:Option Addr)(c:Nat)(l:List Int)(hr:Rd w a (ints l))(hl:l.length≤1000000):
  Gives Tryz.prog 80 #[.slice a l.length c] w (.int .i64 (rcode l)):=by
 unfold Gives;have Hi:=hd_ (rcontains_any w a c l hr hl);have Hv:Hid (rcode l=if l.length≤64 then (if ridx l 0<0 then 0 else 4) else 4):=rfl;clear hr;generalize rcode l=v at *;generalize ridx l 0=z at *;generalize l.length=n at *
 by_cases h:n≤64
 ·have h':¬ 64<(n:Int):=by omega
  rw[if_pos h] at Hv
  by_cases hz:z<0
  ·rw[if_pos hz] at Hv;rw[show decide (0≤z)=false from decide_eq_false (by omega)] at Hi;go_enter Tryz.func80,Tryz.ntmps80;go_wp2_with fail;refine cm_ Hi.out ?_;rintro e w1 ⟨rfl,hb⟩;have B:=hd_ hb;clear hb Hi;go_wp2_with fail;go_ret;exact⟨by rw[Hv.out];rfl,B.out⟩
  ·rw[if_neg hz] at Hv;rw[show decide (0≤z)=true from decide_eq_true (by omega)] at Hi;go_enter Tryz.func80,Tryz.ntmps80;go_wp2_with fail;refine cm_ Hi.out ?_;rintro e w1 ⟨rfl,hb⟩;have B:=hd_ hb;clear hb Hi;go_wp2_with fail;go_ret;exact⟨by rw[Hv.out];rfl,B.out⟩
 ·have h':64<(n:Int):=by omega
  rw[if_neg h] at Hv;have B:=hd_ (Below.refl w.heap.size w);go_enter Tryz.func80,Tryz.ntmps80;go_wp2_with fail;go_ret;exact⟨by rw[Hv.out];rfl,B.out⟩
end Go.Proofs.YtepicfdhphiiaaaGreatDoor

/- row.CheckAll. -/
namespace Go.Proofs.YtepicfdhphiiaaaGreatDoor
open Go.RowKit

/-- The error of rows of n numbers. -/
def acode (n : Nat) : List (List Int) → Int
  | [] => 0
  | r :: rs => if rcode r ≠ 0 then rcode r else if r.length = n then acode n rs else 5
theorem acode_zero {n : Nat} : ∀ {rows : List (List Int)}, acode n rows = 0 ↔ ∀ r ∈ rows, rcode r = 0 ∧ r.length = n
  | [] => by simp [acode]
  | r :: rs => by
    unfold acode
    split
    · rename_i h
      exact ⟨fun h2 => absurd h2 h, fun h2 => absurd (h2 r List.mem_cons_self).1 h⟩
    · rename_i h
      split
      · rename_i h3
        rw [acode_zero]
        simp only [List.mem_cons, forall_eq_or_imp]
        exact ⟨fun h4 => ⟨⟨by omega, h3⟩, h4⟩, fun h4 => h4.2⟩
      · rename_i h3
        exact ⟨fun h4 => by simp at h4, fun h4 => absurd (h4 r List.mem_cons_self).2 h3⟩

theorem checkAll_any (w : World) (a : Option Addr) (c n : Nat) (rows : List (List Int)) (hr : RdM w a rows) (hl : rows.length ≤ 1000) (hl2 : ∀ r ∈ rows, r.length ≤ 1000) :
    Gives Tryz.prog 111 #[.slice a rows.length c, .int .i64 n] w (.int .i64 (acode n rows)) := by
  unfold Gives
  obtain ⟨A, hA, hrow⟩ := hr
  have Hc := Lib.hid (fun i (hi : i < rows.length) W (hW : Below w.heap.size w W) => by
    obtain ⟨b, off, e, hb, hcell⟩ := hA.open (by simp; omega)
    exact (⟨b, off, e, (hW.cell (p := ⟨b, off + i, none⟩) hb).trans (hcell i _ (by rw [List.getElem?_map, List.getElem?_range hi]; rfl))⟩ : ∃ b off, a = some ⟨b, off, none⟩ ∧ W.cell? ⟨b, off + i, none⟩ = some (.slice (A i).1 (rows.getD i []).length (A i).2)))
  have HK := Lib.hid (fun i (hi : i < rows.length) W (hW : Below w.heap.size w W) => rowCheck_any W (A i).1 (A i).2 (rows.getD i []) ((hrow i hi).below hW (Nat.le_refl _)) (by have := hl2 _ (lrow_mem hi); omega))
  have Hd : Hid (∀ t, t < rows.length → acode n (rows.drop t) = if rcode (rows.getD t []) ≠ 0 then rcode (rows.getD t []) else if (rows.getD t []).length = n then acode n (rows.drop (t + 1)) else 5) := fun t ht => by
    rw [List.drop_eq_getElem_cons ht, List.getD_eq_getElem?_getD, List.getElem?_eq_getElem ht]; rfl
  have Hn : Hid (acode n (rows.drop rows.length) = 0) := by show _ = _; rw [List.drop_length]; rfl
  have H0 : Hid (acode n (rows.drop 0) = acode n rows) := by show _ = _; rw [List.drop_zero]
  clear hA hrow hl2
  obtain ⟨m, hm⟩ : ∃ m, rows.length = m := ⟨_, rfl⟩
  rw [hm] at hl Hc HK Hd Hn ⊢
  clear hm
  obtain ⟨v, hv⟩ : ∃ v, acode n rows = v := ⟨_, rfl⟩
  rw [hv] at H0 ⊢
  clear hv
  go_enter Tryz.func111, Tryz.ntmps111
  go_wp2_with fail
  go_loopw [10] (fun z wr => ∃ t : Nat, t ≤ m ∧ z = .int .i64 t ∧ Hid (acode n (rows.drop t) = v) ∧ Hid (Below w.heap.size w wr)) (fun z _ => m - (intOf z).toNat)
  case atStart => exact ⟨0, Nat.zero_le _, rfl, H0, Below.refl _ _⟩
  case round =>
    clear H0
    obtain ⟨t, ht, rfl, V, D⟩ := hrel
    by_cases hlt : t < m
    · have hlt' : (t : Int) < m := by omega
      have hltt : decide (t < m) = true := decide_eq_true hlt
      obtain ⟨b, off, rfl, ct⟩ := Hc.out t hlt wr D.out
      have HKt := Lib.hid (HK.out t hlt wr D.out)
      have Hdt := Lib.hid (Hd.out t hlt)
      generalize (A t).1 = a1 at *
      generalize (A t).2 = c1 at *
      generalize rows.getD t [] = r at *
      generalize hk : r.length = k at *
      generalize rcode r = z at *
      clear hk
      by_cases hz : z = 0
      · subst hz
        by_cases hkn : k = n
        · have Hkn := Lib.hid hkn
          have hb : ((k : Int) != (n : Int)) = false := by rw [hkn]; simp
          clear hkn
          go_wp2_with fail
          refine Calls.mono HKt.out ?_
          rintro e w1 ⟨rfl, hb1⟩
          have D1 := Lib.hid (D.out.trans (hb1.mono D.out.size))
          clear hb1 D HKt ct
          go_wp2_with fail
          go_roundw
          case rel => exact ⟨t + 1, by omega, by go_num, by show _ = _; rw [← V.out, Hdt.out, if_neg (by simp), if_pos Hkn.out], D1⟩
          case measure => simp [intOf]; omega
        · have Hkn := Lib.hid hkn
          have hb : ((k : Int) != (n : Int)) = true := by rw [bne_iff_ne]; omega
          clear hkn
          go_wp2_with fail
          refine Calls.mono HKt.out ?_
          rintro e w1 ⟨rfl, hb1⟩
          have D1 := Lib.hid (D.out.trans (hb1.mono D.out.size))
          clear hb1 D HKt ct
          go_wp2_with fail
          go_ret
          exact ⟨by rw [← V.out, Hdt.out, if_neg (by simp), if_neg Hkn.out]; rfl, D1.out⟩
      · have Hz := Lib.hid hz
        have hb : (z != 0) = true := by rw [bne_iff_ne]; exact hz
        clear hz
        go_wp2_with fail
        refine Calls.mono HKt.out ?_
        rintro e w1 ⟨rfl, hb1⟩
        have D1 := Lib.hid (D.out.trans (hb1.mono D.out.size))
        clear hb1 D HKt ct
        go_wp2_with fail
        go_ret
        exact ⟨by rw [← V.out, Hdt.out, if_pos Hz.out]; rfl, D1.out⟩
    · have hlt' : ¬ (t : Int) < m := by omega
      have hltt : decide (t < m) = false := decide_eq_false hlt
      obtain rfl : m = t := by omega
      go_wp2_with fail
      go_ret
      exact ⟨by rw [← V.out, Hn.out]; rfl, D.out⟩

end Go.Proofs.YtepicfdhphiiaaaGreatDoor

/- lattice.check. -/
namespace Go.Proofs.YtepicfdhphiiaaaGreatDoor
open Go.RowKit

/-- The error of rows with n columns. -/
def latcode (n : Nat) (rows : List (List Int)) : Int := if 12 < n then 3 else if 12 < rows.length then 4 else acode n rows

theorem lcheck_any (w : World) (a : Option Addr) (c n : Nat) (rows : List (List Int)) (hr : RdM w a rows) (hl : rows.length ≤ 1000) (hl2 : ∀ r ∈ rows, r.length ≤ 1000) :
    Gives Tryz.prog 72 #[.int .i64 n, .slice a rows.length c] w (.int .i64 (latcode n rows)) := by
  unfold Gives
  have HC := Lib.hid (checkAll_any w a c n rows hr hl hl2)
  have Hv : Hid (latcode n rows = if 12 < n then 3 else if 12 < rows.length then 4 else acode n rows) := rfl
  clear hr hl2
  generalize latcode n rows = v at *
  generalize acode n rows = z at *
  generalize rows.length = m at *
  have h0 : decide ((n : Int) < 0) = false := decide_eq_false (by omega)
  by_cases h1 : 12 < n
  · have h1' : decide ((12 : Int) < n) = true := decide_eq_true (by omega)
    have h1'' : (12 : Int) < n := by omega
    rw [if_pos h1] at Hv
    clear HC
    go_enter Tryz.func72, Tryz.ntmps72
    go_wp2_with fail
    go_ret
    exact ⟨by rw [Hv.out]; rfl, Below.refl _ _⟩
  · have h1' : decide ((12 : Int) < n) = false := decide_eq_false (by omega)
    have h1'' : ¬ (12 : Int) < n := by omega
    rw [if_neg h1] at Hv
    by_cases h2 : 12 < m
    · have h2' : (12 : Int) < m := by omega
      rw [if_pos h2] at Hv
      clear HC
      go_enter Tryz.func72, Tryz.ntmps72
      go_wp2_with fail
      go_ret
      exact ⟨by rw [Hv.out]; rfl, Below.refl _ _⟩
    · have h2' : ¬ (12 : Int) < m := by omega
      rw [if_neg h2] at Hv
      go_enter Tryz.func72, Tryz.ntmps72
      go_wp2_with fail
      refine Calls.mono HC.out ?_
      rintro e w1 ⟨rfl, hb⟩
      have B := Lib.hid hb
      clear hb HC
      go_wp2_with fail
      go_ret
      exact ⟨by rw [Hv.out]; rfl, B.out⟩

end Go.Proofs.YtepicfdhphiiaaaGreatDoor

/- lattice.Of. -/
namespace Go.Proofs.YtepicfdhphiiaaaGreatDoor
open Go.RowKit

theorem seq_nine : ∀ mm, mm < 13 → ∀ d, d < mm + 1 → eM 9 mm d ≤ 999990 ∧ eD 9 mm d ≤ 999990 := by decide
theorem rows_nine {n : Nat} {rows : List (List Int)} (h : acode n rows = 0) : Rect n rows ∧ (∀ r ∈ rows, I64s r) ∧ ∀ i, i < rows.length → ∀ j, (ent rows i j).natAbs ≤ 10 ^ 9 := by
  have h1 := acode_zero.1 h
  refine ⟨fun r hr => (h1 r hr).2, fun r hr x hx => ?_, fun i hi j => ?_⟩
  · have := (rcode_zero.1 (h1 r hr).1).2 x hx
    unfold rfit at this
    omega
  · unfold ent
    have h2 := (rcode_zero.1 (h1 _ (lrow_mem hi)).1).2
    rw [List.getD_eq_getElem?_getD (l := rows.getD i [])]
    rcases Nat.lt_or_ge j (rows.getD i []).length with h3 | h3
    · rw [List.getElem?_eq_getElem h3]
      have := h2 _ (List.getElem_mem h3)
      unfold rfit at this
      show ((rows.getD i [])[j]).natAbs ≤ 10 ^ 9
      omega
    · rw [List.getElem?_eq_none h3]; simp

/-- What Of leaves of right rows. -/
def OfE (w w' : World) (n : Nat) (rows : List (List Int)) (e : Ending) : Prop :=
  Below w.heap.size w w' ∧ ((latcode n rows ≠ 0 ∧ e = .returned (.tuple #[latV 0 none 0 0, .int .i64 (latcode n rows)])) ∨ (latcode n rows = 0 ∧ ∃ Bs, IsHnf Bs ∧ Rect n Bs ∧ SameSp rows Bs ∧ Bs.length ≤ rows.length ∧
    (((∀ i, i < Bs.length → ∀ j, j < n → Fit (ent Bs i j)) ∧ ∃ a c K, e = .returned (.tuple #[latV n a Bs.length c, .int .i64 0]) ∧ BldR w' w.heap.size a c Bs.length n K (ent Bs)) ∨ ((∃ i j, i < Bs.length ∧ j < n ∧ ¬ Fit (ent Bs i j)) ∧ e = .returned (.tuple #[latV 0 none 0 0, .int .i64 4])))))

theorem latof_any (w : World) (a : Option Addr) (c n : Nat) (rows : List (List Int)) (hr : RdM w a rows) (hl : rows.length ≤ 1000) (hl2 : ∀ r ∈ rows, r.length ≤ 1000) (hn : 0 < n) (L : Laid w) :
    Calls Tryz.prog 59 #[.int .i64 n, .slice a rows.length c] w fun e w' => OfE w w' n rows e := by
  have HR := Lib.hid hr
  have HL := Lib.hid L
  have HC := Lib.hid (fun W (hW : Below w.heap.size w W) => lcheck_any W a c n rows (hr.below hW (Nat.le_refl _)) hl hl2)
  have K0 := Lib.hid (heap_at w #[.int .i64 0, .slice none 0 0] 67 _ rfl)
  have B0 := Lib.hid ((Below.refl w.heap.size w).alloc (Nat.le_refl _) (.cells #[.int .i64 0, .slice none 0 0] 67))
  have S0 : Hid (w.heap.size + 1 ≤ (w.alloc (.cells #[.int .i64 0, .slice none 0 0] 67)).heap.size) := by show _ ≤ _; simp
  clear hr L hl2
  by_cases hz : latcode n rows = 0
  · have Hz := Lib.hid hz
    obtain ⟨h12, hr12, hac⟩ : n ≤ 12 ∧ rows.length ≤ 12 ∧ acode n rows = 0 := by
      unfold latcode at hz
      split at hz
      · simp at hz
      · split at hz
        · simp at hz
        · exact ⟨by omega, by omega, hz⟩
    obtain ⟨hrect, h64, h9⟩ := rows_nine hac
    have HLo := Lib.hid (fun W (hW : Below w.heap.size w W) => longsOf_any W a c n rows (HR.out.below hW (Nat.le_refl _)) hrect h64 hn (by omega) (by omega) (HL.out.below hW))
    have HFo := Lib.hid (fun W (hW : Below w.heap.size w W) B v (hB : B ≤ W.heap.size) (hBw : w.heap.size ≤ B) (hv : MatV W B v rows.length n (ent rows)) => form_law W B 9 n v rows hrect h9 (fun d hd => seq_nine _ (by omega) d (by omega)) hv hB (by omega) (by omega) (fun W2 hW2 => HL.out.below (hW.trans (hW2.mono hBw))))
    have HSh := Lib.hid (fun W (hW : Below w.heap.size w W) B v Bs (hv : MatV W B v Bs.length n (ent Bs)) (hrb : Rect n Bs) (hzb : ∀ i, i < Bs.length → ∀ j, (ent Bs i j).natAbs ≤ 10 ^ eD 9 rows.length rows.length) (hlb : Bs.length ≤ rows.length) => shorts_any W B n v Bs hv hrb (fun i hi j _ => Nat.le_trans (hzb i hi j) (lim_ten (seq_nine rows.length (by omega) rows.length (by omega)).2)) (by omega) hn (by omega) (fun W2 hW2 => HL.out.below (hW.trans (hW2.mono hW.size))))
    clear hz hac hrect h64 h9 HR
    have hb : (latcode n rows != 0) = false := by rw [Hz.out]; rfl
    rw [Hz.out] at HC
    clear hb
    go_enter Tryz.func59, Tryz.ntmps59
    go_wp2_with fail
    generalize w.alloc (.cells #[.int .i64 0, .slice none 0 0] 67) = w1 at *
    refine Calls.mono (HC.out w1 B0.out) ?_
    rintro e w2 ⟨rfl, hb1⟩
    have P0 : Hid (w2.heap[w.heap.size]? = some (.cells #[.int .i64 0, .slice none 0 0] 67 (0, 0))) := (hb1.block _ (by have := S0.out; omega)).trans K0.out
    have D1 := Lib.hid (B0.out.trans (hb1.mono B0.out.size))
    have S1 : Hid (w.heap.size + 1 ≤ w2.heap.size) := Nat.le_trans S0.out hb1.size
    clear hb1 K0 B0 S0 HC
    go_wp2_with fail
    refine Calls.mono (HLo.out w2 D1.out) ?_
    rintro e w3 ⟨v3, rfl, hM3, hb3⟩
    have D3 := Lib.hid (D1.out.trans (hb3.mono D1.out.size))
    have HF3 := Lib.hid (HFo.out w3 D3.out w2.heap.size v3 hb3.size D1.out.size hM3)
    have E3 := Lib.hid hb3
    clear hM3 hb3 HLo HFo
    go_wp2_with fail
    refine Calls.mono HF3.out ?_
    rintro e w4 ⟨v4, Bs, rfl, hM4, hH, hRt, hS, hLn, hBd, hb4⟩
    have D4 := Lib.hid (D3.out.trans (hb4.mono D1.out.size))
    have E4 := Lib.hid (E3.out.trans hb4)
    have HS4 := Lib.hid (HSh.out w4 D4.out w2.heap.size v4 Bs hM4 hRt hBd hLn)
    have QH := Lib.hid hH
    have QR := Lib.hid hRt
    have QS := Lib.hid hS
    have QL := Lib.hid hLn
    clear hM4 hH hRt hS hLn hBd hb4 HF3 HSh E3 D3
    go_wp2_with fail
    refine Calls.mono HS4.out ?_
    rintro e w5 ⟨hb5, hsh⟩
    have D5 := Lib.hid (D4.out.trans (hb5.mono D4.out.size))
    have P5 : Hid (w5.heap[w.heap.size]? = some (.cells #[.int .i64 0, .slice none 0 0] 67 (0, 0))) := (hb5.block _ (by have := S1.out; have := E4.out.size; omega)).trans ((E4.out.block _ (by have := S1.out; omega)).trans P0.out)
    have S4 : Hid (w.heap.size < w4.heap.size) := by have := S1.out; have := E4.out.size; show _ < _; omega
    clear hb5 HS4 D1 P0 S1 E4 HL
    unfold latV at hsh
    rcases hsh with ⟨hfit, a6, c6, K6, rfl, hbl⟩ | ⟨hnf, rfl⟩
    · have Hf := Lib.hid hfit
      have Hb := Lib.hid hbl
      clear hfit hbl
      go_wp2_with (refine wpList_store_row rfl 67 (.tmp 4) (.tmp 20) rfl w.heap.size _ rfl rfl 67 _ P5.out (by kernel_rfl) rfl (by simp [Value.oneCell']) ?_)
      refine bodyPost_ret (results_ct rfl _ _ w.heap.size 67 _ (0, 0) _ rfl (setRow_heap _ _ _ _ _ _ P5.out) Tryz.underlying67 rfl (by kernel_rfl)) rfl ⟨below_setRow D5.out (Nat.le_refl _) _, .inr ⟨Hz.out, Bs, QH.out, QR.out, QS.out, QL.out, .inl ⟨Hf.out, a6, c6, K6, rfl, (Hb.out.setR S4.out _).lower (Nat.le_of_lt S4.out)⟩⟩⟩
    · have Hf := Lib.hid hnf
      clear hnf
      go_wp2_with (refine wpList_store_row rfl 67 (.tmp 4) (.tmp 20) rfl w.heap.size _ rfl rfl 67 _ P5.out (by kernel_rfl) rfl (by simp [Value.oneCell']) ?_)
      refine bodyPost_ret (results_ct rfl _ _ w.heap.size 67 _ (0, 0) _ rfl (setRow_heap _ _ _ _ _ _ P5.out) Tryz.underlying67 rfl (by kernel_rfl)) rfl ⟨below_setRow D5.out (Nat.le_refl _) _, .inr ⟨Hz.out, Bs, QH.out, QR.out, QS.out, QL.out, .inr ⟨Hf.out, rfl⟩⟩⟩
  · have Hz := Lib.hid hz
    have hb : (latcode n rows != 0) = true := by rw [bne_iff_ne]; exact hz
    clear hz
    unfold OfE
    generalize latcode n rows = z at *
    go_enter Tryz.func59, Tryz.ntmps59
    go_wp2_with fail
    generalize w.alloc (.cells #[.int .i64 0, .slice none 0 0] 67) = w1 at *
    refine Calls.mono (HC.out w1 B0.out) ?_
    rintro e w2 ⟨rfl, hb1⟩
    have P0 : Hid (w2.heap[w.heap.size]? = some (.cells #[.int .i64 0, .slice none 0 0] 67 (0, 0))) := (hb1.block _ (by have := S0.out; omega)).trans K0.out
    have D1 := Lib.hid (B0.out.trans (hb1.mono B0.out.size))
    clear hb1 K0 B0 S0 HC
    go_wp2_with (refine wpList_store_row rfl 67 (.tmp 4) (.tmp 12) rfl w.heap.size _ rfl rfl 67 _ P0.out (by kernel_rfl) rfl (by simp [Value.oneCell']) ?_)
    refine bodyPost_ret (results_ct rfl _ _ w.heap.size 67 _ (0, 0) _ rfl (setRow_heap _ _ _ _ _ _ P0.out) Tryz.underlying67 rfl (by kernel_rfl)) rfl ⟨below_setRow D1.out (Nat.le_refl _) _, .inl ⟨Hz.out, rfl⟩⟩

end Go.Proofs.YtepicfdhphiiaaaGreatDoor

/- The pivots of a normal form, plain. -/
namespace Go.Proofs.YtepicfdhphiiaaaGreatDoor

/-- The columns of the pivots of a normal form. -/
structure Pvs (n lo : Nat) (B : List (List Int)) (p : Nat → Nat) : Prop where
  lt : ∀ i, i < B.length → p i < n
  lo : ∀ i, i < B.length → lo ≤ p i
  z : ∀ i, i < B.length → ∀ j, j < p i → ent B i j = 0
  pos : ∀ i, i < B.length → 0 < ent B i (p i)
  up : ∀ i k, i < k → k < B.length → p i < p k
  red : ∀ i k, i < k → k < B.length → 0 ≤ ent B i (p k) ∧ ent B i (p k) < ent B k (p k)
theorem pvs_of {n : Nat} : ∀ (B : List (List Int)) (lo : Nat), Ech lo (vfs B) → Redu (vfs B) → Rect n B → ∃ p, Pvs n lo B p
  | [], _, _, _, _ => ⟨fun _ => 0, fun i hi => absurd hi (Nat.not_lt_zero _), fun i hi => absurd hi (Nat.not_lt_zero _), fun i hi => absurd hi (Nat.not_lt_zero _), fun i hi => absurd hi (Nat.not_lt_zero _), fun i k _ hk => absurd hk (Nat.not_lt_zero _), fun i k _ hk => absurd hk (Nat.not_lt_zero _)⟩
  | r :: B, lo, ⟨p0, hp, h0, h1, hm⟩, ⟨h2, h3⟩, hr => by
    obtain ⟨p, q⟩ := pvs_of B (p0 + 1) hm h3 fun s hs => hr s (List.mem_cons_of_mem _ hs)
    have hl : r.length = n := hr r List.mem_cons_self
    have e0 : ∀ j, ent (r :: B) 0 j = vf r j := fun _ => rfl
    have e1 : ∀ i j, ent (r :: B) (i + 1) j = ent B i j := fun _ _ => rfl
    refine ⟨fun i => match i with | 0 => p0 | i + 1 => p i, fun i hi => ?_, fun i hi => ?_, fun i hi j hj => ?_, fun i hi => ?_, fun i k hik hk => ?_, fun i k hik hk => ?_⟩
    · match i with
      | 0 =>
        show p0 < n
        refine Nat.lt_of_not_le fun hc => ?_
        have := vf_supp hl p0 hc
        omega
      | i + 1 => exact q.lt i (by simpa using hi)
    · match i with
      | 0 => exact hp
      | i + 1 =>
        have := q.lo i (by simpa using hi)
        show lo ≤ p i
        omega
    · match i with
      | 0 => exact h0 j hj
      | i + 1 => exact q.z i (by simpa using hi) j hj
    · match i with
      | 0 => exact h1
      | i + 1 => exact q.pos i (by simpa using hi)
    · match i, k with
      | 0, k + 1 =>
        have := q.lo k (by simpa using hk)
        show p0 < p k
        omega
      | i + 1, k + 1 => exact q.up i k (by omega) (by simpa using hk)
    · match i, k with
      | 0, k + 1 =>
        have hk2 : k < B.length := by simpa using hk
        exact h2 (vf (B.getD k [])) (List.mem_map.2 ⟨_, lrow_mem hk2, rfl⟩) (p k) ⟨fun j hj => q.z k hk2 j hj, by have := q.pos k hk2; show ent B k (p k) ≠ 0; omega⟩
      | i + 1, k + 1 => exact q.red i k (by omega) (by simpa using hk)
theorem IsHnf.pvs {n : Nat} {B : List (List Int)} (h : IsHnf B) (hr : Rect n B) : ∃ p, Pvs n 0 B p := pvs_of B 0 h.e h.r hr

end Go.Proofs.YtepicfdhphiiaaaGreatDoor

/- A drawn region in a round of a range over a function (as RMovw); ranging over lattice.pivots. -/
namespace Go.Proofs.YtepicfdhphiiaaaGreatDoor.RW
open Go Go.Sort
section
variable {P : Program} {ops : Array Oper} {md : Region.Mode} {C : World → Prop}
end
end Go.Proofs.YtepicfdhphiiaaaGreatDoor.RW
namespace Go.Proofs.YtepicfdhphiiaaaGreatDoor
open Go.RowKit Go.Shelf
attribute [local go_sem] Oper.semAt_some

end Go.Proofs.YtepicfdhphiiaaaGreatDoor

/- The reduction of a row by a normal form, plain. -/
namespace Go.Proofs.YtepicfdhphiiaaaGreatDoor

end Go.Proofs.YtepicfdhphiiaaaGreatDoor

namespace Go.Proofs.YtepicfdhphiiaaaGreatDoor
open Go.RowKit
def logZ (a:Int) (i:Nat) (b:Int) (k j:Nat):Int:=if j=i then (if i=k then a+b else a) else if j=k then b else 0
def logsL (n:Nat) (a:Int) (i:Nat) (b:Int) (k:Nat):List Rat:=(List.range n).map fun j=>((logZ a i b k j:Int):Rat)
def lessV (ps:List Int) (a:Int) (i:Nat) (b:Int) (k:Nat):Bool:=if i=k then decide (a<b) else decide (LN.sz ps (logsL ps.length a i (-b) k)<0)
def nextI (ps v:List Int):Nat:=(List.range v.length).foldl (fun nx i=>if lessV ps (2*v.getD i 0+1) nx (2*v.getD nx 0+1) i then i else nx) 0
def nextV (ps v:List Int):List Int:=v.set (nextI ps v) (v.getD (nextI ps v) 0+1)
def PrB (ps:List Int):Prop:=∀ p∈ps,1<p
theorem PrB.pos{ps:List Int}(h:PrB ps):∀ p∈ps,0<p:=fun p hp=>by have:=h p hp;omega
structure VP (ps:List Int):Prop where
 p0:pcode ps=0
 q1:∀ p∈ps,p∈smallP
 nd:ps.Nodup
theorem smallP_le{p:Int}(h:p∈smallP):2≤p∧p≤13:=by
 simp only[smallP,List.mem_cons,List.not_mem_nil,or_false] at h;omega
theorem VP.le{ps:List Int}(V:VP ps):∀ p∈ps,2≤p∧p≤13:=fun p hp=>smallP_le (V.q1 p hp)
theorem VP.b{ps:List Int}(V:VP ps):PrB ps:=fun p hp=>by have:=V.le p hp;omega
theorem VP.len{ps:List Int}(V:VP ps):0<ps.length∧ps.length≤6:=by
 have h:=V.p0;unfold pcode at h;split at h
 ·cases h
 ·split at h
  ·cases h
  ·omega
theorem VP.i64{ps:List Int}(V:VP ps):I64s ps:=fun p hp=>by have:=V.le p hp;omega
structure RowBd (n:Nat) (M:Int) (v:List Int):Prop where
 len:v.length=n
 le:∀ i,i<n→0≤v.getD i 0∧v.getD i 0≤M
theorem RowBd.next{ps:List Int}{n:Nat}{M:Int}{v:List Int}(h:RowBd n M v)(hM:0≤M):RowBd n (M+1) (nextV ps v):=by
 refine⟨by unfold nextV;rw[List.length_set];exact h.len,fun i hi=>?_⟩;unfold nextV;rw[List.getD_eq_getElem?_getD,List.getElem?_set];split
 ·rename_i e
  split
  ·have:=h.le (nextI ps v) (by omega)
   show 0≤v.getD (nextI ps v) 0+1∧v.getD (nextI ps v) 0+1≤M+1
   omega
  ·exact⟨Int.le_refl _,by show (0:Int)≤M+1;omega⟩
 ·have:=h.le i hi
  rw[List.getD_eq_getElem?_getD] at this;omega
/-! Rows that the call owns. -/
theorem OwnI.at{w:World}{B c g:Nat}{l:List Int}(h:OwnI w B (some ⟨g,0,none⟩) c l){i:Nat}(hi:i<l.length):
  w.cell? ⟨g,i,none⟩=some (.int .i64 (l.getD i 0))∧w.frozen? ⟨g,i,none⟩=false∧g<w.heap.size∧B≤g:=by
 obtain⟨g',cap,hv,h1,h2,h3,h4,h5⟩:=own_open h (by omega);simp only[Value.slice.injEq,Option.some.injEq,Addr.mk.injEq,and_true] at hv;obtain⟨rfl,-,rfl⟩:=hv;refine⟨?_,h5 i,h2,h1⟩;rw[h4 i (by omega),ints_get l i hi,List.getD_eq_getElem?_getD,List.getElem?_eq_getElem hi];rfl
theorem OwnI.put{w:World}{B c g:Nat}{l:List Int}(h:OwnI w B (some ⟨g,0,none⟩) c l)(i:Nat)(x:Int):
  OwnI (w.setCell ⟨g,i,none⟩ (.int .i64 x)) B (some ⟨g,0,none⟩) c (l.set i x)∧w.grownBy (w.setCell ⟨g,i,none⟩ (.int .i64 x)) (some g):=by
 have:=World.ownsRow.stored h i (.int .i64 x)
 refine⟨?_,this.2⟩;unfold OwnI;rw[List.length_set,show ints (l.set i x)=(ints l).set i (.int .i64 x) by simp[ints,List.map_set]];exact this.1
theorem OwnI.block{w w':World}{B c g:Nat}{l:List Int}(h:OwnI w B (some ⟨g,0,none⟩) c l)(he:w'.heap[g]?=w.heap[g]?):OwnI w' B (some ⟨g,0,none⟩) c l:=by
 refine⟨h.1,?_⟩;rcases h.2 with h1|⟨g',cap,cur,hv,hb,hg,rest⟩
 ·exact .inl h1
 ·simp only[Value.slice.injEq,Option.some.injEq,Addr.mk.injEq,and_true,true_and] at hv;obtain⟨rfl,rfl⟩:=hv;exact .inr ⟨g,c,cur,rfl,hb,by rw[he];exact hg,rest⟩
theorem OwnI.lower{w:World}{B B' c:Nat}{a:Option Addr}{l:List Int}(h:OwnI w B a c l)(hb:B'≤B):OwnI w B' a c l :=
 ⟨h.1,h.2.imp id fun ⟨g,cap,cur,h1,h2,h3⟩=>⟨g,cap,cur,h1,Nat.le_trans hb h2,h3⟩⟩
end Go.Proofs.YtepicfdhphiiaaaGreatDoor

namespace Go.Proofs.YtepicfdhphiiaaaGreatDoor
open Go.RowKit Go.Shelf
attribute [local go_sem] Oper.semAt_some
end Go.Proofs.YtepicfdhphiiaaaGreatDoor

namespace Go.Proofs.YtepicfdhphiiaaaGreatDoor
open Go.RowKit Go.Shelf
structure KpB (n₀:Nat) (S:List Nat) (X Y:World):Prop where
 b:Below n₀ X Y
 same:∀ i∈S,Y.heap[i]?=X.heap[i]?
theorem KpB.refl(n₀:Nat)(S:List Nat)(X:World):KpB n₀ S X X:=⟨Below.refl _ _,fun _ _=>rfl⟩
theorem KpB.trans{n₀:Nat}{S:List Nat}{X Y Z:World}(h:KpB n₀ S X Y)(k:KpB n₀ S Y Z):KpB n₀ S X Z:=⟨h.b.trans k.b,fun i hi=>(k.same i hi).trans (h.same i hi)⟩
theorem KpB.of{n₀ B:Nat}{S:List Nat}{X Y:World}(h:Below B X Y)(h0:n₀≤B)(hS:∀ i∈S,i<B):KpB n₀ S X Y:=⟨h.mono h0,fun i hi=>h.block i (hS i hi)⟩
theorem KpB.grown{n₀ r:Nat}{S:List Nat}{X Y:World}(h:X.grownBy Y (some r))(h0:n₀≤r)(h1:n₀≤X.heap.size)(hS:∀ i∈S,i<X.heap.size∧i≠r):KpB n₀ S X Y :=
 ⟨⟨h.os,h.tape,h.output,h.size,fun i hi=>h.block i (by omega) (fun e=>by have:=Option.some.inj e;omega)⟩,fun i hi=>h.block i (hS i hi).1 (fun e=>(hS i hi).2 (Option.some.inj e))⟩
end Go.Proofs.YtepicfdhphiiaaaGreatDoor
