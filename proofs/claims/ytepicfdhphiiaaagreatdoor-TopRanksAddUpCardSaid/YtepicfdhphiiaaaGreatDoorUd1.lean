/- Lemmas for the laws of this seat, part 1. -/
import Derived.WalkKit
import Derived.WalkSpells
import Derived.WalkLawsBesides
import Derived.Deep.QuietTactic
import Derived.BigQuiet
import Derived.Lib.Hide
import Derived.Lib.QuietBelow
import Derived.Test.YtepicfdhphiiaaaGreatDoorRows
import Derived.Stop.LaidErr
import Derived.Lib.LaidTab
import Derived.ProofKit
import Derived.LaidMore
import Derived.OpenShut
import Derived.Stop.Joined
import Derived.MakeChecks
import Derived.StillTail
import Derived.OrdersIn
import Derived.RangeFuncCalls
import Derived.Lib.SmallJoins
import Derived.Laws.AppendOwnNone
import Derived.Deep.LoopGhost
import Derived.Lib.Walk
import Derived.Lib.SliceRun
import Derived.RangeFuncNested
import Derived.RangeFuncBound
import Derived.RangeFuncLeaves
import Derived.Shelf.Abstract
import Derived.Shelf.RegionOpen
import Derived.OwnWalkIn
import Derived.TacticsInMore
import Derived.LoopNIn
import Derived.LoopIn
import Derived.Sort.LoopGhostIn
import Derived.RangeFuncOwn
import Derived.Maps.OwnIn
import Derived.RangeFuncBox
import Derived.Deep.CutRange
import Derived.Laws.EntriesVeiled
import Derived.Great.BuildSlice
import Derived.Deep.Cut
import Derived.Test.YtepicfdhphiiaaaGreatDoorUa6
set_option maxRecDepth 100000
set_option maxHeartbeats 16000000
namespace Go.Proofs.YtepicfdhphiiaaaGreatDoor
open Go.RowKit
theorem ints_set(l:List Int)(j:Nat)(x:Int):(ints l).set j (.int .i64 x)=ints (l.set j x):=by simp[ints,List.map_set]
end Go.Proofs.YtepicfdhphiiaaaGreatDoor

namespace Go.Proofs.YtepicfdhphiiaaaGreatDoor
open Go.ChangeShapes Go.WideShapes Go.ChangeAt Go.RowKit
theorem laidOut:laidOutB Tryz.prog=true:=by kernel_rfl
def laidL {H : Type} : List (String × DataW H) := [("math/bits.deBruijn32tab", Rows.laid_math_bits_deBruijn32tab), ("math/bits.deBruijn64tab", Rows.laid_math_bits_deBruijn64tab), ("internal/strconv.uint64pow10", Rows.laid_internal_strconv_uint64pow10), ("strconv.ErrRange", Rows.laid_strconv_ErrRange), ("strconv.ErrSyntax", Rows.laid_strconv_ErrSyntax)]
theorem gER : Tryz.prog.globalNamed "strconv.ErrRange" = some 1 := by kernel_rfl
theorem gES : Tryz.prog.globalNamed "strconv.ErrSyntax" = some 0 := by kernel_rfl
theorem tER:(Tryz.prog.globals[1]?).map (·.type)=some 93:=by kernel_rfl
theorem tES:(Tryz.prog.globals[0]?).map (·.type)=some 93:=by kernel_rfl
theorem tPow:(Tryz.prog.globals[2]?).map (·.type)=some 235:=by kernel_rfl
theorem cellsErr:Tryz.prog.cellsOf 232=1:=by kernel_rfl
theorem cellsStr:Tryz.prog.cellsOf 9=1:=by kernel_rfl
theorem cellsU64:Tryz.prog.cellsOf 178=1:=by kernel_rfl
theorem cellsPow:Tryz.prog.cellsOf 235=20:=by kernel_rfl
theorem starE : "*" ++ "errors.errorString" = "*errors.errorString" := by decide
theorem rowE (u : TypeId) (h : Tryz.prog.typeName? 3 u = some "*errors.errorString") : u = 230 :=
 typeName_ptr_named (nm := "errors.errorString") (by rw [starE]; kernel_rfl) (by kernel_rfl) (by decide) u (by rw [starE]; exact h)
theorem door_met(os:Os)(args:Array Value):laidMetH Tryz.prog laidL ((World.doorLaid Tryz.prog 400 os).forCall (fun _ _=>0) ⟨#[],args,[]⟩).memory :=
 laidMetH_of_parts3 (fuel:=8) (laidMet_of_run' 8 (by kernel_rfl) (by kernel_rfl)) (by kernel_rfl) (by kernel_rfl)
theorem laid_of{W:World}(h:laidMetH Tryz.prog laidL W):Laid W:=by
 rw[MakeChecks.laidMetH_plain _ _ _ (by kernel_rfl)] at h;have h3:=laidMet.tail (laidMet.tail h);have h4:=laidMet.tail h3;have h5:=laidMet.tail h4;obtain⟨a0,s0,hv0,-,-,-⟩:=laid_sentinel h4 gER tER Tryz.underlying93 rowE Tryz.underlying230 Tryz.underlying232 rfl rfl Tryz.underlying9 cellsErr cellsStr;obtain⟨a1,s1,hv1,-,-,-⟩:=laid_sentinel h5 gES tES Tryz.underlying93 rowE Tryz.underlying230 Tryz.underlying232 rfl rfl Tryz.underlying9 cellsErr cellsStr;have k0:W.cell? ⟨1,0,none⟩=some (.iface 230 (.pointer (some a0))):=by
  have h0:=World.var?_cell gER hv0 0
  simpa using h0
 have k1:W.cell? ⟨0,0,none⟩=some (.iface 230 (.pointer (some a1))):=by
  have h0:=World.var?_cell gES hv1 0
  simpa using h0
 exact⟨Lib.tabIs_of_head (k := .u64) (zs:=Lib.pow10Tab) name_pow10 tPow Tryz.underlying235 Tryz.underlying178 cellsU64 cellsPow h3,⟨_,k0,.inr ⟨_,_,rfl⟩⟩,⟨_,k1,.inr ⟨_,_,rfl⟩⟩⟩
end Go.Proofs.YtepicfdhphiiaaaGreatDoor

namespace Go.Proofs.YtepicfdhphiiaaaGreatDoor.RW
open Go Go.Sort Go.Proofs.YtepicfdhphiiaaaGreatDoor
section
variable {P:Program} {ops:Array Oper} {md:Region.Mode} {C:World→Prop}
end
section
variable {P:Program} {ops:Array Oper} {md:Region.Mode} {C:World→Prop}
def ordT (md:Region.Mode) (ops:Array Oper) (s:Nat):RTree→Array Bool→Bool
 | .nil,listed=>(Region.ready md ops listed).isEmpty
 | .rd k i t,listed =>
  ((Region.ready md ops listed).contains i&&Region.free md ops listed i&&(match ops[i]? with | some o=>noEnter o.op | none=>false)&&decide (i≠s)&&(k==2||reachB md ops rD s i)) &&
  ordT md ops s t (listed.setIfInBounds i true)
 | .mv i t,listed=>decide (Region.ready md ops listed=[i])&&ordT md ops s t (listed.setIfInBounds i true)
 | .two i j t u,listed=>(decide (Region.ready md ops listed=[i,j])&&decide (t.len=u.len))&&(ordT md ops s t (listed.setIfInBounds i true)&&ordT md ops s u (listed.setIfInBounds j true))
def walkT (P:Program) (ops:Array Oper) (C:World→Prop) (s:Nat) (Q:Act→World→Prop):RTree→Bool→Act→World→Prop
 | .nil,_,a,w=>Q a w
 | .rd k i t,b,a,w=>if k=2 then wpQuiet P ops (fun _=>True) (fun a'=>walkT P ops C s Q t b a' w) (ops[i]?).toList a else wpQuiet P ops C (fun a'=>walkT P ops C s Q t b a' w) (ops[i]?).toList a
 | .mv i t,b,a,w=>wpList P ops (fun e a' w'=>e = .normal∧((b||i==s)=true∨C w')∧walkT P ops C s Q t (b||i==s) a' w') (ops[i]?).toList a w
 | .two i j t u,b,a,w =>
  wpList P ops (fun e a' w'=>e = .normal∧((b||i==s)=true∨C w')∧walkT P ops C s Q t (b||i==s) a' w') (ops[i]?).toList a w ∧
  wpList P ops (fun e a' w'=>e = .normal∧((b||j==s)=true∨C w')∧walkT P ops C s Q u (b||j==s) a' w') (ops[j]?).toList a w
theorem set_getD{s i:Nat}{listed:Array Bool}(inv:RInv md ops listed)(hr:i∈Region.ready md ops listed):(listed.setIfInBounds i true).getD s false=(listed.getD s false||i==s):=by
 by_cases his:i=s
 ·subst his;obtain⟨hun,o,ho,_⟩:=mem_ready.1 hr;have hlt:i<listed.size:=by rw[inv.size];exact(Array.getElem?_eq_some_iff.1 ho).1
  simp[hlt]
 ·rw[getD_set_ne false his];simp[his]
theorem step_mv{s j:Nat}{K:Act→World→Prop}{listed:Array Bool}{a:Act}{w:World}(inv:RInv md ops listed)(hr:j∈Region.ready md ops listed)
  (h:wpList P ops (fun e a' w'=>e = .normal∧((listed.getD s false||j==s)=true∨C w')∧K a' w') (ops[j]?).toList a w) :
  wpOp P ops (fun _ _ _=>False) j (fun a' w'=>safeW C s (listed.setIfInBounds j true) w'∧K a' w') a w:=by
 obtain⟨hun,o,ho,_⟩:=mem_ready.1 hr;simp only[ho,Option.toList] at h;have h2:wpOp P ops (fun e a' w'=>e = .normal∧((listed.getD s false||j==s)=true∨C w')∧K a' w') j (fun a' w'=>((listed.getD s false||j==s)=true∨C w')∧K a' w') a w:=by
  unfold wpOp;simp only[ho];simp only[wpList,true_and] at h;exact h
 have h3:=wpOp_strong (fun e a' w' hq=>hq.1) h2;refine wpOp_mono (fun a' w' h4=>⟨?_,h4.2⟩) h3;unfold safeW;rw[set_getD inv hr];exact h4.1
theorem anyR_tree{s:Nat}{Q:Act→World→Prop}(hsel:Region.noSelect ops=true):
  ∀ (l:RTree) (listed:Array Bool) (a:Act) (w:World),RInv md ops listed→safeW C s listed w→ordT md ops s l listed=true →
   walkT P ops C s Q l (listed.getD s false) a w→anyR P md ops C s Q l.len listed a w
 | .nil,listed,a,w,_,_,hB,h=>⟨by simpa [ordT] using hB,h⟩
 | .mv i t,listed,a,w,inv,hs,hB,h=>by
  simp only[ordT,Bool.and_eq_true,decide_eq_true_eq] at hB;obtain⟨hB1,hB2⟩:=hB;have hr:i∈Region.ready md ops listed:=by rw[hB1];exact List.mem_singleton.2 rfl
  refine⟨by rw[hB1];simp,fun j hj=>?_⟩;rw[hB1] at hj;obtain rfl:=List.mem_singleton.1 hj;refine wpOp_mono (fun a' w' h4=>⟨h4.1,anyR_tree hsel t _ a' w' (inv.set hr) h4.1 hB2 ?_⟩) (step_mv inv hr h);rw[set_getD inv hr];exact h4.2
 | .two i k t u,listed,a,w,inv,hs,hB,h=>by
  simp only[ordT,Bool.and_eq_true,decide_eq_true_eq] at hB;obtain⟨⟨hB1,hlen⟩,hB2,hB3⟩:=hB;have hr:i∈Region.ready md ops listed:=by rw[hB1];simp
  have hr2:k∈Region.ready md ops listed:=by rw[hB1];simp
  refine⟨by rw[hB1];simp,fun j hj=>?_⟩;rw[hB1] at hj;simp only[List.mem_cons,List.not_mem_nil,or_false] at hj
  by_cases hji:j=i
  ·subst hji;refine wpOp_mono (fun a' w' h4=>⟨h4.1,anyR_tree hsel t _ a' w' (inv.set hr) h4.1 hB2 ?_⟩) (step_mv inv hr h.1);rw[set_getD inv hr];exact h4.2
  ·have hjk:j=k:=hj.resolve_left hji;subst hjk;have:=wpOp_mono (fun a' w' (h4:safeW C s (listed.setIfInBounds j true) w'∧walkT P ops C s Q u (listed.getD s false||j==s) a' w')=>(⟨h4.1,anyR_tree hsel u _ a' w' (inv.set hr2) h4.1 hB3 (by rw[set_getD inv hr2];exact h4.2)⟩:safeW C s (listed.setIfInBounds j true) w'∧anyR P md ops C s Q u.len (listed.setIfInBounds j true) a' w')) (step_mv inv hr2 h.2)
   rw[← hlen] at this;exact this
 | .rd k i t,listed,a,w,inv,hs,hB,h=>by
  simp only[ordT,Bool.and_eq_true] at hB;obtain⟨hB1,hB2⟩:=hB;simp only[decide_eq_true_eq,Bool.or_eq_true,beq_iff_eq] at hB1;obtain⟨⟨⟨⟨hr,hf⟩,hne⟩,his⟩,hw⟩:=hB1;have hr':i∈Region.ready md ops listed:=by simpa using hr
  obtain⟨_,o,ho,_⟩:=mem_ready.1 hr';have hne':noEnter o.op=true:=by rw[ho] at hne;exact hne
  have hgs:(listed.setIfInBounds i true).getD s false=listed.getD s false:=getD_set_ne false his;have hs2:safeW C s (listed.setIfInBounds i true) w:=by unfold safeW;rw[hgs];exact hs
  simp only[walkT] at h;have hread:∃ v,ReadsIn P ops md C s i o v a∧walkT P ops C s Q t (listed.getD s false) (a.put o.dst v) w:=by
   by_cases h2:k=2
   ·rw[if_pos h2] at h;obtain⟨v,hy,hK⟩:=yieldsIn_of_qOp ho (qOp_of_list ho h);exact⟨v,.inr hy,hK⟩
   ·rw[if_neg h2] at h;obtain⟨v,hy,hK⟩:=yieldsIn_of_qOp ho (qOp_of_list ho h);exact⟨v,.inl ⟨hw.resolve_left h2,hy⟩,hK⟩
  obtain⟨v,hy,hK⟩:=hread;exact anyR_first ho his hne' (Region.noSelect_spec hsel) t.len listed a w inv (Region.free_spec ho hf) hr' hy hs
   (anyR_tree hsel t _ _ w (inv.set hr') hs2 hB2 (by rw[hgs];exact hK))
theorem walkT_read{s i:Nat}{Q:Act→World→Prop}{l:RTree}{b:Bool}{a:Act}{w:World}{lo:List Oper}(h:wpQuiet P lo.toArray C (fun a'=>walkT P lo.toArray C s Q l b a' w) ((lo.drop i).take 1) a):walkT P lo.toArray C s Q (.rd 1 i l) b a w:=by
 simp only[walkT,pick_one];exact h
theorem walkT_any{s i:Nat}{Q:Act→World→Prop}{l:RTree}{b:Bool}{a:Act}{w:World}{lo:List Oper}(h:wpQuiet P lo.toArray (fun _=>True) (fun a'=>walkT P lo.toArray C s Q l b a' w) ((lo.drop i).take 1) a):walkT P lo.toArray C s Q (.rd 2 i l) b a w:=by
 simp only[walkT,pick_one];exact h
theorem walkT_move{s i:Nat}{Q:Act→World→Prop}{l:RTree}{b:Bool}{a:Act}{w:World}{lo:List Oper}
  (h:wpList P lo.toArray (fun e a' w'=>e = .normal∧((b||i==s)=true∨C w')∧walkT P lo.toArray C s Q l (b||i==s) a' w') ((lo.drop i).take 1) a w):walkT P lo.toArray C s Q (.mv i l) b a w:=by
 simp only[walkT,pick_one];exact h
theorem walkT_two{s i j:Nat}{Q:Act→World→Prop}{l m:RTree}{b:Bool}{a:Act}{w:World}{lo:List Oper}
  (h1:wpList P lo.toArray (fun e a' w'=>e = .normal∧((b||i==s)=true∨C w')∧walkT P lo.toArray C s Q l (b||i==s) a' w') ((lo.drop i).take 1) a w)
  (h2:wpList P lo.toArray (fun e a' w'=>e = .normal∧((b||j==s)=true∨C w')∧walkT P lo.toArray C s Q m (b||j==s) a' w') ((lo.drop j).take 1) a w):walkT P lo.toArray C s Q (.two i j l m) b a w:=by
 simp only[walkT,pick_one];exact⟨h1,h2⟩
theorem wp_region_tree{id:Nat}{Q:Exit→Act→World→Prop}{a:Act}{w:World}{l:List Oper}(s:Nat)(ord:RTree)(C:World→Prop)(hm:P.follows .mixedOrders=true)
  (hB:(Region.noSelect l.toArray&&decide (ord.len=l.length)&&ordT .any l.toArray s ord (Array.replicate l.length false))=true)
  (hC:C { w with drawn:=w.drawn+1 }) (h:walkT P l.toArray C s (fun a' w'=>Q .normal a' w') ord false a { w with drawn:=w.drawn+1 }):(Code.region id l.toArray true).wp P Q a w:=by
 simp only[Bool.and_eq_true,decide_eq_true_eq] at hB;obtain⟨⟨hsel,hlen⟩,hord⟩:=hB;refine wp_region_any hm ?_;have inv0:RInv .any l.toArray (Array.replicate l.length false):=⟨by simp,fun j oj _ hl=>(by rw[getD_replicate_false] at hl;cases hl)⟩;have H:=anyR_tree (md := .any) hsel ord _ a _ inv0 (.inr hC) hord (by rw[getD_replicate_false];exact h);have:=anyR_any (Q':=Q) (fun a w h=>h) _ _ _ _ H
 rw[hlen] at this
 simpa using this
end
end Go.Proofs.YtepicfdhphiiaaaGreatDoor.RW
namespace Go.Proofs.YtepicfdhphiiaaaGreatDoor
open Go.RowKit
end Go.Proofs.YtepicfdhphiiaaaGreatDoor

namespace Go.Proofs.YtepicfdhphiiaaaGreatDoor
open Go Go.Sort
section
variable {P:Program} {ops:Array Oper} {md:Region.Mode} {cs:List (Nat×(World→Prop))}
theorem wpOpIn_of_wpOp{i l0 n:Nat}{a:Act}{w:World}{K K':Act→World→Prop}{Q':Exit→Act→World→Prop}(hnd:∀ o c,ops[i]?=some o→o.op ≠ .defer c)(_hnr:∀ o c,ops[i]?=some o→o.op ≠ .go c)(hk:∀ a w,K a w→K' a w)
  (h:wpOp P ops (fun _ _ _=>False) i K a w):wpOpIn (Fence.wide.inRound l0) n P ops Q' i K' a w:=by
 unfold wpOp at h;unfold wpOpIn;split
 ·rename_i ho;simp only[ho] at h;exact hk _ _ h
 ·rename_i o ho
  simp only[ho] at h;split
  ·rename_i hw
   simp only[hw,if_true] at h;rcases h with h|⟨_,_,_,hf⟩
   ·refine⟨fun _ _=>trivial,?_⟩;unfold Oper.wp at h;rw[show (Fence.wide.inRound l0).round=some l0 from rfl,Oper.semAt_some l0 _ _ (fun c=>hnd o c ho)];generalize (execOp a.eval o).run P w=r at *;cases r with
    | ok x w' =>
     cases x<;>simp only[Oper.upon,Oper.uponIn] at h ⊢
     case value=>exact hk _ _ h
     case skip=>exact hk _ _ h
     case defer=>exact hk _ _ h
     case enter f args =>
      refine⟨fun hd=>(by cases hd),?_⟩;have h2:=Calls.mono h (R':=fun e w''=>match e,w'' with
       | .returned v,w''=>K' (a.put o.dst v) w''
       | .panicked chain,w''=>Q' (.panic chain) a w''
       | .outgrown,_=>LetsOut Q') (fun e w'' he=>by cases e<;>first | exact hk _ _ he | exact he.elim | (obtain⟨_,_,hf⟩:=he;exact hf.elim))
      exact CallsIn.inRound l0 (callsIn_wide.2 h2)
     case row row args=>exact⟨fun hd=>(by cases hd),fun c cs _=>let ⟨v,w',r,s⟩:=h c cs;⟨v,w',hk _ _ r,stepsIn_wide.2 s⟩⟩
    | halt x w'=>cases x<;>simp only[Oper.upon] at h<;>exact h.elim
   ·exact hf.elim
  ·rename_i hw;simp only[hw] at h;exact⟨fun _ _=>trivial,hk _ _ h⟩
def plainOps (ops:Array Oper):Bool:=ops.all fun o=>match o.op with | .defer _ | .go _=>false | _=>true
theorem plainOps_spec{ops:Array Oper}(h:plainOps ops=true){i:Nat}{o:Oper}(hi:ops[i]?=some o):(∀ c,o.op ≠ .defer c)∧(∀ c,o.op ≠ .go c):=by
 have hm:o∈ops:=Array.mem_of_getElem? hi;have:=Array.all_eq_true'.1 h o hm
 refine⟨fun c hc=>?_,fun c hc=>?_⟩<;>rw[hc] at this<;>cases this
end
end Go.Proofs.YtepicfdhphiiaaaGreatDoor

namespace Go.Proofs.YtepicfdhphiiaaaGreatDoor
open Go.ChangeShapes Go.WideShapes Go.ChangeAt Go.RowKit Go.Joins
theorem cellsI8:Tryz.prog.cellsOf 63=1:=by kernel_rfl
theorem cellsU8:Tryz.prog.cellsOf 5=1:=by kernel_rfl
section
variable {H:Type} {enc:TypeId×Value→H} {W:World}
end
end Go.Proofs.YtepicfdhphiiaaaGreatDoor

namespace Go.Proofs.YtepicfdhphiiaaaGreatDoor
open Go.ChangeShapes Go.WideShapes Go.ChangeAt Go.RowKit Go.Joins
theorem cells_get{w:World}{base n:Nat}{a:Addr}{cs:List Value}(h:w.cells? base a n=some cs):cs.length=n∧∀ i,i<n→w.cell? (a.add i)=cs[i]?:=by
 unfold World.cells? at h;split at h
 ·have hl:cs.length=n:=by
   have:=Lib.mapM_length h
   simpa using this
  refine⟨hl,fun i hi=>?_⟩;obtain⟨b,hb,he⟩:=Lib.mapM_at h i i (by simp[hi]);rw[hb,he]
 ·cases h
theorem choose_list{α β:Type}{f : β → α}{B : β→Prop}:∀ l:List α,(∀ x∈l,∃ p,x=f p∧B p)→∃ ps:List β,l=ps.map f∧∀ p∈ps,B p
 | [],_=>⟨[],rfl,fun _ h=>by cases h⟩
 | x::l,h=>by
  obtain⟨p,hp,hb⟩:=h x List.mem_cons_self;obtain⟨ps,hps,hbs⟩:=choose_list l fun y hy=>h y (List.mem_cons_of_mem _ hy)
  refine⟨p::ps,by rw[hp,hps];rfl,fun q hq=>?_⟩;rcases List.mem_cons.1 hq with rfl|hq
  ·exact hb
  ·exact hbs q hq
def RdK (w:World) (k:Nat) (a:Option Addr) (css:List (List Value)):Prop :=
 css=[]∨∃ b off,a=some ⟨b,off,none⟩∧b<w.heap.size∧∀ i (h:i<css.length) j,j<k→w.cell? ⟨b,off+i*k+j,none⟩=css[i][j]?
section
variable {H:Type} {enc:TypeId×Value→H} {W:World}
theorem open_slice_of{t e:TypeId}{k:Nat}(ht:Tryz.prog.underlying t=some (.slice e))(hk:Tryz.prog.cellsOf e=k)(k0:0<k){Q:List Value→Prop}
  (hQ:∀ (n:Nat) (cs:List Value) (x:DataW H×List MemPlace),DataW.trod enc Tryz.prog W 0 (fun _=>true) true n e cs=some x→Q cs)
  {v:Value} {d:DataW H} {p:List MemPlace} (h:DataW.Trod enc Tryz.prog W 0 (fun _=>true) true t v d p) (hv:∃ a len cap,v = .slice a len cap) :
  ∃ (a:Option Addr) (c:Nat) (css:List (List Value)),v = .slice a css.length c∧RdK W k a css∧(∀ cs∈css,Q cs)∧css.length≤maxLen:=by
 obtain⟨a,len,cap,rfl⟩:=hv;obtain⟨fuel,hf⟩:=h;rcases DataW.trod_slice ht hf with⟨hcs,_⟩|⟨a,len,cap,elems,rest,n,_,hcs,_,hb,hl,hm,hlen,hel,_,_⟩
 ·simp[Value.cells] at hcs;obtain⟨rfl,rfl,rfl⟩:=hcs;exact⟨none,0,[],rfl,.inl rfl,(fun x hx=>by cases hx),Nat.zero_le _⟩
 ·simp[Value.cells] at hcs;obtain⟨rfl,rfl,rfl⟩:=hcs;rw[hk] at hel;have each:∀ i,i<len→∃ cs,W.cells? 0 (a.add (i*k)) k=some cs∧Q cs:=fun i hi=>by
   have h1:=hel i hi;have h2:i<elems.length:=by omega
   rw[List.getElem?_eq_getElem h2,Option.bind_eq_some_iff] at h1;obtain⟨cs,hcs,hx⟩:=h1;exact⟨cs,hcs,hQ _ _ _ hx⟩
  have hlist:∀ m,m≤len→∃ css:List (List Value),css.length=m∧(∀ cs∈css,Q cs)∧∀ i (h:i<css.length),W.cells? 0 (a.add (i*k)) k=some css[i]:=by
   intro m
   induction m with
   | zero=>intro _;exact⟨[],rfl,(fun _ h=>by cases h),fun i h=>absurd h (Nat.not_lt_zero _)⟩
   | succ m ih =>
    intro hm';obtain⟨css,h1,h2,h3⟩:=ih (by omega);obtain⟨cs,h4,h5⟩:=each m (by omega);refine⟨css++[cs],by simp[h1],?_,?_⟩
    ·intro x hx;rcases List.mem_append.1 hx with hx|hx
     ·exact h2 x hx
     ·rw[List.mem_singleton.1 hx];exact h5
    ·intro i hi;rw[List.length_append,List.length_singleton] at hi
     by_cases him:i<css.length
     ·rw[List.getElem_append_left him];exact h3 i him
     ·have e:i=m:=by omega
      subst e;rw[List.getElem_append_right (by omega)];simp only[h1,Nat.sub_self,List.getElem_cons_zero];exact h4
  obtain⟨css,h1,h2,h3⟩:=hlist len nr_;refine⟨some a,cap,css,by rw[h1],?_,h2,by omega⟩
  by_cases h0:len=0
  ·exact .inl (List.eq_nil_of_length_eq_zero (by omega))
  ·obtain⟨b,off,spot⟩:=a;have hc0:=(cells_get (h3 0 (by omega))).2 0 k0;have hl0:=(cells_get (h3 0 (by omega))).1;have hspot:spot=none:=by
    rw[List.getElem?_eq_getElem (by omega)] at hc0
    simpa [Addr.add] using World.cell?_spot hc0
   subst hspot;refine .inr ⟨b,off,rfl,?_,fun i hi j hj=>?_⟩
   ·rw[List.getElem?_eq_getElem (by omega)] at hc0;have:=block_lt_of_cell hc0
    rw[Go.WideShapes.add_plain,Go.WideShapes.add_plain] at this;exact this
   ·have:=(cells_get (h3 i hi)).2 j hj
    rw[Go.WideShapes.add_plain,Go.WideShapes.add_plain] at this;exact this
end
end Go.Proofs.YtepicfdhphiiaaaGreatDoor

namespace Go.Proofs.YtepicfdhphiiaaaGreatDoor
open Go.RowKit
def difQ (la lb:List Rat):List Rat:=combineQ la lb ((1:Int):Rat) ((-1:Int):Rat)
theorem Xs.bd{x:List Int}(h:Xs x):Bd 1000 x:=fun a ha=>by have:=h a ha;omega
theorem own_cut0{w:World}{B n c size:Nat}{e:TypeId}{a:Option Addr}{xs:List Value}(h:w.ownsRow B e size (.slice a n c) n xs)(h0:0<n):w.ownsRow B e size (.slice a 0 c) 0 []:=by
 rcases h.2 with⟨_,hz⟩|⟨g,cap,cur,hv,hb,hg,hc,hm,hs,_⟩
 ·omega
 ·simp only[Value.slice.injEq] at hv;obtain⟨rfl,-,rfl⟩:=hv;exact⟨by simp,.inr ⟨g,c,cur,rfl,hb,hg,Nat.zero_le _,hm,hs,by simp⟩⟩
structure Fin' (c:Nat→Nat→Int) (n:Nat) (F:Nat→Nat):Prop where
 lt:∀ k,k<n→F k<n
 inj:∀ k m,k<n→m<n→F k=F m→k=m
 adj:∀ k,k+1<n→Ok c (F k) (F (k+1))
def cS (ps:List Int) (LL:List (List Rat)) (u v:Nat):Int:=if u<LL.length∧v<LL.length then LN.sz ps (difQ (LL.getD u []) (LL.getD v [])) else 0
structure TwoR (w:World) (n:Nat) (g:Nat) (la lb:List Rat):Prop where
 lt:g<w.heap.size
 k0:∃ a c,w.cell? ⟨g,0,none⟩=some (.slice a n c)∧Rd w a (cellsQ la)
 k1:∃ a c,w.cell? ⟨g,1,none⟩=some (.slice a n c)∧Rd w a (cellsQ lb)
def ResJ (w:World) (n:Nat) (l:List Int) (q:Int) (e:Ending):Prop:=(mx l=0∧∃ a c,e = .returned (.tuple #[.slice a n c,.int .i64 q,.int .i64 0])∧Rd w a (ints l))∨(mx l≠0∧e = .returned (.tuple #[.slice none 0 0,.int .i64 0,.int .i64 4]))
theorem ResJ.form{w:World}{n:Nat}{l:List Int}{q:Int}{e:Ending}(h:ResJ w n l q e):∃ v1 v2 v3,e = .returned (.tuple #[v1,v2,v3]):=by
 rcases h with⟨_,a,c,h,_⟩|⟨_,h⟩
 ·exact⟨_,_,_,h⟩
 ·exact⟨_,_,_,h⟩
theorem TwoR.below{W W':World}{n g:Nat}{la lb:List Rat}(h:TwoR W n g la lb)(hb:Below W.heap.size W W'):TwoR W' n g la lb:=by
 obtain⟨h1,⟨a,c,k0,r0⟩,⟨a',c',k1,r1⟩⟩:=h;exact⟨Nat.lt_of_lt_of_le h1 hb.size,⟨a,c,(hb.cell (p:=⟨g,0,none⟩) h1).trans k0,r0.below hb nr_⟩,⟨a',c',(hb.cell (p:=⟨g,1,none⟩) h1).trans k1,r1.below hb nr_⟩⟩
end Go.Proofs.YtepicfdhphiiaaaGreatDoor

namespace Go.Proofs.YtepicfdhphiiaaaGreatDoor
open Go.RowKit Go.Shelf
attribute [local go_sem] Oper.semAt_some
theorem OwnI.block15{w w':World}{B c g:Nat}{l:List Int}(h:OwnI w B (some ⟨g,0,none⟩) c l)(he:w'.heap[g]?=w.heap[g]?):OwnI w' B (some ⟨g,0,none⟩) c l:=by
 refine⟨h.1,?_⟩;rcases h.2 with h1|⟨g',cap,cur,hv,hb,hg,rest⟩
 ·exact .inl h1
 ·simp only[Value.slice.injEq,Option.some.injEq,Addr.mk.injEq,and_true,true_and] at hv;obtain⟨rfl,rfl⟩:=hv;exact .inr ⟨g,c,cur,rfl,hb,by rw[he];exact hg,rest⟩
theorem OwnI.lower15{w:World}{B B' c:Nat}{a:Option Addr}{l:List Int}(h:OwnI w B a c l)(hb:B'≤B):OwnI w B' a c l :=
 ⟨h.1,h.2.imp id fun ⟨g,cap,cur,h1,h2,h3⟩=>⟨g,cap,cur,h1,Nat.le_trans hb h2,h3⟩⟩
end Go.Proofs.YtepicfdhphiiaaaGreatDoor

namespace Go.Proofs.YtepicfdhphiiaaaGreatDoor
open Go.RowKit Go.Shelf
structure KpC (n₀:Nat) (S:List Nat) (X Y:World):Prop where
 b:Below n₀ X Y
 same:∀ i∈S,Y.heap[i]?=X.heap[i]?
theorem KpC.refl(n₀:Nat)(S:List Nat)(X:World):KpC n₀ S X X:=⟨Below.refl _ _,fun _ _=>rfl⟩
theorem KpC.trans{n₀:Nat}{S:List Nat}{X Y Z:World}(h:KpC n₀ S X Y)(k:KpC n₀ S Y Z):KpC n₀ S X Z:=⟨h.b.trans k.b,fun i hi=>(k.same i hi).trans (h.same i hi)⟩
theorem KpC.of{n₀ B:Nat}{S:List Nat}{X Y:World}(h:Below B X Y)(h0:n₀≤B)(hS:∀ i∈S,i<B):KpC n₀ S X Y:=⟨h.mono h0,fun i hi=>h.block i (hS i hi)⟩
theorem KpC.grown{n₀ r:Nat}{S:List Nat}{X Y:World}(h:X.grownBy Y (some r))(h0:n₀≤r)(h1:n₀≤X.heap.size)(hS:∀ i∈S,i<X.heap.size∧i≠r):KpC n₀ S X Y :=
 ⟨⟨h.os,h.tape,h.output,h.size,fun i hi=>h.block i (by omega) (fun e=>by have:=Option.some.inj e;omega)⟩,fun i hi=>h.block i (hS i hi).1 (fun e=>(hS i hi).2 (Option.some.inj e))⟩
attribute [local go_sem] Oper.semAt_some
structure OwnW (w:World) (B:Nat) (b:Option Addr) (d n:Nat) (L:List (Nat×Nat)) (ls:Nat→List Int):Prop where
 row:w.ownsRow B 54 1 (.slice b L.length d) L.length (L.map fun x => .slice (some ⟨x.1,0,none⟩) n x.2)
 each:∀ i (h1:i<L.length),OwnI w B (some ⟨L[i].1,0,none⟩) L[i].2 (ls i)
 lens:∀ i,(ls i).length=n
theorem OwnW.nil(w:World)(B n:Nat)(ls:Nat→List Int)(h:∀ i,(ls i).length=n):OwnW w B none 0 n [] ls:=⟨⟨rfl,.inl ⟨rfl,rfl⟩⟩,fun i h1=>by simp at h1,h⟩
theorem ownI_lt15{w:World}{B c g:Nat}{l:List Int}(h:OwnI w B (some ⟨g,0,none⟩) c l):B≤g∧g<w.heap.size:=World.ownsRow.lt h g rfl
theorem OwnW.kept{w w':World}{B r:Nat}{b:Option Addr}{d n:Nat}{L:List (Nat×Nat)}{ls:Nat→List Int}(h:OwnW w B b d n L ls)(hg:w.grownBy w' (some r))(hr:r<B):OwnW w' B b d n L ls:=by
 refine⟨h.row.kept hg (.inr fun e=>?_),fun i h1=>(h.each i h1).block15 (hg.block _ (ownI_lt15 (h.each i h1)).2 fun e=>?_),h.lens⟩
 ·have:=(h.row.lt r e).1
  omega
 ·have:=(ownI_lt15 (h.each i h1)).1
  have:=Option.some.inj e
  omega
theorem OwnW.below{w w':World}{B B':Nat}{b:Option Addr}{d n:Nat}{L:List (Nat×Nat)}{ls:Nat→List Int}(h:OwnW w B b d n L ls)(hb:Below B' w w')(hB:w.heap.size≤B'):OwnW w' B b d n L ls :=
 ⟨own_below h.row hb hB,fun i h1=>(h.each i h1).block15 (hb.block _ (by have:=(ownI_lt15 (h.each i h1)).2;omega)),h.lens⟩
theorem OwnW.lower{w:World}{B B':Nat}{b:Option Addr}{d n:Nat}{L:List (Nat×Nat)}{ls:Nat→List Int}(h:OwnW w B b d n L ls)(hb:B'≤B):OwnW w B' b d n L ls :=
 ⟨⟨h.row.1,h.row.2.imp id fun ⟨g,cap,cur,h1,h2,h3⟩=>⟨g,cap,cur,h1,Nat.le_trans hb h2,h3⟩⟩,fun i h1=>(h.each i h1).lower15 hb,h.lens⟩
theorem ownW_apart{w:World}{B1 B2 s1 s2 n1 n2:Nat}{e1 e2:TypeId}{v1 v2:Value}{x1 x2:List Value}(h1:w.ownsRow B1 e1 s1 v1 n1 x1)(h2:w.ownsRow B2 e2 s2 v2 n2 x2)(hne:e1≠e2):
  ∀ k,v1.ownBlock=some k→v2.ownBlock≠some k:=by
 intro k hk hk2;rcases h1.2 with⟨rfl,_⟩|⟨g,cap,cur,rfl,_,hg,_⟩
 ·simp[Value.ownBlock] at hk
 ·rcases h2.2 with⟨rfl,_⟩ | ⟨g2,cap2,cur2,rfl,_,hg2,_⟩
  ·simp[Value.ownBlock] at hk2
  ·simp only[Value.ownBlock,Option.some.injEq] at hk hk2;subst hk;subst hk2;rw[hg] at hg2;simp only[Option.some.injEq,Obj.cells.injEq] at hg2;exact hne hg2.2.1
theorem OwnW.put{w1 w3:World}{B d n c g:Nat}{b:Option Addr}{L:List (Nat×Nat)}{ls:Nat→List Int}{v':Value}(h:OwnW w1 B b d n L ls)(ho:OwnI w1 B (some ⟨g,0,none⟩) c (ls L.length))
  (hown:w3.ownsRow B 54 1 v' (L.length+1) ((L.map fun x=>Value.slice (some ⟨x.1,0,none⟩) n x.2)++[.slice (some ⟨g,0,none⟩) n c])) (hg:(w1.alloc (.cells #[.slice (some ⟨g,0,none⟩) n c] 54)).grownBy w3 (Value.slice b L.length d).ownBlock) :
  ∃ b' d',v' = .slice b' (L.length+1) d'∧OwnW w3 B b' d' n (L++[(g,c)]) ls:=by
 obtain⟨b',d',rfl⟩:=own_form hown;have hA:Below w1.heap.size w1 (w1.alloc (.cells #[.slice (some ⟨g,0,none⟩) n c] 54)):=(Below.refl _ _).alloc nr_ _;have hrow:=own_below h.row hA nr_;have keep:∀ (a2:Option Addr) (c2:Nat) (l2:List Int),OwnI w1 B a2 c2 l2→OwnI w3 B a2 c2 l2:=fun a2 c2 l2 h2=>by
  have h3:OwnI _ B a2 c2 l2:=h2.below hA nr_;unfold OwnI at h3 ⊢;refine World.ownsRow.kept h3 hg ?_;have hap:=ownW_apart hrow h3 (by decide);cases hv:(Value.slice b L.length d).ownBlock with
  | none=>cases hv2:(Value.slice a2 l2.length c2).ownBlock<;>simp
  | some k=>exact .inr (hap k hv)
 refine⟨b',d',rfl,?_,?_,h.lens⟩
 ·rw[List.length_append,List.map_append];exact hown
 ·intro i h1
  by_cases hi:i<L.length
  ·simp only[List.getElem_append_left hi];exact keep _ _ _ (h.each i hi)
  ·have e:i=L.length:=by simp at h1;omega
   subst e;simp only[List.getElem_append_right nr_,Nat.sub_self,List.getElem_cons_zero];exact keep _ _ _ ho
end Go.Proofs.YtepicfdhphiiaaaGreatDoor

namespace Go.Proofs.YtepicfdhphiiaaaGreatDoor
def SoB (G:Nat→Nat) (a b:Nat):Prop:=∀ i j,a≤i→i<j→j<b→G i<G j
structure PmB (F F':Nat→Nat) (a b:Nat):Prop where
 out:∀ k,k<a∨b≤k→F' k=F k
 src:∀ k,a≤k→k<b→∃ m,a≤m∧m<b∧F' k=F m
theorem PmB.refl(F:Nat→Nat)(a b:Nat):PmB F F a b:=⟨fun _ _=>rfl,fun k h1 h2=>⟨k,h1,h2,rfl⟩⟩
theorem PmB.trans{F F' F'':Nat→Nat}{a b:Nat}(h:PmB F F' a b)(k:PmB F' F'' a b):PmB F F'' a b :=
 ⟨fun i hi=>(k.out i hi).trans (h.out i hi),fun i h1 h2=>by
  obtain⟨m,m1,m2,e⟩:=k.src i h1 h2;obtain⟨l,l1,l2,e2⟩:=h.src m m1 m2;exact⟨l,l1,l2,e.trans e2⟩⟩
theorem PmB.wide{F F':Nat→Nat}{a b c d:Nat}(h:PmB F F' c d)(h1:a≤c)(h2:d≤b):PmB F F' a b :=
 ⟨fun i hi=>h.out i (by omega),fun i h3 h4=>by
  by_cases hc:c≤i∧i<d
  ·obtain⟨m,m1,m2,e⟩:=h.src i hc.1 hc.2;exact⟨m,by omega,by omega,e⟩
  ·exact⟨i,h3,h4,h.out i (by omega)⟩⟩
def rotF (F:Nat→Nat) (lo i j k:Nat):Nat:=if k<lo then F k else if k<lo+j then F (k+i) else if k<lo+i+j then F (k-j) else F k
def sw2 (F:Nat→Nat) (x y k:Nat):Nat:=if k=x then F y else if k=y then F x else F k
theorem rotF_comp(r F:Nat→Nat)(l i j k:Nat):r (rotF F l i j k)=rotF (fun x=>r (F x)) l i j k:=by
 unfold rotF
 repeat' split
 all_goals rfl
theorem rotF_pm(F:Nat→Nat){l i j a b:Nat}(h1:a≤l)(h2:l+i+j≤b):PmB F (rotF F l i j) a b:=by
 refine⟨fun k hk=>?_,fun k h3 h4=>?_⟩
 ·unfold rotF
  repeat' split
  all_goals first | rfl | omega
 ·unfold rotF
  repeat' split
  ·exact⟨k,h3,h4,rfl⟩
  ·exact⟨k+i,by omega,by omega,rfl⟩
  ·exact⟨k-j,by omega,by omega,rfl⟩
  ·exact⟨k,h3,h4,rfl⟩
theorem sw2_pm(F:Nat→Nat){x y a b:Nat}(h1:a≤x)(h2:x<b)(h3:a≤y)(h4:y<b):PmB F (sw2 F x y) a b:=by
 refine⟨fun k hk=>?_,fun k h5 h6=>?_⟩
 ·unfold sw2;rw[if_neg (by omega),if_neg (by omega)]
 ·unfold sw2
  repeat' split
  ·exact⟨y,h3,h4,rfl⟩
  ·exact⟨x,h1,h2,rfl⟩
  ·exact⟨k,h5,h6,rfl⟩
theorem rot_parts{G:Nat→Nat}{a m b s e mid:Nat}(h1:SoB G a m)(h2:SoB G m b)(q1:a≤s)(q2:s≤m)(q3:m≤e)(q4:e≤b)(hmid:mid+m=s+e)
  (x1:∀ i j,a≤i→i<s→e≤j→j<b→G i<G j) (x2:∀ i j,m≤i→i<e→s≤j→j<m→G i<G j) :
  SoB (rotF G s (m-s) (e-m)) a s∧SoB (rotF G s (m-s) (e-m)) s mid∧SoB (rotF G s (m-s) (e-m)) mid e∧SoB (rotF G s (m-s) (e-m)) e b ∧
  ∀ i j,a≤i→i<mid→mid≤j→j<b→rotF G s (m-s) (e-m) i<rotF G s (m-s) (e-m) j:=by
 have v1:∀ z,z<s→rotF G s (m-s) (e-m) z=G z:=fun z hz=>by unfold rotF;rw[if_pos hz]
 have v2:∀ z,s≤z→z<mid→rotF G s (m-s) (e-m) z=G (z+(m-s)):=fun z hz hz2=>by unfold rotF;rw[if_neg (by omega),if_pos (by omega)]
 have v3:∀ z,mid≤z→z<e→rotF G s (m-s) (e-m) z=G (z-(e-m)):=fun z hz hz2=>by unfold rotF;rw[if_neg (by omega),if_neg (by omega),if_pos (by omega)]
 have v4:∀ z,e≤z→rotF G s (m-s) (e-m) z=G z:=fun z hz=>by unfold rotF;rw[if_neg (by omega),if_neg (by omega),if_neg (by omega)]
 refine⟨fun x y c1 c2 c3=>?_,fun x y c1 c2 c3=>?_,fun x y c1 c2 c3=>?_,fun x y c1 c2 c3=>?_,fun x y c1 c2 c3 c4=>?_⟩
 ·rw[v1 x (by omega),v1 y (by omega)];exact h1 _ _ (by omega) c2 (by omega)
 ·rw[v2 x (by omega) (by omega),v2 y (by omega) (by omega)];exact h2 _ _ (by omega) (by omega) (by omega)
 ·rw[v3 x (by omega) (by omega),v3 y (by omega) (by omega)];exact h1 _ _ (by omega) (by omega) (by omega)
 ·rw[v4 x (by omega),v4 y (by omega)];exact h2 _ _ (by omega) (by omega) (by omega)
 ·by_cases k1:x<s
  ·rw[v1 x k1]
   by_cases k2:y<e
   ·rw[v3 y c3 k2];exact h1 _ _ c1 (by omega) (by omega)
   ·rw[v4 y (by omega)];exact x1 _ _ c1 k1 (by omega) c4
  ·rw[v2 x (by omega) c2]
   by_cases k2:y<e
   ·rw[v3 y c3 k2];exact x2 _ _ (by omega) (by omega) (by omega) (by omega)
   ·rw[v4 y (by omega)];exact h2 _ _ (by omega) (by omega) c4
theorem SoB.join{G:Nat→Nat}{a mid b:Nat}(h1:SoB G a mid)(h2:SoB G mid b)(hx:∀ i j,a≤i→i<mid→mid≤j→j<b→G i<G j):SoB G a b:=fun i j c1 c2 c3=>by
 by_cases k1:j<mid
 ·exact h1 i j c1 c2 k1
 ·by_cases k2:i<mid
  ·exact hx i j c1 k2 (by omega) c3
  ·exact h2 i j (by omega) c2 c3
theorem SoB.out{r F F':Nat→Nat}{a b c d:Nat}(h:SoB (fun k=>r (F k)) a b)(p:PmB F F' c d)(hd:b≤c∨d≤a):SoB (fun k=>r (F' k)) a b:=fun i j c1 c2 c3=>by
 show r (F' i)<r (F' j)
 rw[p.out i (by omega),p.out j (by omega)];exact h i j c1 c2 c3
theorem SoB.one(G:Nat→Nat)(a b:Nat)(h:b≤a+1):SoB G a b:=fun i j c1 c2 c3=>by omega
structure InsB (G:Nat→Nat) (a i j:Nat):Prop where
 ord:∀ x y,a≤x→x<y→y≤i→x≠j→y≠j→G x<G y
 hi:∀ y,j<y→y≤i→G j<G y
 aj:a≤j
 ji:j≤i
theorem InsB.start{G:Nat→Nat}{a i:Nat}(h:SoB G a i)(ha:a≤i):InsB G a i i :=
 ⟨fun x y h1 h2 h3 _ h5=>h x y h1 h2 (by omega),fun y h1 h2=>by omega,ha,Nat.le_refl _⟩
theorem InsB.swap{G:Nat→Nat}{a i j:Nat}(h:InsB G a i (j+1))(ha:a≤j)(hs:G (j+1)<G j):InsB (sw2 G (j+1) j) a i j:=by
 have hji:=h.ji;have s1:sw2 G (j+1) j (j+1)=G j:=by unfold sw2;rw[if_pos rfl]
 have s2:sw2 G (j+1) j j=G (j+1):=by unfold sw2;rw[if_neg (by omega),if_pos rfl]
 have s3:∀ k,k≠j→k≠j+1→sw2 G (j+1) j k=G k:=fun k h1 h2=>by unfold sw2;rw[if_neg h2,if_neg h1]
 refine⟨fun x y h1 h2 h3 h4 h5=>?_,fun y h1 h2=>?_,ha,by omega⟩
 ·by_cases hx:x=j+1
  ·subst hx;rw[s1,s3 y h5 (by omega)];exact h.ord j y ha (by omega) h3 (by omega) (by omega)
  ·rw[s3 x h4 hx]
   by_cases hy:y=j+1
   ·subst hy;rw[s1];exact h.ord x j h1 (by omega) (by omega) hx (by omega)
   ·rw[s3 y h5 hy];exact h.ord x y h1 h2 h3 hx hy
 ·rw[s2]
  by_cases hy:y=j+1
  ·subst hy;rw[s1];exact hs
  ·rw[s3 y (by omega) hy];exact h.hi y (by omega) h2
theorem sw2_comp(r F:Nat→Nat)(x y k:Nat):r (sw2 F x y k)=sw2 (fun z=>r (F z)) x y k:=by
 unfold sw2
 repeat' split
 all_goals rfl
end Go.Proofs.YtepicfdhphiiaaaGreatDoor

namespace Go.Proofs.YtepicfdhphiiaaaGreatDoor
def Bef (c:Nat→Nat→Int) (u v:Nat):Prop:=c u v<0∨(c u v=0∧u<v)
structure Pre (c:Nat→Nat→Int) (n:Nat):Prop where
 neg:∀ u v,c v u = - c u v
 tr:∀ u v w,u<n→v<n→w<n→c u v≤0→c v w≤0→c u w≤0
theorem Pre.bef_tr{c:Nat→Nat→Int}{n:Nat}(h:Pre c n){u v w:Nat}(hu:u<n)(hv:v<n)(hw:w<n)(h1:Bef c u v)(h2:Bef c v w):Bef c u w:=by
 have n1:=h.neg u v;have n2:=h.neg v w;have n3:=h.neg u w;have a1:c u v≤0:=by rcases h1 with h1 | h1<;>omega
 have a2:c v w≤0:=by rcases h2 with h2 | h2<;>omega
 have a3:=h.tr u v w hu hv hw a1 a2;unfold Bef;rcases Int.lt_or_eq_of_le a3 with h3|h3
 ·exact .inl h3
 ·have a4:=h.tr v w u hv hw hu a2 (by omega);have a5:=h.tr w u v hw hu hv (by omega) a1;refine .inr ⟨h3,?_⟩;rcases h1 with h1|⟨h1,h1'⟩
  ·omega
  ·rcases h2 with h2 | ⟨h2,h2'⟩
   ·omega
   ·omega
theorem Pre.bef_or{c:Nat→Nat→Int}{n:Nat}(h:Pre c n){u v:Nat}(hne:u≠v):Bef c u v∨Bef c v u:=by
 have n1:=h.neg u v;unfold Bef;omega
theorem Pre.bef_not{c:Nat→Nat→Int}{n:Nat}(h:Pre c n){u v:Nat}(h1:Bef c u v):¬ Bef c v u:=by
 have n1:=h.neg u v;unfold Bef at *
 omega
instance (c:Nat→Nat→Int) (u v:Nat):Decidable (Bef c u v):=inferInstanceAs (Decidable (_∨_))
theorem countP_lt{α:Type}{p q : α→Bool}:∀ {l:List α},(∀ x∈l,p x=true→q x=true)→∀ {u : α},u∈l→q u=true→p u=false→l.countP p<l.countP q
 | [],_,u,hu,_,_=>by cases hu
 | x::l,h,u,hu,h1,h2=>by
  have hl:∀ y∈l,p y=true→q y=true:=fun y hy=>h y (List.mem_cons_of_mem _ hy)
  have hle:l.countP p≤l.countP q:=List.countP_mono_left hl;rcases List.mem_cons.1 hu with rfl|hu
  ·rw[List.countP_cons_of_neg (by simp[h2]),List.countP_cons_of_pos (by simpa using h1)];omega
  ·have ih:=countP_lt hl hu h1 h2;have hx:=h x List.mem_cons_self;rw[List.countP_cons,List.countP_cons];cases hp:p x
   ·simp;omega
   ·rw[hx hp];simp;omega
def rkB (c:Nat→Nat→Int) (n u:Nat):Nat:=(List.range n).countP fun v=>decide (Bef c v u)
theorem rkB_lt{c:Nat→Nat→Int}{n:Nat}(h:Pre c n){u v:Nat}(hu:u<n)(hv:v<n)(hb:Bef c u v):rkB c n u<rkB c n v:=by
 refine countP_lt (u:=u) (fun x hx hp=>?_) (List.mem_range.2 hu) (by simpa using hb) ?_
 ·exact decide_eq_true (h.bef_tr (List.mem_range.1 hx) hu hv (of_decide_eq_true hp) hb)
 ·exact decide_eq_false fun hc=>h.bef_not hc hc
theorem rkB_iff{c:Nat→Nat→Int}{n:Nat}(h:Pre c n){u v:Nat}(hu:u<n)(hv:v<n):rkB c n u<rkB c n v↔Bef c u v:=by
 refine⟨fun hr=>?_,rkB_lt h hu hv⟩;refine Classical.byContradiction fun hc=>?_
 by_cases e:u=v
 ·subst e;omega
 ·rcases h.bef_or e with h1 | h1
  ·exact hc h1
  ·have:=rkB_lt h hv hu h1;omega
theorem rkB_inj{c:Nat→Nat→Int}{n:Nat}(h:Pre c n){u v:Nat}(hu:u<n)(hv:v<n)(e:rkB c n u=rkB c n v):u=v:=by
 refine Classical.byContradiction fun hc=>?_
 rcases h.bef_or hc with h1|h1
 ·have:=rkB_lt h hu hv h1;omega
 ·have:=rkB_lt h hv hu h1;omega
theorem rkB_bd{c:Nat→Nat→Int}{n:Nat}(h:Pre c n){u:Nat}(hu:u<n):rkB c n u<n:=by
 have:rkB c n u<(List.range n).countP fun _=>true:=countP_lt (u:=u) (fun _ _ _=>rfl) (List.mem_range.2 hu) rfl (decide_eq_false fun hc=>h.bef_not hc hc)
 simpa using this
theorem up_id{G:Nat→Nat}{n:Nat}(h:∀ k,k+1<n→G k<G (k+1))(hb:∀ k,k<n→G k<n):∀ k,k<n→G k=k:=by
 have lo:∀ k,k<n→k≤G k:=fun k=>by
  induction k with
  | zero=>intro _;exact Nat.zero_le _
  | succ k ih=>intro hk;have:=ih (by omega);have:=h k hk;omega
 have hi:∀ d k,k+d+1=n→G k≤k:=fun d=>by
  induction d with
  | zero=>intro k hk;have:=hb k (by omega);omega
  | succ d ih=>intro k hk;have:=ih (k+1) (by omega);have:=h k (by omega);omega
 intro k hk;have:=lo k hk
 have:=hi (n-1-k) k (by omega)
 omega
theorem Fin'.rank{c:Nat→Nat→Int}{n:Nat}{F:Nat→Nat}(h:Fin' c n F)(p:Pre c n):∀ k,k<n→rkB c n (F k)=k :=
 up_id (G:=fun k=>rkB c n (F k)) (fun k hk=>rkB_lt p (h.lt k (by omega)) (h.lt _ hk) (by
  obtain⟨h1,h2⟩:=h.adj k hk;have:=p.neg (F k) (F (k+1))
  unfold Bef;omega)) fun k hk=>rkB_bd p (h.lt k hk)
end Go.Proofs.YtepicfdhphiiaaaGreatDoor

namespace Go.Proofs.YtepicfdhphiiaaaGreatDoor
open Go.RowKit
structure CmpR (c:Nat→Nat→Int) (r:Nat→Nat) (n:Nat):Prop where
 iff:∀ x y,x<n→y<n→x<y→(c y x<0↔r y<r x)
 inj:∀ x y,x<n→y<n→r x=r y→x=y
 bd:∀ u v,-1≤c u v∧c u v≤1
theorem CmpR.of{c:Nat→Nat→Int}{n:Nat}(p:Pre c n)(hb:∀ u v,-1≤c u v∧c u v≤1):CmpR c (rkB c n) n:=by
 refine⟨fun x y hx hy hxy=>?_,fun x y hx hy e=>rkB_inj p hx hy e,hb⟩;rw[rkB_iff p hy hx];unfold Bef;omega
theorem CmpR.no{c:Nat→Nat→Int}{r:Nat→Nat}{n:Nat}(h:CmpR c r n){x y:Nat}(hx:x<n)(hy:y<n)(hxy:x<y)(hc:¬ c y x<0):r x<r y:=by
 have h1:=h.iff x y hx hy hxy;have h2:=h.inj x y hx hy;omega
theorem RowF.sw2{W:World}{g n:Nat}{F:Nat→Nat}(h:RowF W g n F)(x y:Nat)(hx:x<n)(hy:y<n)(hxy:x≠y):
  RowF ((W.setCell ⟨g,x,none⟩ (.int .i64 (F y:Nat))).setCell ⟨g,y,none⟩ (.int .i64 (F x:Nat))) g n (sw2 F x y):=by
 have h0:=h.cell x hx;have h1:=h.cell y hy;have ne:∀ a b:Nat,a≠b→(⟨g,a,none⟩:Addr)≠⟨g,b,none⟩:=fun a b hab e=>by cases e;exact hab rfl
 refine⟨by simpa using h.lt,fun k hk=>?_,fun k=>?_⟩
 ·unfold Go.Proofs.YtepicfdhphiiaaaGreatDoor.sw2
  by_cases k2:k=x
  ·subst k2;rw[if_pos rfl,World.cell?_setCell_other _ _ _ _ (ne _ _ (fun e=>hxy e.symm))];exact World.cell?_setCell_same _ _ _ h0
  ·rw[if_neg k2]
   by_cases k1:k=y
   ·subst k1;rw[if_pos rfl];exact World.cell?_setCell_same _ _ _ (u := .int .i64 (F k:Nat)) (by rw[World.cell?_setCell_other _ _ _ _ (ne _ _ (by omega))];exact h1)
   ·rw[if_neg k1,World.cell?_setCell_other _ _ _ _ (ne _ _ (fun e=>k1 e.symm)),World.cell?_setCell_other _ _ _ _ (ne _ _ (fun e=>k2 e.symm))];exact h.cell k hk
 ·have:=h.fr k
  simpa using this
structure InsC (r:Nat→Nat) (F0 F:Nat→Nat) (a i j:Nat):Prop where
 I:InsB (fun k=>r (F k)) a i j
 x:F j=i
 lo:∀ k,a≤k→k≤i→k≠j→F k<i
 p:PmB F0 F a (i+1)
theorem InsC.start{r F0 F:Nat→Nat}{a b i:Nat}(hid:∀ k,a≤k→k<b→F0 k=k)(h:SoB (fun k=>r (F k)) a i)(p:PmB F0 F a i)(ha:a≤i)(hi:i<b):InsC r F0 F a i i:=by
 refine⟨InsB.start h ha,?_,fun k h1 h2 h3=>?_,p.wide nr_ (by omega)⟩
 ·rw[p.out i (by omega)];exact hid i ha hi
 ·obtain⟨m,m1,m2,e⟩:=p.src k h1 (by omega);rw[e,hid m m1 (by omega)];exact m2
theorem InsC.swap{r F0 F:Nat→Nat}{a i j:Nat}(h:InsC r F0 F a i (j+1))(ha:a≤j)(hs:r (F (j+1))<r (F j)):InsC r F0 (sw2 F (j+1) j) a i j:=by
 have hji:=h.I.ji;refine⟨?_,?_,fun k h1 h2 h3=>?_,h.p.trans (sw2_pm F (by omega) (by omega) ha (by omega))⟩
 ·have:=h.I.swap ha hs
  have e:(fun k=>r (sw2 F (j+1) j k))=sw2 (fun k=>r (F k)) (j+1) j:=by funext k;exact sw2_comp r F (j+1) j k
  rw[e];exact this
 ·unfold sw2;rw[if_neg (by omega),if_pos rfl];exact h.x
 ·unfold sw2
  by_cases k1:k=j+1
  ·rw[if_pos k1];exact h.lo j ha (by omega) (by omega)
  ·rw[if_neg k1,if_neg h3];exact h.lo k h1 h2 k1
structure MrgB (r F:Nat→Nat) (n a m b:Nat):Prop where
 am:a<m
 mb:m<b
 s1:SoB (fun k=>r (F k)) a m
 s2:SoB (fun k=>r (F k)) m b
 lt:∀ i j,a≤i→i<m→m≤j→j<b→F i<F j
 bd:∀ k,a≤k→k<b→F k<n
theorem rot_sob{r F:Nat→Nat}{l i j a b:Nat}(h:SoB (rotF (fun k=>r (F k)) l i j) a b):SoB (fun k=>r (rotF F l i j k)) a b:=by
 rw[show (fun k=>r (rotF F l i j k))=rotF (fun k=>r (F k)) l i j from funext fun k=>rotF_comp r F l i j k];exact h
structure RotD (r F F2:Nat→Nat) (n a m b s e mid:Nat):Prop where
 s1:SoB (fun k=>r (F2 k)) a s
 s2:SoB (fun k=>r (F2 k)) s mid
 s3:SoB (fun k=>r (F2 k)) mid e
 s4:SoB (fun k=>r (F2 k)) e b
 x:∀ i j,a≤i→i<mid→mid≤j→j<b→r (F2 i)<r (F2 j)
 l1:∀ i j,a≤i→i<s→s≤j→j<mid→F2 i<F2 j
 l2:∀ i j,mid≤i→i<e→e≤j→j<b→F2 i<F2 j
 pm:PmB F F2 a b
 bd:∀ k,a≤k→k<b→F2 k<n
 q1:a≤s
 q2:s≤mid
 q3:mid≤e
 q4:e≤b
theorem PmB.bd{F F':Nat→Nat}{a b n:Nat}(p:PmB F F' a b)(h:∀ k,a≤k→k<b→F k<n):∀ k,a≤k→k<b→F' k<n:=fun k h1 h2=>by
 obtain⟨m,m1,m2,e⟩:=p.src k h1 h2;rw[e];exact h m m1 m2
theorem RotD.of{r F:Nat→Nat}{n a m b s e mid:Nat}(M:MrgB r F n a m b)(q1:a≤s)(q2:s≤m)(q3:m≤e)(q4:e≤b)(hmid:mid+m=s+e)
  (x1:∀ i j,a≤i→i<s→e≤j→j<b→r (F i)<r (F j)) (x2:∀ i j,m≤i→i<e→s≤j→j<m→r (F i)<r (F j)):RotD r F (rotF F s (m-s) (e-m)) n a m b s e mid:=by
 obtain⟨p1,p2,p3,p4,p5⟩:=rot_parts (G:=fun k=>r (F k)) M.s1 M.s2 q1 q2 q3 q4 hmid x1 x2;have v1:∀ z,z<s→rotF F s (m-s) (e-m) z=F z:=fun z hz=>by unfold rotF;rw[if_pos hz]
 have v2:∀ z,s≤z→z<mid→rotF F s (m-s) (e-m) z=F (z+(m-s)):=fun z hz hz2=>by unfold rotF;rw[if_neg (by omega),if_pos (by omega)]
 have v3:∀ z,mid≤z→z<e→rotF F s (m-s) (e-m) z=F (z-(e-m)):=fun z hz hz2=>by unfold rotF;rw[if_neg (by omega),if_neg (by omega),if_pos (by omega)]
 have v4:∀ z,e≤z→rotF F s (m-s) (e-m) z=F z:=fun z hz=>by unfold rotF;rw[if_neg (by omega),if_neg (by omega),if_neg (by omega)]
 have pm:PmB F (rotF F s (m-s) (e-m)) a b:=rotF_pm F q1 (by omega);refine⟨rot_sob p1,rot_sob p2,rot_sob p3,rot_sob p4,fun i j c1 c2 c3 c4=>?_,fun i j c1 c2 c3 c4=>?_,fun i j c1 c2 c3 c4=>?_,pm,pm.bd M.bd,q1,by omega,by omega,q4⟩
 ·rw[rotF_comp r,rotF_comp r];exact p5 i j c1 c2 c3 c4
 ·rw[v1 i c2,v2 j c3 c4];exact M.lt _ _ (by omega) (by omega) (by omega) (by omega)
 ·rw[v3 i c1 c2,v4 j c3];exact M.lt _ _ (by omega) (by omega) (by omega) (by omega)
def gB (x y z:Nat):Bool:=decide (x<y)&&decide (y<z)
structure BkP (r F:Nat→Nat) (n z a:Nat):Prop where
 out:∀ k,n≤k→F k=k
 bd:∀ k,k<n→F k<n
 q1:∀ k,k<n→a≤k→F k/z=k/z
 s1:∀ i j,a≤i→i<j→j<n→i/z=j/z→r (F i)<r (F j)
 q2:∀ k,k<n→k<a→F k/(2*z)=k/(2*z)
 s2:∀ i j,i<j→j<a→j<n→i/(2*z)=j/(2*z)→r (F i)<r (F j)
theorem div_two(k z:Nat):k/(2*z)=k/z/2:=by rw[Nat.div_div_eq_div_mul,Nat.mul_comm]
theorem div_in{z t k:Nat}(h1:z*t≤k)(h2:k<z*t+z):k/z=t:=by
 have hz:0<z:=by omega
 have e1:t≤k/z:=by rw[Nat.le_div_iff_mul_le hz,Nat.mul_comm];exact h1
 have e2:k/z<t+1:=by rw[Nat.div_lt_iff_lt_mul hz,Nat.add_mul,Nat.one_mul,Nat.mul_comm];exact h2
 omega
theorem in_div{z t k:Nat}(hz:0<z)(h:k/z=t):z*t≤k∧k<z*t+z:=by
 have h1:=Nat.div_mul_le_self k z;have h2:=Nat.lt_div_mul_add (a:=k) hz;rw[h,Nat.mul_comm] at h1 h2;exact⟨h1,h2⟩
theorem BkP.step{r F F':Nat→Nat}{n z t b:Nat}(hz:0<z)(h:BkP r F n z (2*z*t))(hb:b≤n)(hb2:b=2*z*t+2*z∨(b=n∧n≤2*z*t+2*z))(p:PmB F F' (2*z*t) b)(s:SoB (fun k=>r (F' k)) (2*z*t) b):BkP r F' n z (2*z*(t+1)):=by
 have e:2*z*(t+1)=2*z*t+2*z:=by rw[Nat.mul_add,Nat.mul_one]
 rw[e];generalize hA:2*z*t=A at *;have k2:∀ k,A≤k→k<A+2*z→k/(2*z)=t:=fun k x1 x2=>div_in (by rw[hA];exact x1) (by rw[hA];exact x2)
 have hout:∀ k,k<A∨b≤k→F' k=F k:=p.out;refine⟨fun k hk=>?_,fun k hk=>?_,fun k hk hk2=>?_,fun i j x1 x2 x3 x4=>?_,fun k hk hk2=>?_,fun i j x1 x2 x3 x4=>?_⟩
 ·rw[hout k (by omega)];exact h.out k hk
 ·by_cases hx:A≤k∧k<b
  ·obtain⟨m,m1,m2,e'⟩:=p.src k hx.1 hx.2;rw[e'];exact h.bd m (by omega)
  ·rw[hout k (by omega)];exact h.bd k hk
 ·rw[hout k (by omega)];exact h.q1 k hk (by omega)
 ·rw[hout i (by omega),hout j (by omega)];exact h.s1 i j (by omega) x2 x3 x4
 ·by_cases hx:A≤k
  ·obtain⟨m,m1,m2,e'⟩:=p.src k hx (by omega);rw[e',div_two,h.q1 m (by omega) m1,← div_two,k2 m m1 (by omega),k2 k hx hk2]
  ·rw[hout k (by omega)];exact h.q2 k hk (by omega)
 ·by_cases hx:A≤i
  ·exact s i j hx x1 (by omega)
  ·have hj:j<A:=by
    rcases Nat.lt_or_ge j A with hj|hj
    ·exact hj
    ·exfalso;rw[k2 j hj x2] at x4;have:=(in_div (z:=2*z) (by omega) x4).1
     omega
   rw[hout i (by omega),hout j (by omega)];exact h.s2 i j x1 hj x3 x4
theorem BkP.next{r F:Nat→Nat}{n z a:Nat}(h:BkP r F n z a)(ha:n≤a):BkP r F n (2*z) 0 :=
 ⟨h.out,h.bd,fun k hk _=>h.q2 k hk (by omega),fun i j _ x2 x3 x4=>h.s2 i j x2 (by omega) x3 x4,fun _ _ hk2=>absurd hk2 (Nat.not_lt_zero _),fun _ _ _ x2=>absurd x2 (Nat.not_lt_zero _)⟩
structure BkI (r F:Nat→Nat) (n a:Nat):Prop where
 id:∀ k,a≤k→F k=k
 bd:∀ k,k<n→F k<n
 q:∀ k,k<n→F k/20=k/20
 s:∀ i j,i<j→j<a→i/20=j/20→r (F i)<r (F j)
theorem BkI.start(r:Nat→Nat)(n:Nat):BkI r (fun k=>k) n 0:=⟨fun _ _=>rfl,fun _ h=>h,fun _ _=>rfl,fun _ _ _ h=>absurd h (Nat.not_lt_zero _)⟩
theorem BkI.step{r F F':Nat→Nat}{n t b:Nat}(h:BkI r F n (20*t))(_h0:20*t≤n)(hb:b≤n)(hb2:b≤20*t+20)(hb3:20*t≤b)(p:PmB F F' (20*t) b)(s:SoB (fun k=>r (F' k)) (20*t) b):BkI r F' n b:=by
 refine⟨fun k hk=>?_,fun k hk=>?_,fun k hk=>?_,fun i j x1 x2 x3=>?_⟩
 ·rw[p.out k (by omega)];exact h.id k (by omega)
 ·by_cases hx:20*t≤k∧k<b
  ·obtain⟨m,m1,m2,e'⟩:=p.src k hx.1 hx.2;rw[e'];exact h.bd m (by omega)
  ·rw[p.out k (by omega)];exact h.bd k hk
 ·by_cases hx:20*t≤k∧k<b
  ·obtain⟨m,m1,m2,e'⟩:=p.src k hx.1 hx.2;rw[e',h.q m (by omega)];omega
  ·rw[p.out k (by omega)];exact h.q k hk
 ·by_cases hx:20*t≤i
  ·exact s i j hx x1 x2
  ·rw[p.out i (by omega),p.out j (by omega)];exact h.s i j x1 (by omega) x3
theorem BkI.all{r F:Nat→Nat}{n:Nat}(h:BkI r F n n):BkP r F n 20 0 :=
 ⟨h.id,h.bd,fun k hk _=>h.q k hk,fun i j _ x2 x3 x4=>h.s i j x2 x3 x4,fun _ _ hk2=>absurd hk2 (Nat.not_lt_zero _),fun _ _ _ x2=>absurd x2 (Nat.not_lt_zero _)⟩
theorem BkP.done{r F:Nat→Nat}{n z:Nat}(h:BkP r F n z 0)(hz:n≤z):SoB (fun k=>r (F k)) 0 n∧PmB (fun k=>k) F 0 n:=by
 refine⟨fun i j _ x2 x3=>h.s1 i j (Nat.zero_le _) x2 x3 ?_,fun k hk=>h.out k (by omega),fun k _ hk=>⟨F k,Nat.zero_le _,h.bd k hk,rfl⟩⟩;rw[Nat.div_eq_of_lt (by omega),Nat.div_eq_of_lt (by omega)]
end Go.Proofs.YtepicfdhphiiaaaGreatDoor

namespace Go.Proofs.YtepicfdhphiiaaaGreatDoor
def sortL (l:List (List Int)) (F:Nat→Nat):List (List Int):=(List.range l.length).map fun k=>l.getD (F k) []
theorem sortL_length(l:List (List Int))(F:Nat→Nat):(sortL l F).length=l.length:=by simp[sortL]
end Go.Proofs.YtepicfdhphiiaaaGreatDoor

namespace Go.Proofs.YtepicfdhphiiaaaGreatDoor
open Go.RowKit Go.Shelf
attribute [local go_sem] Oper.semAt_some
theorem OwnW.rdi{w:World}{B d n:Nat}{b:Option Addr}{L:List (Nat×Nat)}{ls:Nat→List Int}(h:OwnW w B b d n L ls){l:List (List Int)}(hl:l.length=L.length)(he:∀ i,i<l.length→l.getD i []=ls i):RdI w b l:=by
 rcases Nat.eq_zero_or_pos L.length with h0|h0
 ·exact .inl (List.eq_nil_of_length_eq_zero (by omega))
 ·obtain⟨g,cap,hv,-,h2,-,h4,-⟩:=own_open h.row h0;simp only[Value.slice.injEq] at hv;obtain⟨rfl,-,-⟩:=hv;refine .inr ⟨g,0,rfl,h2,fun i hi=>?_⟩;have hi':i<L.length:=by omega
  refine⟨some ⟨L[i].1,0,none⟩,L[i].2,?_,?_⟩
  ·rw[Nat.zero_add,h4 i (by omega),List.getElem?_map,List.getElem?_eq_getElem hi',he i hi,h.lens i];rfl
  ·rw[he i hi];exact(h.each i hi').rd
def vF (LL:List (Nat×Nat)) (n:Nat) (F:Nat→Nat) (k:Nat):List Value:=(List.range k).map fun j=>Value.slice (some ⟨(LL.getD (F j) (0,0)).1,0,none⟩) n (LL.getD (F j) (0,0)).2
theorem vF_length(LL:List (Nat×Nat))(n:Nat)(F:Nat→Nat)(k:Nat):(vF LL n F k).length=k:=by simp[vF]
theorem OwnW.cellAt{w:World}{B d n:Nat}{b:Option Addr}{L:List (Nat×Nat)}{ls:Nat→List Int}(h:OwnW w B b d n L ls){i:Nat}(hi:i<L.length):
  ∃ g,b=some ⟨g,0,none⟩∧w.cell? ⟨g,i,none⟩=some (.slice (some ⟨(L.getD i (0,0)).1,0,none⟩) n (L.getD i (0,0)).2):=by
 obtain⟨g,cap,hv,-,h2,-,h4,-⟩:=own_open h.row (by omega);simp only[Value.slice.injEq] at hv;obtain⟨rfl,-,-⟩:=hv;refine⟨g,rfl,?_⟩;rw[h4 i (by omega),List.getElem?_map,List.getElem?_eq_getElem hi,List.getD_eq_getElem?_getD,List.getElem?_eq_getElem hi];rfl
theorem OwnW.sorted{w:World}{B d n:Nat}{b:Option Addr}{L:List (Nat×Nat)}{ls:Nat→List Int}(h:OwnW w B b d n L ls){l:List (List Int)}{F:Nat→Nat}(hl:L.length=l.length)(he:∀ i,i<l.length→l.getD i []=ls i)(hF:∀ k,k<l.length→F k<l.length){a:Option Addr}(hr:Rd w a (vF L n F l.length)):RdI w a (sortL l F):=by
 rcases hr with h0|⟨g,o,rfl,hg,hc⟩
 ·have:=congrArg List.length h0
  rw[vF_length] at this;exact .inl (List.eq_nil_of_length_eq_zero (by rw[sortL_length];exact this))
 ·refine .inr ⟨g,o,rfl,hg,fun i hi=>?_⟩;rw[sortL_length] at hi;have e:(sortL l F).getD i []=ls (F i):=by
   unfold sortL;rw[List.getD_eq_getElem?_getD,List.getElem?_map,List.getElem?_range hi];exact he _ (hF i hi)
  have hFi:F i<L.length:=by rw[hl];exact hF i hi
  refine⟨some ⟨L[F i].1,0,none⟩,L[F i].2,?_,?_⟩
  ·rw[e,h.lens];refine hc i _ ?_;unfold vF;rw[List.getElem?_map,List.getElem?_range hi];simp only[Option.map_some];rw[List.getD_eq_getElem?_getD,List.getElem?_eq_getElem hFi];rfl
  ·rw[e];exact(h.each (F i) hFi).rd
structure LisI (wi:World) (D n:Nat) (ls:Nat→List Int) (cnt:Nat) (X:World) (b:Option Addr) (d:Nat) (LL:List (Nat×Nat)):Prop where
 len:LL.length=cnt
 c6:X.heap[wi.heap.size]?=some (.cells #[.slice b cnt d] 29 (0,0))
 own:OwnW X (D+3) b d n LL ls
 bel:Below wi.heap.size wi X
theorem LisI.kept{wi:World}{D n cnt:Nat}{ls:Nat→List Int}{X Y:World}{b:Option Addr}{d:Nat}{LL:List (Nat×Nat)}{r:Nat}(h:LisI wi D n ls cnt X b d LL)(hg:X.grownBy Y (some r))(hr:D≤r∧r≤D+2)(h0:wi.heap.size<D):LisI wi D n ls cnt Y b d LL:=by
 refine⟨h.len,(hg.block _ (Array.getElem?_eq_some_iff.1 h.c6).1 (fun e=>by have:=Option.some.inj e;omega)).trans h.c6,h.own.kept hg (by omega),h.bel.trans ⟨hg.os,hg.tape,hg.output,hg.size,fun i hi=>hg.block i ?_ (fun e=>by have:=Option.some.inj e;omega)⟩⟩;have:=h.bel.size
 omega
def ListP (ps:List Int) (ll:List (List Int)) (w':World) (e:Ending):Prop :=
 (ll.length≤600∧∃ a c F,e = .returned (.tuple #[.slice a ll.length c,.int .i64 0])∧Fin' (cS ps (ll.map rq)) ll.length F∧RdI w' a (sortL ll F))∨(600<ll.length∧e = .returned (.tuple #[.slice none 0 0,.int .i64 4]))
theorem ListP.ok{ps:List Int}{ll:List (List Int)}{w':World}{a:Option Addr}{c:Nat}{F:Nat→Nat}(h:ll.length≤600)(hF:Fin' (cS ps (ll.map rq)) ll.length F)(hr:RdI w' a (sortL ll F)):ListP ps ll w' (.returned (.tuple #[.slice a ll.length c,.int .i64 0])) := .inl ⟨h,a,c,F,rfl,hF,hr⟩
theorem ListP.big{ps:List Int}{ll:List (List Int)}{w':World}(h:600<ll.length):ListP ps ll w' (.returned (.tuple #[.slice none 0 0,.int .i64 4])) := .inr ⟨h,rfl⟩
end Go.Proofs.YtepicfdhphiiaaaGreatDoor


namespace Go.Proofs.YtepicfdhphiiaaaGreatDoor
open Go.RowKit Go.Shelf
def RdC (w:World) (a:Option Addr) (ls:List (List Int)):Prop :=
 ls=[]∨∃ b off,a=some ⟨b,off,none⟩∧b<w.heap.size∧∀ i,i<ls.length→∃ a' c',w.cell? ⟨b,off+i,none⟩=some (.slice a' (ls.getD i []).length c')∧(ls.getD i []).length≤c'∧Rd w a' (ints (ls.getD i []))
theorem RdC.below{w w':World}{a:Option Addr}{ls:List (List Int)}{B:Nat}(h:RdC w a ls)(hb:Below B w w')(hB:w.heap.size≤B):RdC w' a ls:=by
 rcases h with h|⟨b,off,h1,h2,h3⟩
 ·exact .inl h
 ·refine .inr ⟨b,off,h1,Nat.lt_of_lt_of_le h2 hb.size,fun i hi=>?_⟩;obtain⟨a',c',k1,k2,k3⟩:=h3 i hi;exact⟨a',c',(hb.cell (p:=⟨b,off+i,none⟩) (Nat.lt_of_lt_of_le h2 hB)).trans k1,k2,k3.below hb hB⟩
theorem RdC.rdi{w:World}{a:Option Addr}{ls:List (List Int)}(h:RdC w a ls):RdI w a ls:=by
 rcases h with h|⟨b,off,h1,h2,h3⟩
 ·exact .inl h
 ·exact .inr ⟨b,off,h1,h2,fun i hi=>by obtain⟨a',c',k1,_,k3⟩:=h3 i hi;exact⟨a',c',k1,k3⟩⟩
theorem RdC.take{w:World}{a:Option Addr}{ls:List (List Int)}(h:RdC w a ls)(k:Nat):RdC w a (ls.take k):=by
 rcases h with h|⟨b,off,h1,h2,h3⟩
 ·left;rw[h];simp
 ·by_cases hk:(ls.take k)=[]
  ·exact .inl hk
  ·refine .inr ⟨b,off,h1,h2,fun i hi=>?_⟩;have hi':i<k∧i<ls.length:=by simp at hi;omega
   have e:(ls.take k).getD i []=ls.getD i []:=by
    rw[List.getD_eq_getElem?_getD,List.getD_eq_getElem?_getD,List.getElem?_take,if_pos hi'.1]
   rw[e];exact h3 i hi'.2
end Go.Proofs.YtepicfdhphiiaaaGreatDoor

/- Lattices of integer rows, plain: the Hermite normal form is one; ranks; annihilators; join and meet. -/
namespace Go.Proofs.YtepicfdhphiiaaaGreatDoor

theorem sp_sub {m : List Vc} {x y : Vc} (hx : Sp m x) (hy : Sp m y) : Sp m fun i => x i - y i := by
  have := sp_lin (-1) m _ _ hx hy
  have e : (fun i => x i + -1 * y i) = fun i => x i - y i := by funext i; omega
  rwa [e] at this
/-! Existence of echelon bases. -/
/-! Independence, and the number of elements of a basis. -/
/-! Linear maps. -/
/-! Sums and intersections. -/
/-! Products, annihilators. -/
theorem inter_closed {n : Nat} {S T : Vc → Prop} (h1 : Closed n S) (h2 : Closed n T) : Closed n fun x => S x ∧ T x :=
  ⟨fun x hx => h1.1 x hx.1, fun x hx => ⟨h1.2 x (perp_le (fun _ => perp_le fun _ hz => hz.1) hx), h2.2 x (perp_le (fun _ => perp_le fun _ hz => hz.2) hx)⟩⟩
theorem sum_right {S T : Vc → Prop} (hS : IsLat S) {x : Vc} (h : T x) : SumL S T x := ⟨vz, hS.z, by
  have e : (fun i => x i - (vz : Vc) i) = x := by funext i; simp [vz]
  rw [e]; exact h⟩
theorem sum_le {S T U : Vc → Prop} (hU : IsLat U) (h1 : ∀ x, S x → U x) (h2 : ∀ x, T x → U x) : ∀ x, SumL S T x → U x := fun x ⟨y, hy, hz⟩ => by
  have := hU.add (h2 _ hz) (h1 _ hy)
  have e : (fun i => x i - y i + y i) = x := by funext i; omega
  rwa [e] at this
theorem joi_comm {n : Nat} {S T : Vc → Prop} (hS : IsLat S) (hT : IsLat T) (y : Vc) : Perp n (SumL S T) y ↔ Perp n (SumL T S) y :=
  ⟨perp_le (sum_le (sum_lat hS hT) (fun _ => sum_right hS) fun _ => sum_left hT), perp_le (sum_le (sum_lat hT hS) (fun _ => sum_right hT) fun _ => sum_left hS)⟩
theorem joi_assoc {n : Nat} {S T U : Vc → Prop} (hS : IsLat S) (hT : IsLat T) (hU : IsLat U) (s1 : ∀ x, S x → Supp n x) (s2 : ∀ x, T x → Supp n x) (s3 : ∀ x, U x → Supp n x) (y : Vc) :
    Perp n (SumL (Joi n S T) U) y ↔ Perp n (SumL S (Joi n T U)) y := by
  have key : ∀ (A B : Vc → Prop) (y : Vc), IsLat A → IsLat B → (∀ x, A x → Supp n x) → (∀ x, B x → Supp n x) → (Perp n (SumL A B) y ↔ Perp n A y ∧ Perp n B y) := fun A B y hA hB a1 b1 =>
    ⟨fun h => ⟨perp_le (fun _ => sum_left hB) h, perp_le (fun _ => sum_right hA) h⟩, fun ⟨h1, h2⟩ => ⟨h1.1, fun x ⟨z, hz, hw⟩ => by
      have e1 := h1.2 z hz
      have e2 := h2.2 _ hw
      have e3 := dot_lin 1 y n (fun i => x i - z i) z
      have e : (fun i => x i - z i + 1 * z i) = x := by funext i; omega
      rw [e, dot_comm n y, dot_comm n y, dot_comm n y, e1, e2] at e3
      omega⟩⟩
  rw [key (Joi n S T) U y (perp_lat n _) hU perp_supp s3, key S (Joi n T U) y hS (perp_lat n _) s1 perp_supp]
  have e1 : Perp n (Joi n S T) y ↔ Perp n S y ∧ Perp n T y := (joi_perp s1 s2 y).trans (key S T y hS hT s1 s2)
  have e2 : Perp n (Joi n T U) y ↔ Perp n T y ∧ Perp n U y := (joi_perp s2 s3 y).trans (key T U y hT hU s2 s3)
  rw [e1, e2]
  exact and_assoc

/-! The rank of an annihilator. -/
end Go.Proofs.YtepicfdhphiiaaaGreatDoor

namespace Go.Proofs.YtepicfdhphiiaaaGreatDoor
open Go.RowKit
def arr (l:List Int):Array Value:=(ints l).toArray
theorem arr_get(l:List Int)(j:Nat)(h:j<l.length):(arr l)[j]?=some (.int .i64 l[j]):=by simp[arr,ints,h]
theorem arr_set(l:List Int)(j:Nat)(x:Int):(arr l).setIfInBounds j (.int .i64 x)=arr (l.set j x):=by
 simp[arr,ints,List.map_set]
end Go.Proofs.YtepicfdhphiiaaaGreatDoor

namespace Go.Proofs.YtepicfdhphiiaaaGreatDoor.RW
open Go Go.Sort
section
variable {P:Program} {ops:Array Oper} {md:Region.Mode} {C:World→Prop}
theorem anyR_anyIn{l0 n s:Nat}{Q:Act→World→Prop}{Q':Exit→Act→World→Prop}(hpl:plainOps ops=true)(hQ:∀ a w,Q a w→Q' .normal a w):
  ∀ (f:Nat) (listed:Array Bool) (a:Act) (w:World),RW.anyR P md ops C s Q f listed a w→wpAnyIn (Fence.wide.inRound l0) n P md ops Q' f listed a w
 | 0,_,_,_,h=>⟨h.1,hQ _ _ h.2⟩
 | f+1,_,_,_,h=>⟨fun h0=>absurd h0 h.1,fun i hi=>wpOpIn_of_wpOp (fun _ c ho=>(plainOps_spec hpl ho).1 c) (fun _ c ho=>(plainOps_spec hpl ho).2 c) (fun a' w' h'=>anyR_anyIn hpl hQ f _ a' w' h'.2) (h.2 i hi)⟩
theorem wpIn_region_readers{id l0 n:Nat}{Q:Exit→Act→World→Prop}{a:Act}{w:World}{l:List Oper}(s:Nat)(ord:List (Nat×Nat))(C:World→Prop)(hm:P.follows .mixedOrders=true)
  (hB:(Region.noSelect l.toArray&&decide (ord.length=l.length)&&plainOps l.toArray&&RW.ordB .any l.toArray s ord (Array.replicate l.length false))=true)
  (hC:C { w with drawn:=w.drawn+1 }) (h:RW.walkR P l.toArray C s (fun a' w'=>Q .normal a' w') ord false a { w with drawn:=w.drawn+1 }):(Code.region id l.toArray true).wpIn (Fence.wide.inRound l0) n P Q a w:=by
 simp only[Bool.and_eq_true,decide_eq_true_eq] at hB;obtain⟨⟨⟨hsel,hlen⟩,hpl⟩,hord⟩:=hB;refine wpIn_region_any hm ?_;have inv0:RW.RInv .any l.toArray (Array.replicate l.length false):=⟨by simp,fun j oj _ hl=>(by rw[getD_replicate_false] at hl;cases hl)⟩;have H:=RW.anyR_walk (md := .any) hsel ord _ a _ inv0 (.inr hC) hord (by rw[getD_replicate_false];exact h);have:=anyR_anyIn (l0:=l0) (n:=n) (Q':=Q) hpl (fun a w h=>h) _ _ _ _ H
 rw[hlen] at this
 simpa using this
end
end Go.Proofs.YtepicfdhphiiaaaGreatDoor.RW
namespace Go.Proofs.YtepicfdhphiiaaaGreatDoor
open Go.RowKit Go.Shelf
attribute [local go_sem] Oper.semAt_some
structure KpL (n₀:Nat) (S:List Nat) (X Y:World):Prop where
 b:Below n₀ X Y
 same:∀ i∈S,Y.heap[i]?=X.heap[i]?
theorem pivots_any(w:World)(n:Nat)(a:Option Addr)(m c:Nat):
  Calls Tryz.prog 141 #[latV n a m c] w fun e w' =>
   e = .returned (.func (.func 168) #[] #[.pointer (some ⟨w.heap.size,0,none⟩)]) ∧
   w'=w.alloc (.cells #[.int .i64 n,.slice a m c] 67):=by
 unfold latV;go_enter Tryz.func141,Tryz.ntmps141;go_wp2;go_ret;exact⟨rfl,rfl⟩
theorem pivots_seq(r:Nat)(hr1:1≤r)(rows:List (List Int))(a:Option Addr)(c n:Nat)(p:Nat→Nat)(W0 W:World)(hb:Below W0.heap.size W0 W)(hr:RdM W0 a rows)(hrect:Rect n rows)(hi:∀ r∈rows,I64s r)(hp:Pvs n 0 rows p)(hn0:0<n)(hn:n≤100)(hl:rows.length≤100)(L:Laid W0)(b1:Nat)
  (hb1:W.heap[b1]?=some (.cells #[.int .i64 n,.slice a rows.length c] 67 (0,0))) (l:Nat) (J:Nat→World→Prop)
  (hY:∀ k X X' g d,k<rows.length→J k X→Below W0.heap.size W0 X→Below X.heap.size X X'→X.heap.size≤g→RowS X' g 0 n (ent rows k)→YieldAt Fence.wide (r-1) Tryz.prog l #[.int .i64 (p k),.slice (some ⟨g,0,none⟩) n d] X' fun e Y=>e = .returned (.bool true)∧J (k+1) Y∧KpL W0.heap.size [b1] X' Y)
  (h0:J 0 W) :
  CallsIn Fence.wide r Tryz.prog 168 #[.func (.yield l) #[] #[],.pointer (some ⟨b1,0,none⟩)] W fun e X=>(∃ v,e = .returned v)∧J rows.length X:=by
 obtain⟨A,hA,hrow⟩:=hr;have Hc:=hd_ (fun (hpos:0<rows.length)=>by
  obtain⟨b,off,e,hb,hcell⟩:=hA.open (by simpa using hpos);exact(⟨b,off,e,fun W (hW:Below W0.heap.size W0 W) i (hi2:i<rows.length)=>(hW.cell (p:=⟨b,off+i,none⟩) hb).trans (hcell i _ (by rw[List.getElem?_map,List.getElem?_range hi2];rfl))⟩:∃ b off,a=some ⟨b,off,none⟩∧∀ W,Below W0.heap.size W0 W→∀ i,i<rows.length→W.cell? ⟨b,off+i,none⟩=some (.slice (A i).1 (rows.getD i []).length (A i).2)))
 have HO:=hd_ (fun i (hi2:i<rows.length) W (hW:Below W0.heap.size W0 W)=>by
  have hm:=lrow_mem hi2;have hle:=hrect _ hm;have:=longOf_any W (A i).1 (A i).2 (rows.getD i []) ((hrow i hi2).below hW nr_) (hi _ hm) (by omega) (by omega) (L.below hW)
  rw[hle] at this;exact this)
 have HLd:=hd_ (fun i (hi2:i<rows.length) W g d (hR:RowS W g 0 n (ent rows i))=>Calls.mono (lead_any W g 0 d n (ent rows i) hR (by omega)) (R':=fun e w'=>e = .returned (.int .i64 (p i))∧Below W.heap.size W w') (by
  rintro e w' ⟨⟨z,rfl,hz⟩,hb⟩;refine⟨?_,hb⟩;have h1:=hp.pos i hi2;rcases hz with⟨_,h⟩|⟨k,hk,rfl,h2,h3⟩
  ·have:=h (p i) (hp.lt i hi2)
   omega
  ·have:k=p i:=by
    rcases Nat.lt_trichotomy k (p i) with h|h|h
    ·exact absurd (hp.z i hi2 k h) h2
    ·exact h
    ·have:=h3 (p i) h
     omega
   rw[this]))
 have Hlen:Hid (∀ i,i<rows.length→(rows.getD i []).length=n):=fun i hi2=>hrect _ (lrow_mem hi2)
 have HE:Hid (∀ i,ent rows i=fun j=>(rows.getD i []).getD j 0):=fun i=>rfl
 have Hy:=hd_ hY;have M1:=hd_ hb1;have B0:=hd_ hb;have J0:=hd_ h0;clear hrow hA hi hrect L hp hY hb h0;obtain⟨m,hm⟩:∃ m,rows.length=m:=⟨_,rfl⟩;rw[hm] at hl Hc HO HLd Hlen Hy M1 hb1 ⊢;clear hm;refine callsIn_of_wp Tryz.func168 rfl trivial ?_ rfl;simp only[Tryz.ntmps168,List.size_toArray,List.length_cons,List.length_nil,Nat.reduceAdd,Nat.reduceSub,Array.replicate_succ,Array.replicate_zero,List.push_toArray,List.append_toArray,List.nil_append,List.cons_append];obtain⟨m1,m2,-,-⟩:=obj_two hb1;clear hb1
 gi_wp2_with fail
 gi_loopw [9] (fun x wr=>∃ k:Nat,k≤m∧x = .int .i64 k∧Hid (J k wr)∧Hid (Below W0.heap.size W0 wr)∧Hid (wr.heap[b1]?=some (.cells #[.int .i64 n,.slice a m c] 67 (0,0)))) (fun x _=>m-(intOf x).toNat)
 case atStart=>exact⟨0,Nat.zero_le _,rfl,J0,B0,M1⟩
 case round =>
  clear J0 B0 M1 m1 m2;obtain⟨k,hk,rfl,Jk,B,M1⟩:=hrel
  by_cases hlt:k<m
  ·have hlt':(k:Int)<m:=by omega
   have hltt:decide (k<m)=true:=decide_eq_true hlt;obtain⟨b,off,rfl,hcl⟩:=Hc.out (by omega);have ct:=hcl wr B.out k hlt;rw[Hlen.out k hlt] at ct;have HOk:=hd_ (HO.out k hlt wr B.out);have HLk:=hd_ (HLd.out k hlt);have Hyk:=hd_ (fun X' g d h1 h2 h3=>Hy.out k wr X' g d hlt Jk.out B.out h1 h2 h3);have Hek:=hd_ (HE.out k);have Hlk:=hd_ (Hlen.out k hlt);have HI:=hd_ hlt;clear hcl;generalize (A k).1=a1 at *;generalize (A k).2=c1 at *;generalize ent rows k=F at *;generalize rows.getD k []=xs at *
   gi_wp2_with fail
   refine⟨trivial,?_⟩;refine(callsIn_wide.2 HOk.out).mono ?_;rintro e w1 ⟨a2,c2,rfl,hown,hb1⟩;obtain⟨g,rfl,hg1,hg2,hg3⟩:=own_rowS hown hn0 Hlk.out;have E1:=hd_ hb1;have G1:=hd_ hg1;have R1:Hid (RowS w1 g 0 n F):=hg3.congr fun j _=>by rw[Hek.out]
   have HL1:=hd_ (HLk.out w1 g c2 R1.out);clear hown hb1 hg1 hg2 hg3 HOk ct HLk
   gi_wp2_with fail
   refine⟨trivial,?_⟩;refine(callsIn_wide.2 HL1.out).mono ?_;rintro e w2 ⟨rfl,hb2⟩;have E2:=bt_ E1 hb2;have R2:=hd_ (R1.out.below hb2 nr_);obtain⟨fn,tmps,assign,body,hy,hR⟩:=Hyk.out w2 g c2 E2.out G1.out R2.out;have M2:=hk_ M1 E2.out;have B2:=bt_ B E2.out;clear hb2 HL1 R1 E1 Jk Hyk R2
   gi_wp2_with fail
   refine hR.mono ?_;rintro e W3 ⟨rfl,hJ3,hk3⟩;have J3:=hd_ hJ3;have B3:=hd_ (B2.out.trans hk3.b);have N1:=hd_ ((hk3.same b1 (by simp)).trans M2.out);clear hJ3 hk3 hR hy B M1 M2 B2 E2
   gi_wp2_with fail
   go_roundw
   case rel=>exact⟨k+1,HI.out,by go_num,J3,B3,N1⟩
   case measure=>simp[intOf];omega
  ·have hlt':¬ (k:Int)<m:=by omega
   have hltt:decide (k<m)=false:=decide_eq_false hlt;have hkn:m=k:=by omega
   subst hkn;have JX:=hd_ Jk.out
   gi_wp2
   go_end0
   exact⟨⟨_,rfl⟩,JX.out⟩
theorem range_pivots{g:Operand}{p1 p2:Tmp}{assign body:Code}{Q:Exit→Act→World→Prop}{a:Act}{n':Nat}(hn':2≤n')
  (rows:List (List Int)) (ra:Option Addr) (c n:Nat) (p:Nat→Nat) (W0 w:World) (hb:Below W0.heap.size W0 w) (hr:RdM W0 ra rows) (hrect:Rect n rows) (hi:∀ r∈rows,I64s r) (hp:Pvs n 0 rows p) (hn0:0<n) (hn:n≤100) (hl:rows.length≤100) (L:Laid W0) (b1:Nat)
  (hb1:w.heap[b1]?=some (.cells #[.int .i64 n,.slice ra rows.length c] 67 (0,0)))
  (hg:a.eval g = .func (.func 168) #[] #[.pointer (some ⟨b1,0,none⟩)])
  (I:Nat→World→Prop) (hI:∀ k A B r,I k A→A.grownBy B (some r)→w.heap.size≤r∧r≤w.heap.size+1→I k B) (h0:I 0 w) (a₁:Nat→Nat→Nat→Act)
  (hassign:∀ (k g d:Nat) (W:World) (K:Act→World→Prop),k<rows.length→K (a₁ k g d) W →
   assign.wpIn (Fence.wide.inRound (w.heap.size+1)) (n'-1-1) Tryz.prog (Exit.then K (fun _ _ _=>False)) { tmps:=(a.tmps.setIfInBounds p1 (.int .i64 (p k))).setIfInBounds p2 (.slice (some ⟨g,0,none⟩) n d),defers:=[] } W)
  (hbody:∀ (k:Nat) (X0 X:World) (g d:Nat),k<rows.length→I k X0→Below W0.heap.size W0 X0→w.heap.size+1<X0.heap.size→X0.heap.size≤X.heap.size→X.os=X0.os→X.tape=X0.tape→X.output=X0.output→(∀ i,i<X0.heap.size→i≠w.heap.size+1→X.heap[i]?=X0.heap[i]?)→X0.heap.size≤g→RowS X g 0 n (ent rows k) →
   body.wpIn (Fence.wide.inRound (w.heap.size+1)) (n'-1-1) Tryz.prog (fun e _ Y=>e = .normal∧I (k+1) Y∧KpL W0.heap.size [w.heap.size,w.heap.size+1,b1] X Y) (a₁ k g d) X)
  (hdone:∀ (W:World),I rows.length W→W.heap[w.heap.size]?=some (.deferred (some []))→Q .normal { a with defers:={ target := .collected w.heap.size,args := #[] }::a.defers } W) :
  (Code.rangeFunc g #[p1,p2] assign body).wpIn Fence.wide n' Tryz.prog Q a w:=by
 refine wpIn_rangeFunc ?_;intro fn hfn;rw[show Fence.wide.round=none from rfl];obtain⟨rec,hrec⟩:∃ rec:LoopState→Option Code→Loop,rec=fun st pe=>{ state:=st,pending:=pe,fn,tmps:=a.tmps,params := #[p1,p2],assign,body,defers:=w.heap.size }:=⟨_,rfl⟩
 obtain⟨W1,hW1⟩:∃ W1,(w.alloc (.deferred (some []))).alloc (.loop (rec .ready none))=W1:=⟨_,rfl⟩;have hL1:W1.heap[w.heap.size+1]?=some (.loop (rec .ready none)):=by
  rw[← hW1];have:=World.alloc_heap_new (w.alloc (.deferred (some []))) (.loop (rec .ready none));rwa [World.size_alloc] at this
 have hK1:W1.heap[w.heap.size]?=some (.deferred (some [])):=by
  rw[← hW1];exact(Below.heap_alloc _ _ _ (by simp)).trans (World.alloc_heap_new w _)
 have hG1:Below w.heap.size w W1:=by rw[← hW1];exact((Below.refl _ w).alloc nr_ _).alloc (by simp) _
 have grown:∀ {A B:World},Below A.heap.size A B→∀ r,A.grownBy B r:=fun h r=>⟨h.os,h.tape,h.output,h.size,fun k hk _=>h.block k hk⟩
 have hI1:I 0 W1:=hI 0 w W1 w.heap.size h0 (grown hG1 _) ⟨Nat.le_refl _,by omega⟩;have hbW1:Below W0.heap.size W0 W1:=hb.trans (hG1.mono hb.size);have sp1:=(Array.getElem?_eq_some_iff.1 hb1).1;have hb1':=(hG1.block b1 sp1).trans hb1;refine⟨w.heap.size+1,[{ target := .collected w.heap.size,args := #[] }],W1,{ target := .fn (.func 168) #[.pointer (some ⟨b1,0,none⟩)],args := #[.func (.yield (w.heap.size+1)) #[] #[]] },W1,168,
  #[.func (.yield (w.heap.size+1)) #[] #[]] ++ #[.pointer (some ⟨b1,0,none⟩)],W1,?_,?_,?_,?_,fun _=>by omega,?_⟩
 ·rw[← hW1,hrec];exact run_enterLoop_outer _ _ _ _ _
 ·simp only[resolve,hg];simp[go_sem]
 ·intro f' hf';simp[Target.leads] at hf';subst hf';trivial
 ·simp[invoke,go_sem]
 ·refine(pivots_seq (n'-1) (by omega) rows ra c n p W0 W1 hbW1 hr hrect hi hp hn0 hn hl L b1 hb1' (w.heap.size+1)
   (fun k X=>I k X∧X.heap[w.heap.size+1]?=some (.loop (rec .ready none))∧X.heap[w.heap.size]?=some (.deferred (some []))) ?_ ⟨hI1,hL1,hK1⟩).mono ?_
  ·-- ONE ROUND
   rintro k X0 W g d hkn ⟨hi,hl0,hk0⟩ hbX hXW hgX hR;have hlt0:w.heap.size+1<X0.heap.size:=(Array.getElem?_eq_some_iff.1 hl0).1;have hl:=(hXW.block _ hlt0).trans hl0;have hk:=(hXW.block _ (by omega)).trans hk0;have hlt:w.heap.size+1<W.heap.size:=(Array.getElem?_eq_some_iff.1 hl).1;have hy:=run_yield (P:=Tryz.prog) (args := #[.int .i64 (p k),.slice (some ⟨g,0,none⟩) n d]) hl (by rw[hrec];simp);rw[hrec] at hy;obtain⟨W2,hW2⟩:∃ W2,W.putObj (w.heap.size+1) (.loop { rec .ready none with state := .busy })=W2:=⟨_,rfl⟩;have hl2:W2.heap[w.heap.size+1]?=some (.loop { rec .ready none with state := .busy }):=by rw[← hW2];exact World.putObj_heap_same hlt
   have hg2:W.grownBy W2 (some (w.heap.size+1)):=by rw[← hW2];exact grownBy_putObj' W _ _
   have hk2:W2.heap[w.heap.size]?=some (.deferred (some [])):=(hg2.block _ (by omega) (fun e=>by have:=Option.some.inj e;omega)).trans hk;have hz:W0.heap.size≤w.heap.size:=hb.size;have hbW2:Below W0.heap.size W W2:=⟨hg2.os,hg2.tape,hg2.output,hg2.size,fun i hj=>hg2.block i (by have:=hbX.size;have:=hXW.size;omega) (fun e=>by have:=Option.some.inj e;omega)⟩;have hgl:=hR.lt;have hR2:RowS W2 g 0 n (ent rows k):=hR.heap hg2.size (hg2.block g hgl (fun e=>by have:=Option.some.inj e;omega));have hw:=hbody k X0 W2 g d hkn hi hbX hlt0 (Nat.le_trans hXW.size hg2.size) (hg2.os.trans hXW.os) (hg2.tape.trans hXW.tape) (hg2.output.trans hXW.output) (fun i hi1 hi2=>(hg2.block i (Nat.lt_of_lt_of_le hi1 hXW.size) (fun e=>hi2 (Option.some.inj e))).trans (hXW.block i hi1)) hgX hR2;refine⟨fn,_,assign,body,hy,roundIn_of_wpIn hfn ?_⟩;have ht:((#[p1,p2]:Array Tmp).zip #[Value.int .i64 (p k),.slice (some ⟨g,0,none⟩) n d]).foldl (fun tmps (t,a)=>tmps.setIfInBounds t a) a.tmps=(a.tmps.setIfInBounds p1 (.int .i64 (p k))).setIfInBounds p2 (.slice (some ⟨g,0,none⟩) n d):=by simp
   rw[ht];refine hassign k g d W _ hkn ⟨W2,?_,?_⟩
   ·rw[← hW2];exact run_beginRound hl (by rw[hrec])
   refine wpIn_mono hw ?_;rintro e a3 W3 ⟨rfl,hi3,hk3⟩;have hl3:=(hk3.same (w.heap.size+1) (by simp)).trans hl2;have hr:=run_endRound (P:=Tryz.prog) none hl3;have hg4:=grownBy_putObj' W3 (w.heap.size+1) (.loop (rec .ready none));rw[hrec] at hr;refine⟨_,_,hr,rfl,⟨?_,?_,?_⟩,⟨?_,?_⟩⟩
   ·have:=hI _ W3 _ _ hi3 hg4 ⟨by omega,by omega⟩
    rw[hrec] at this;exact this
   ·rw[hrec];exact World.putObj_heap_same (Array.getElem?_eq_some_iff.1 hl3).1
   ·exact(World.putObj_heap_other (by omega)).trans ((hk3.same _ (by simp)).trans hk2)
   ·rw[hrec] at hg4;refine(hbW2.trans hk3.b).trans ⟨hg4.os,hg4.tape,hg4.output,hg4.size,fun i hj=>hg4.block i ?_ (fun e=>by have:=Option.some.inj e;omega)⟩;have:=hk3.b.size
    have:=hg2.size
    have:=hbX.size
    have:=hXW.size
    omega
   ·intro i hi';have hi0:i=b1:=by simpa using hi'
    have hne:i≠w.heap.size+1∧i<W.heap.size:=by omega
    refine(World.putObj_heap_other hne.1).trans ((hk3.same i (by simp only[List.mem_cons,List.not_mem_nil,or_false];omega)).trans (hg2.block i hne.2 (fun e=>hne.1 (Option.some.inj e))))
  ·-- BEHIND THE ITERATOR
   rintro e W2 ⟨⟨v,rfl⟩,hi,hl,hk⟩;refine⟨none,_,by have:=run_endLoop (P:=Tryz.prog) hl (by rw[hrec];simp);rw[hrec] at this;exact this,?_⟩;exact hdone _ (hI rows.length W2 _ _ hi (grownBy_putObj' _ _ _) ⟨by omega,by omega⟩) ((World.putObj_heap_other (by omega)).trans hk)
end Go.Proofs.YtepicfdhphiiaaaGreatDoor

/- The reduction of a row by a normal form, plain. -/
namespace Go.Proofs.YtepicfdhphiiaaaGreatDoor

/-- What is left of a row behind k rows of the form. -/
def reF (rows : List (List Int)) (p : Nat → Nat) (r : List Int) : Nat → Nat → Int
  | 0, j => r.getD j 0
  | k + 1, j => reF rows p r k j - Int.fdiv (reF rows p r k (p k)) (ent rows k (p k)) * ent rows k j
theorem pow_ten_step (k : Nat) : 10 ^ (9 + 10 * (k + 1)) = 10 ^ (9 + 10 * k) * 10 ^ 10 := by rw [← Nat.pow_add]; congr 1
theorem red_step {a b z e : Int} {X : Nat} (hX : 1 ≤ X) (hb : b ≠ 0) (h1 : z.natAbs ≤ X) (h2 : a.natAbs ≤ X) (h4 : e.natAbs ≤ 10 ^ 9) :
    (Int.fdiv a b).natAbs ≤ X * 10 ^ 10 ∧ (Int.fdiv a b * e).natAbs ≤ X * 10 ^ 10 ∧ (z - Int.fdiv a b * e).natAbs ≤ X * 10 ^ 10 := by
  have h3 := fdiv_abs (a := a) hb
  generalize Int.fdiv a b = q at *
  have hb : 1 ≤ b.natAbs := by omega
  have h5 : q.natAbs ≤ a.natAbs + 1 := by
    have h6 : q.natAbs * b.natAbs ≤ (a.natAbs + 1) * b.natAbs := by
      rw [Nat.add_mul, Nat.one_mul]
      have := Nat.le_mul_of_pos_right a.natAbs hb
      omega
    exact Nat.le_of_mul_le_mul_right h6 hb
  have h7 : (q * e).natAbs ≤ (X + 1) * 10 ^ 9 := by
    rw [Int.natAbs_mul]
    exact Nat.mul_le_mul (by omega) h4
  have h8 : (X + 1) * 10 ^ 9 ≤ X * (2 * 10 ^ 9) := by
    rw [show X * (2 * 10 ^ 9) = (X * 2) * 10 ^ 9 by rw [Nat.mul_assoc]]
    exact Nat.mul_le_mul_right _ (by omega)
  have h9 : X + X * (2 * 10 ^ 9) ≤ X * 10 ^ 10 := by
    have e : X * 10 ^ 10 = X * (2 * 10 ^ 9) + X * (8 * 10 ^ 9) := by rw [← Nat.mul_add]
    rw [e]
    have : X ≤ X * (8 * 10 ^ 9) := Nat.le_mul_of_pos_right _ (by decide)
    omega
  have h10 : X + 1 ≤ X * (2 * 10 ^ 9) := by
    have : X * 2 ≤ X * (2 * 10 ^ 9) := Nat.mul_le_mul_left _ (by decide)
    omega
  obtain ⟨Y, hY⟩ : ∃ Y, X * (2 * 10 ^ 9) = Y := ⟨_, rfl⟩
  obtain ⟨Z, hZ⟩ : ∃ Z, X * 10 ^ 10 = Z := ⟨_, rfl⟩
  rw [hY] at h8 h9 h10
  rw [hZ] at h9 ⊢
  clear h4 hY hZ
  exact ⟨by omega, by omega, by omega⟩
theorem reF_bound {n : Nat} {rows : List (List Int)} {p : Nat → Nat} {r : List Int} (hp : Pvs n 0 rows p) (hr : ∀ j, (r.getD j 0).natAbs ≤ 10 ^ 9) (he : ∀ i, i < rows.length → ∀ j, (ent rows i j).natAbs ≤ 10 ^ 9) :
    ∀ k, k ≤ rows.length → ∀ j, (reF rows p r k j).natAbs ≤ 10 ^ (9 + 10 * k)
  | 0, _, j => hr j
  | k + 1, hk, j => by
    have ih := reF_bound hp hr he k (by omega)
    have hpos := hp.pos k (by omega)
    rw [pow_ten_step]
    exact (red_step (Nat.pow_pos (by decide)) (by omega) (ih j) (ih (p k)) (he k (by omega) j)).2.2
/-- The multiples are not great. -/
theorem reF_quo {n : Nat} {rows : List (List Int)} {p : Nat → Nat} {r : List Int} (hp : Pvs n 0 rows p) (hr : ∀ j, (r.getD j 0).natAbs ≤ 10 ^ 9) (he : ∀ i, i < rows.length → ∀ j, (ent rows i j).natAbs ≤ 10 ^ 9)
    (k : Nat) (hk : k < rows.length) (j : Nat) : (Int.fdiv (reF rows p r k (p k)) (ent rows k (p k))).natAbs ≤ 10 ^ (9 + 10 * (k + 1)) ∧ (Int.fdiv (reF rows p r k (p k)) (ent rows k (p k)) * ent rows k j).natAbs ≤ 10 ^ (9 + 10 * (k + 1)) := by
  have ih := reF_bound hp hr he k (by omega)
  have hpos := hp.pos k (by omega)
  rw [pow_ten_step]
  have hne : ent rows k (p k) ≠ 0 := by omega
  have := red_step (Nat.pow_pos (by decide)) hne (ih j) (ih (p k)) (he k hk j)
  exact ⟨this.1, this.2.1⟩
theorem reF_red {n : Nat} {rows : List (List Int)} {p : Nat → Nat} (r : List Int) (hp : Pvs n 0 rows p) : ∀ k, k ≤ rows.length → ∀ i, i < k → 0 ≤ reF rows p r k (p i) ∧ reF rows p r k (p i) < ent rows i (p i)
  | 0, _, i, hi => absurd hi (Nat.not_lt_zero _)
  | k + 1, hk, i, hi => by
    show 0 ≤ reF rows p r k (p i) - Int.fdiv (reF rows p r k (p k)) (ent rows k (p k)) * ent rows k (p i) ∧ reF rows p r k (p i) - Int.fdiv (reF rows p r k (p k)) (ent rows k (p k)) * ent rows k (p i) < _
    by_cases e : i = k
    · subst e
      rw [fdiv_rem]
      exact fmod_pos (hp.pos i (by omega))
    · rw [hp.z k (by omega) (p i) (hp.up i k (by omega) (by omega)), Int.mul_zero, Int.sub_zero]
      exact reF_red r hp k (by omega) i (by omega)
theorem reF_sp {rows : List (List Int)} {p : Nat → Nat} (r : List Int) : ∀ k, k ≤ rows.length → Sp (vfs rows) fun j => vf r j - reF rows p r k j
  | 0, _ => by
    have e : (fun j => vf r j - reF rows p r 0 j) = vz := by funext j; show r.getD j 0 - r.getD j 0 = 0; omega
    rw [e]; exact sp_zero _
  | k + 1, hk => by
    have h1 := sp_lin (Int.fdiv (reF rows p r k (p k)) (ent rows k (p k))) _ _ _ (reF_sp (p := p) r k (by omega)) (sp_row (lrow_mem (show k < rows.length by omega)))
    have e : (fun j => vf r j - reF rows p r k j + Int.fdiv (reF rows p r k (p k)) (ent rows k (p k)) * vf (rows.getD k []) j) = fun j => vf r j - reF rows p r (k + 1) j := by
      funext j
      show _ = vf r j - (reF rows p r k j - Int.fdiv (reF rows p r k (p k)) (ent rows k (p k)) * vf (rows.getD k []) j)
      omega
    rwa [e] at h1
theorem reF_out {n : Nat} {rows : List (List Int)} {p : Nat → Nat} {r : List Int} (hr : Rect n rows) (hl : r.length = n) {j : Nat} (hj : n ≤ j) : ∀ k, k ≤ rows.length → reF rows p r k j = 0
  | 0, _ => vf_supp hl j hj
  | k + 1, hk => by
    have h1 := reF_out (p := p) hr hl hj k (by omega)
    have h2 : ent rows k j = 0 := vf_supp (rect_len hr (by omega)) j hj
    show reF rows p r k j - _ * ent rows k j = 0
    rw [h1, h2]; omega
/-- A row belongs to the lattice exactly if nothing is left. -/
theorem reF_iff {n : Nat} {rows : List (List Int)} {p : Nat → Nat} {r : List Int} (hh : IsHnf rows) (hp : Pvs n 0 rows p) (hr : Rect n rows) (hl : r.length = n) : (∀ j, j < n → reF rows p r rows.length j = 0) ↔ Sp (vfs rows) (vf r) := by
  have h1 := reF_sp (p := p) r rows.length (Nat.le_refl _)
  constructor
  · intro h
    have e : (fun j => vf r j - reF rows p r rows.length j) = vf r := by
      funext j
      rcases Nat.lt_or_ge j n with hj | hj
      · rw [h j hj]; omega
      · rw [reF_out (p := p) hr hl hj _ (Nat.le_refl _)]; omega
    rwa [e] at h1
  · intro h j _
    have h2 := sp_sub h h1
    have e : (fun i => vf r i - (vf r i - reF rows p r rows.length i)) = reF rows p r rows.length := by funext i; omega
    rw [e] at h2
    refine congrFun (ech_zero hh.e h2 fun s hs q hq => ?_) j
    obtain ⟨t, ht, rfl⟩ := List.mem_map.1 hs
    obtain ⟨i, hi, rfl⟩ := mem_lrow ht
    have hpos := hp.pos i hi
    have hq2 : q = p i := piv_one hq ⟨fun j hj => hp.z i hi j hj, by show ent rows i (p i) ≠ 0; omega⟩
    subst hq2
    have h3 := reF_red r hp rows.length (Nat.le_refl _) i hi
    show -(ent rows i (p i)) < _ ∧ _ < ent rows i (p i)
    omega

end Go.Proofs.YtepicfdhphiiaaaGreatDoor

namespace Go.Proofs.YtepicfdhphiiaaaGreatDoor
open Go.RowKit Go.Shelf
attribute [local go_sem] Oper.semAt_some
theorem wpListIn_append_one{F:Fence}{nF:Nat}{P:Program}{W:World}{ops:Array Oper}{rest:List Oper}{o:Oper}{a:Act}{Q:Exit→Act→World→Prop}(hgd:o.guard=none)(s x:Operand)(t:TypeId)
  (ho:o.op = .call { callee := .builtin .append,args := #[s,x],argTypes := #[t,t] })
  {e:TypeId} {z:Value} {bytes:Nat} (E:ElemOf P t e z 1 bytes)
  (v u:Value) (hs:a.eval s=v) (hx:a.eval x = .slice (some ⟨W.heap.size,0,none⟩) 1 1)
  {base n:Nat} {xs:List Value} (hown:W.ownsRow base e 1 v n xs) (hbase:base≤W.heap.size)
  (h1:u.oneCell'=true) (h63:n+1≤4611686018427387904) (hbytes:(n+1)*bytes≤140737488355328)
  (h:∀ v' w',w'.ownsRow base e 1 v' (n+1) (xs++[u])→(W.alloc (.cells #[u] e)).grownBy w' v.ownBlock→(v'.ownBlock=v.ownBlock∨v'.ownBlock=some (W.alloc (.cells #[u] e)).heap.size)→wpListIn F nF P ops Q rest (a.put o.dst v') w') :
  wpListIn F nF P ops Q (o::rest) a (W.alloc (.cells #[u] e)):=by
 obtain⟨i,hi,hz,hsize,hby⟩:=E.info;exact wpListIn_append_own_at _ hgd s x t ho base e i z 1 bytes E.ht hi hz hsize hby E.hzs E.pos v n xs hs (hown.alloc _) ⟨W.heap.size,0,none⟩ 1 1 [u] hx rfl (cell_one_new W u e) (fun y hy=>by obtain rfl:=List.mem_singleton.1 hy;exact h1) (by unfold maxLen;omega) hbytes (by simp;omega) fun v' w' h2 h3 _ h5=>h v' w' h2 h3 h5
theorem bet_ret{X:World}{n₀ s1 s2:Nat}{x6 x7:Value}{t6 t7:TypeId}(v6 v7:Value)(c6:X.heap[s1]?=some (.cells #[x6] t6 (0,0)))(c7:X.heap[s2]?=some (.cells #[x7] t7 (0,0)))(hne:s1≠s2)(h1:n₀≤s1)(h2:n₀≤s2):
  ((X.setCell ⟨s1,0,none⟩ v6).setCell ⟨s2,0,none⟩ v7).heap[s1]?=some (.cells #[v6] t6 (0,0))∧((X.setCell ⟨s1,0,none⟩ v6).setCell ⟨s2,0,none⟩ v7).heap[s2]?=some (.cells #[v7] t7 (0,0)) ∧
   (∀ i,i≠s1→i≠s2→((X.setCell ⟨s1,0,none⟩ v6).setCell ⟨s2,0,none⟩ v7).heap[i]?=X.heap[i]?)∧Below n₀ X ((X.setCell ⟨s1,0,none⟩ v6).setCell ⟨s2,0,none⟩ v7):=by
 have b6:Boxed X s1 t6 x6:=c6;have b7:Boxed X s2 t7 x7:=c7;refine⟨(b6.set v6).kept (grownBy_setCell' _ _ _) (fun e=>hne (Option.some.inj e)),(b7.kept (grownBy_setCell' _ _ _) (fun e=>hne (Option.some.inj e).symm)).set v7,fun i h3 h4=>?_,((Below.refl _ X).setCell (p:=⟨s1,0,none⟩) h1 v6).setCell (p:=⟨s2,0,none⟩) h2 v7⟩;rw[Below.heap_setCell _ _ _ i h4,Below.heap_setCell _ _ _ i h3]
end Go.Proofs.YtepicfdhphiiaaaGreatDoor

namespace Go.Proofs.YtepicfdhphiiaaaGreatDoor
open Go.RowKit Go.Shelf
attribute [local go_sem] Oper.semAt_some
def RedE (w w':World) (n:Nat) (F:Nat→Int) (e:Ending):Prop :=
 ∃ gr cr v,e = .returned (.tuple #[.slice (some ⟨gr,0,none⟩) n cr,v])∧RowS w' gr 0 n F∧Below w.heap.size w w'
structure TwoW (p1 p2:Addr) (v1 v2:Value) where
 w:World
 h1:w.cell? p1=some v1
 h2:w.cell? p2=some v2
def redAct (W n:Nat) (a:Option Addr) (m c:Nat) (ar:Option Addr) (cr0 g c2 b1:Nat) (pk gx dx:Nat):Act :=
 { tmps := #[.agg #[.int .i64 n,.slice a m c],.slice ar n cr0,.pointer (some ⟨W,0,none⟩),undef,.pointer (some ⟨W+1,0,none⟩),.pointer (some ⟨W+1+1,0,none⟩),.int .i64 pk,.slice (some ⟨gx,0,none⟩) n dx,undef,undef,undef,.slice ar n cr0,.slice (some ⟨g,0,none⟩) n c2,.agg #[.int .i64 n,.slice a m c],
   .func (.func 168) #[] #[.pointer (some ⟨b1,0,none⟩)],.int .i64 pk,.slice (some ⟨gx,0,none⟩) n dx,undef,undef,undef,undef,undef,undef,undef,undef,undef,undef,undef,undef,undef,undef,undef,undef,undef,undef,undef,undef,undef,undef,undef],defers:=[] }
theorem reduce_any(w:World)(a ar:Option Addr)(c cr0 n:Nat)(rows:List (List Int))(r:List Int)(p:Nat→Nat)(hr:RdM w a rows)(hx:Rd w ar (ints r))(hrl:r.length=n)(hri:I64s r)(hrect:Rect n rows)(hi:∀ r∈rows,I64s r)(hp:Pvs n 0 rows p)(hn0:0<n)(hn:n≤12)(hl:rows.length≤12)
  (hrb:∀ j,(r.getD j 0).natAbs≤10^9) (he:∀ i,i<rows.length→∀ j,(ent rows i j).natAbs≤10^9) (L:Laid w) :
  Calls Tryz.prog 110 #[latV n a rows.length c,.slice ar n cr0] w fun e w'=>RedE w w' n (reF rows p r rows.length) e:=by
 have HLo:=hd_ (fun W (hW:Below w.heap.size w W)=>by
  have:=longOf_any W ar cr0 r (hx.below hW nr_) hri (by omega) (by omega) (L.below hW)
  rw[hrl] at this;exact this)
 have K0:=heap_at w #[.int .i64 n,.slice a rows.length c] 67 _ rfl;unfold latV;refine(callsIn_wide (n:=3)).1 ?_;refine callsIn_of_wp_marks Tryz.func110 rfl trivial ?_ rfl;simp only[Tryz.ntmps110,List.size_toArray,List.length_cons,List.length_nil,Nat.reduceAdd,Nat.reduceSub,Array.replicate_succ,Array.replicate_zero,List.push_toArray,List.append_toArray,List.nil_append,List.cons_append];obtain⟨w0,hw0⟩:∃ w0,((w.alloc (.cells #[.int .i64 n,.slice a rows.length c] 67)).alloc (.cells #[.slice none 0 0] 113)).alloc (.cells #[.slice none 0 0] 113)=w0:=⟨_,rfl⟩;have P2:w0.heap[w.heap.size]?=some (.cells #[.int .i64 n,.slice a rows.length c] 67 (0,0)):=by rw[← hw0];exact heap_old (heap_old K0 _) _
 have P4:w0.heap[w.heap.size+1]?=some (.cells #[.slice none 0 0] 113 (0,0)):=by rw[← hw0];exact heap_old (heap_at _ _ _ _ (by simp)) _
 have P5:w0.heap[w.heap.size+1+1]?=some (.cells #[.slice none 0 0] 113 (0,0)):=by rw[← hw0];exact heap_at _ _ _ _ (by simp)
 have B0:Hid (Below w.heap.size w w0):=by rw[← hw0];exact(((Below.refl _ w).alloc nr_ _).alloc (by simp) _).alloc (by simp;omega) _
 have hs0:w0.heap.size=w.heap.size+3:=by rw[← hw0];simp
 have Q2:=hd_ P2;have Q4:=hd_ P4;have Q5:=hd_ P5;have HS0:=hd_ hs0;clear P2 P4 P5 K0 hs0
 gi_wp2_with fail
 refine⟨trivial,?_⟩;refine(callsIn_wide.2 (HLo.out w0 B0.out)).mono ?_;rintro e w1 ⟨a2,c2,rfl,hown,hb1⟩;obtain⟨g,rfl,hg1,hg2,hg3⟩:=own_rowS hown hn0 hrl;have M4:=hk_ Q4 hb1;have M5:=hk_ Q5 hb1;have M2:=hk_ Q2 hb1;have B1:=bt_ B0 hb1;have R1:=hd_ hg3;have G1:=hd_ hg1;have S1:=hd_ hb1.size;obtain⟨k4,f4⟩:=one_cell M4.out;obtain⟨k2a,k2b,-,-⟩:=obj_two M2.out;clear hown hb1 hg1 hg2 hg3 HLo Q2 Q4 Q5 hw0;have k2a':(w1.setCell ⟨w.heap.size+1,0,none⟩ (.slice (some ⟨g,0,none⟩) n c2)).cell? ⟨w.heap.size,0,none⟩=some (.int .i64 n):=by rw[World.cell?_setCell_other _ _ _ _ (by simp)];exact k2a
 have k2b':(w1.setCell ⟨w.heap.size+1,0,none⟩ (.slice (some ⟨g,0,none⟩) n c2)).cell? ⟨w.heap.size,1,none⟩=some (.slice a rows.length c):=by rw[World.cell?_setCell_other _ _ _ _ (by simp)];exact k2b
 gi_wp2_with fail
 refine⟨trivial,?_⟩;refine(callsIn_wide.2 (pivots_any _ n a rows.length c)).mono ?_;rintro e ws ⟨rfl,hws⟩;simp only[World.size_setCell]
 gi_wp2_with fail
 obtain⟨D,hD⟩:∃ D,ws.heap.size=D:=⟨_,rfl⟩;have hDs:D=w1.heap.size+1:=by rw[← hD,hws];simp
 have hb1:ws.heap[w1.heap.size]?=some (.cells #[.int .i64 n,.slice a rows.length c] 67 (0,0)):=by rw[hws];exact heap_at _ _ _ _ (by simp)
 have G:Below w1.heap.size (w1.setCell ⟨w.heap.size+1,0,none⟩ (.slice (some ⟨g,0,none⟩) n c2)) ws:=by rw[hws];exact(Below.refl _ _).alloc (by simp) _
 have hs1:=S1.out;have hs0:=HS0.out;have hg0:=G1.out;have hgl:=R1.out.lt;have hne4:g≠w.heap.size+1:=by omega
 have N4:ws.heap[w.heap.size+1]?=some (.cells #[.slice (some ⟨g,0,none⟩) n c2] 113 (0,0)):=heap_kept (Boxed.set (t:=113) _ M4.out) G (by simp);have N5:ws.heap[w.heap.size+1+1]?=some (.cells #[.slice none 0 0] 113 (0,0)):=heap_kept ((Below.heap_setCell _ _ _ _ (by show w.heap.size+1+1≠w.heap.size+1;omega)).trans M5.out) G (by simp);have NR:RowS ws g 0 n (reF rows p r 0):=(R1.out.setOther hne4 _).below G (by simp);have Bs:Below w.heap.size w ws:=(B1.out.setCell (p:=⟨w.heap.size+1,0,none⟩) (Nat.le_succ _) _).trans (G.mono (by omega));have H0:RedI w D g c2 n (reF rows p r 0) 0 ws none 0 []:=⟨N4,N5,NR,World.ownsRow_nil _ _ _ _,fun g hg=>by simp[Value.ownBlock] at hg,Bs⟩;have HDv:=hd_ (fun k (hk:k<rows.length) W (hW:Below w.heap.size w W)=>by
  have h1:=reF_bound hp hrb he k (by omega) (p k);have hpos:=hp.pos k hk;have h2:=he k hk (p k);have h3:10^(9+10*k)≤LimN:=lim_ten (by omega);exact divf_any W (reF rows p r k (p k)) (ent rows k (p k)) (lim_z (Nat.le_trans h1 h3)) (lim_z (Nat.le_trans h2 (lim_ten (by decide)))) (by omega) (lim_num (Nat.add_le_add (Nat.le_trans h1 h3) lim_one)) (L.below hW))
 have HLs:=hd_ (fun k (hk:k<rows.length) W (hW:Below w.heap.size w W) gx dx (hR:RowS W g 0 n (reF rows p r k)) (hX:RowS W gx 0 n (ent rows k)) (hne:gx≠g) =>
  less_any W w.heap.size g 0 c2 gx 0 dx n (Int.fdiv (reF rows p r k (p k)) (ent rows k (p k))) (reF rows p r k) (ent rows k) hR hX hne (by omega) (by omega)
   (Nat.le_trans (reF_quo hp hrb he k hk 0).1 (lim_ten (by omega))) (fun j _=>Nat.le_trans (reF_quo hp hrb he k hk j).2 (lim_ten (by omega))) (fun j _=>Nat.le_trans (reF_bound hp hrb he k (by omega) j) (lim_ten (by omega))) (fun j _=>Nat.le_trans (he k hk j) (lim_ten (by decide)))
   (fun W2 hW2=>L.below (hW.trans hW2)))
 have HFs:Hid (∀ k,(fun j=>reF rows p r k j-Int.fdiv (reF rows p r k (p k)) (ent rows k (p k))*ent rows k j)=reF rows p r (k+1)):=fun k=>rfl
 have HPl:=hd_ (fun k (hk:k<rows.length)=>hp.lt k hk);have HgD:Hid (g<D∧w.heap.size+3≤D∧w.heap.size+3≤g∧D=w1.heap.size+1∧g<w1.heap.size):=⟨by omega,by omega,by omega,hDs,hgl⟩;refine range_pivots (n':=3) (by decide) rows a c n p w ws Bs hr hrect hi hp hn0 (by omega) (by omega) L w1.heap.size hb1 rfl
  (fun k X=>k≤rows.length∧∃ b d vs,RedI w D g c2 n (reF rows p r k) k X b d vs) ?hI ⟨Nat.zero_le _,none,0,[],H0⟩
  (fun k gx dx=>redAct w.heap.size n a rows.length c ar cr0 g c2 w1.heap.size (p k) gx dx) ?assign ?body ?done
 case hI =>
  rintro k A B r ⟨hk,b,d,vs,H⟩ hg hr;rw[hD] at hr;exact⟨hk,b,d,vs,H.kept hg hr HgD.out.2.1 HgD.out.1⟩
 case assign =>
  intro k gx dx W K hk hK;unfold redAct at hK;generalize p k=pk at *
  gi_wp2
  exact hK
 case body =>
  rintro k X0 X gx dx hk ⟨hkm,b,d,vs,H0⟩ hbX hsX hsz hos hta hou hblk hgx hRx;rw[hD] at hsX hblk ⊢;have H:RedI w D g c2 n (reF rows p r k) k X b d vs:=H0.kept (r:=D+1) ⟨hos,hta,hou,hsz,fun i hi hne=>hblk i hi (fun e=>hne (by rw[e]))⟩ ⟨by omega,Nat.le_refl _⟩ HgD.out.2.1 HgD.out.1;obtain⟨k4,f4⟩:=one_cell H.c4;have xr:=H.row.c (p k) (HPl.out k hk);have xx:=hRx.c (p k) (HPl.out k hk);rw[Nat.zero_add] at xr xx;have hpn:(p k:Int)<n:=by have:=HPl.out k hk;omega
  have hgxD:D+1<gx:=by omega
  have HDk:=hd_ (HDv.out k hk);have HLk:=hd_ (HLs.out k hk);have HFk:=hd_ (HFs.out k);have HH:=hd_ H;have HRx:=hd_ hRx;have HX:=hd_ hgxD;have HK:=hd_ hk;have HgX:=hd_ (show gx<X.heap.size from hRx.lt);have HO:=hd_ H.own;have Hbel:=hd_ H.bel;unfold redAct;clear hb1 G Bs H0 hbX hsX hsz hos hta hou hblk hgx hRx H NR N4 N5 hws hr hx hrl hri hrect hi hp hrb he L HDv HLs HFs HPl k2a k2b k2a' k2b' f4 M2 M4 M5 B1 R1 G1 S1 HS0 B0 hs1 hs0 hg0 hgl hne4 hgxD;generalize reF rows p r (k+1)=F2 at *;generalize reF rows p r k=F at *;generalize ent rows k=E at *;generalize p k=pk at *;generalize hq:Int.fdiv (F pk) (E pk)=q at *;generalize Int.fmod (F pk) (E pk)=rm at *;clear hq;have hnon:Nonempty (NWm X):=⟨⟨X,Below.refl _ _⟩⟩;have q1:=NWm.cell k4;have q2:=NWm.cell xr;have q3:=NWm.cell xx;have I:Hid (Below X.heap.size X X.drew):=(Below.refl _ _).drew
  gi_wp2_with fail
  clear k4 xr xx;refine RW.wpIn_region_readers 8 [(1,0),(2,1),(2,2),(1,3),(2,4),(2,5),(2,6),(1,7),(0,8),(2,9),(2,10),(2,11),(2,12),(0,13),(0,14),(0,15)] (fun w'=>∃ p:NWm X,w'=p.w) (by kernel_rfl) (by kernel_rfl) ?_ ?_
  ·exact⟨⟨_,I.out⟩,rfl⟩
  iterate 8 ((first | refine RW.walkR_any ?_ | refine RW.walkR_read ?_);simp only[dsc_,dz_,tsc_,tz_];go_big_quiet_step (fail);refine wq_ ?_)
  clear hnon q1 q2 q3;refine wm_ rfl ?_;go_wp2_with fail;refine cm_ (HDk.out _ (bu_ Hbel I.out)) ?_;rintro e w5 ⟨rfl,hbx⟩;have I5:Hid (Below X.heap.size X w5):=I.out.trans (hbx.mono I.out.size);clear hbx I HDk;go_wp2_with fail;iterate 4 ((first | refine RW.walkR_any ?_ | refine RW.walkR_read ?_);simp only[dsc_,dz_,tsc_,tz_];go_big_quiet_step (fail);refine wq_ ?_)
  iterate 3 (refine wm_ rfl ?_;go_wp2_with fail)
  simp only[RW.walkR];obtain⟨k4,f4⟩:=one_cell (heap_kept HH.out.c4 I5.out nr_);have HB5:=bt_ Hbel I5.out;have R5:=HH.out.row.below I5.out nr_;have HLc:=hd_ (HLk.out w5 HB5.out gx dx R5 (HRx.out.below I5.out nr_) (by have:=HX.out;have:=HgD.out;omega));clear R5 HLk
  gi_wp2_with fail
  refine⟨trivial,?_⟩;refine(CallsIn.inRound _ (callsIn_wide.2 HLc.out)).mono ?_;rintro e w6 ⟨rfl,hR6,hU6,hb6⟩;have hgX:=HH.out.row.lt;have hgD:=HgD.out;have hc5:w6.heap[w.heap.size+1+1]?=some (.cells #[.slice b k d] 113 (0,0)):=(hU6.o _ (by have:=I5.out.size;have:=(Array.getElem?_eq_some_iff.1 HH.out.c5).1;omega) (by omega)).trans (heap_kept HH.out.c5 I5.out nr_);have hc4:w6.heap[w.heap.size+1]?=some (.cells #[.slice (some ⟨g,0,none⟩) n c2] 113 (0,0)):=(hU6.o _ (by have:=I5.out.size;have:=(Array.getElem?_eq_some_iff.1 HH.out.c4).1;omega) (by omega)).trans (heap_kept HH.out.c4 I5.out nr_);have hgr6:X.grownBy w6 (some g):=⟨hb6.os.trans I5.out.os,hb6.tape.trans I5.out.tape,hb6.output.trans I5.out.output,Nat.le_trans I5.out.size hU6.sz,fun i hi hne=>(hU6.o i (Nat.lt_of_lt_of_le hi I5.out.size) (fun e=>hne (by rw[e]))).trans (I5.out.block i hi)⟩;have hO6:=HO.out.kept hgr6 (.inr fun e=>by have:=HH.out.far g e;omega);have hB6:Below w.heap.size w w6:=HB5.out.trans hb6;have hsz6:w.heap.size≤w6.heap.size:=hB6.size;have HR6:=hd_ hR6;have HC5:=hd_ hc5;have HC4:=hd_ hc4;have HG6:=hd_ hgr6;have HB6:=hd_ hB6;obtain⟨k5,f5⟩:=one_cell hc5;generalize hsq:itx q=sq at *;clear hR6 hU6 hb6 hc5 hc4 hgr6 hB6 hgX hgD HLc k4 f4 HB5 hsq
  gi_wp2_with (gi_at_builtin;refine wpListIn_append_one rfl (.tmp 34) (.tmp 36) 113 rfl elL _ (.string sq) rfl rfl hO6 hsz6 rfl (by have:=HK.out;omega) (by have:=HK.out;omega) ?_)
  intro v' w7 hown' hg' hat';obtain⟨b3,d3,rfl⟩:=own_form hown';have hX6:=HG6.out.size;have hgX:=HgX.out;have hgxD:=HX.out;have hgD:=HgD.out;have hw7:∀ i,i<X.heap.size→i≤D+1→w7.heap[i]?=w6.heap[i]?:=fun i hi hD2=>(hg'.block i (by rw[World.size_alloc];omega) (fun e=>by have:=HH.out.far i e.symm;omega)).trans (Below.heap_alloc w6 _ i (by omega))
  have hc4X:=(Array.getElem?_eq_some_iff.1 HH.out.c4).1;have hc5X:=(Array.getElem?_eq_some_iff.1 HH.out.c5).1;have hgr:=HH.out.row.lt;have hc5:w7.heap[w.heap.size+1+1]?=some (.cells #[.slice b k d] 113 (0,0)):=(hw7 _ hc5X (by omega)).trans HC5.out;have hc4:w7.heap[w.heap.size+1]?=some (.cells #[.slice (some ⟨g,0,none⟩) n c2] 113 (0,0)):=(hw7 _ hc4X (by omega)).trans HC4.out;have hs7:w6.heap.size≤w7.heap.size:=by have:=hg'.size;rw[World.size_alloc] at this;omega
  have hR7:RowS w7 g 0 n F2:=(HR6.out.heap hs7 (hw7 g hgr (by omega))).congr fun j _=>congrFun HFk.out j
  have hfar:∀ g',(Value.slice b3 (k+1) d3).ownBlock=some g'→D+1<g':=fun g' e=>by
   rcases hat' with h|h
   ·rw[h] at e;exact HH.out.far g' e
   ·rw[h] at e;have:=Option.some.inj e
    omega
  have hB7:Below w.heap.size w w7:=(HB6.out.alloc HB6.out.size _).grown hg' (by rw[World.size_alloc];have:=HB6.out.size;omega) (fun kk e=>by have:=HH.out.far kk e;omega);have HC5:=hd_ hc5;have HC4:=hd_ hc4;have HR7:=hd_ hR7;have HFar:=hd_ hfar;have HB7:=hd_ hB7;have HO7:=hd_ hown';have HW7:=hd_ hw7;have HS7:=hd_ hs7;obtain⟨k5,f5⟩:=one_cell hc5;clear hown' hg' hat' hX6 hgX hgxD hgD hw7 hc4X hc5X hgr hc5 hc4 hs7 hR7 hfar hB7 hO6 HO
  gi_wp2_with fail
  have hgD:=HgD.out;have hx:=HX.out;have hgX:=HgX.out;have hset:∀ i,i≠w.heap.size+1+1→(w7.setCell ⟨w.heap.size+1+1,0,none⟩ (.slice b3 (k+1) d3)).heap[i]?=w7.heap[i]?:=fun i hi=>Below.heap_setCell _ _ _ i hi
  have hB8:Below w.heap.size X (w7.setCell ⟨w.heap.size+1+1,0,none⟩ (.slice b3 (k+1) d3)):=by
   refine⟨HB7.out.os.trans Hbel.out.os.symm,HB7.out.tape.trans Hbel.out.tape.symm,HB7.out.output.trans Hbel.out.output.symm,by rw[World.size_setCell];have:=HG6.out.size;have:=HS7.out;omega,fun i hi=>?_⟩;rw[hset i (by omega),HB7.out.block i hi,Hbel.out.block i hi]
  refine⟨⟨HK.out,b3,d3,vs++[.string sq],⟨(hset _ (by omega)).trans HC4.out,Boxed.set (t:=113) _ HC5.out,HR7.out.setOther (by omega) _,HO7.out.kept (grownBy_setCell' _ _ _) (.inr fun e=>by have:=HFar.out _ e;omega),fun g' e=>by have:=HFar.out g' e;omega,Hbel.out.trans hB8⟩⟩,hB8,fun i hi=>?_⟩;simp only[List.mem_cons,List.not_mem_nil,or_false] at hi;have hi1:i<X.heap.size∧i≤D+1∧i≠w.heap.size+1+1∧i≠g:=by omega
  exact(hset i hi1.2.2.1).trans ((HW7.out i hi1.1 hi1.2.1).trans (HG6.out.block i hi1.1 (fun e=>hi1.2.2.2 (Option.some.inj e))))
 case done =>
  rintro X ⟨hk,b,d,vs,H⟩ hK;rw[hD] at hK;obtain⟨k4,f4⟩:=one_cell H.c4;obtain⟨k5,f5⟩:=one_cell H.c5;have HH:=hd_ H;have HKk:=hd_ hK;clear hb1 G Bs H0 H NR N4 N5 hws hr hx hrl hri hrect hi hp hrb he L HDv HLs HFs HPl k2a k2b k2a' k2b' M2 M4 M5 B1 R1 G1 S1 HS0 B0 hs1 hs0 hg0 hgl hne4 hK hk;obtain⟨F,hF⟩:∃ F,reF rows p r rows.length=F:=⟨_,rfl⟩;have HFe:=hd_ hF;rw[hF] at HH;clear hF;obtain⟨m,hm⟩:∃ m,rows.length=m:=⟨_,rfl⟩;rw[hm] at HH k5 ⊢;clear hm;have n2:Nonempty (TwoW ⟨w.heap.size+1,0,none⟩ ⟨w.heap.size+1+1,0,none⟩ (.slice (some ⟨g,0,none⟩) n c2) (.slice b m d)):=⟨⟨X,k4,k5⟩⟩;have q1:∀ p:TwoW ⟨w.heap.size+1,0,none⟩ ⟨w.heap.size+1+1,0,none⟩ (.slice (some ⟨g,0,none⟩) n c2) (.slice b m d),p.w.cell? ⟨w.heap.size+1,0,none⟩=some (.slice (some ⟨g,0,none⟩) n c2):=fun p=>p.h1
  have q2:∀ p:TwoW ⟨w.heap.size+1,0,none⟩ ⟨w.heap.size+1+1,0,none⟩ (.slice (some ⟨g,0,none⟩) n c2) (.slice b m d),p.w.cell? ⟨w.heap.size+1+1,0,none⟩=some (.slice b m d):=fun p=>p.h2
  have k4d:X.drew.cell? ⟨w.heap.size+1,0,none⟩=some (.slice (some ⟨g,0,none⟩) n c2):=k4;have k5d:X.drew.cell? ⟨w.heap.size+1+1,0,none⟩=some (.slice b m d):=k5;have f4d:X.drew.frozen? ⟨w.heap.size+1,0,none⟩=false:=f4;have f5d:X.drew.frozen? ⟨w.heap.size+1+1,0,none⟩=false:=f5;have k5s:(X.setCell ⟨w.heap.size+1,0,none⟩ (.slice (some ⟨g,0,none⟩) n c2)).drew.cell? ⟨w.heap.size+1+1,0,none⟩=some (.slice b m d):=by
   show (X.setCell ⟨w.heap.size+1,0,none⟩ (.slice (some ⟨g,0,none⟩) n c2)).cell? _=_
   rw[World.cell?_setCell_other _ _ _ _ (by simp)];exact k5
  have k4s:(X.setCell ⟨w.heap.size+1,0,none⟩ (.slice (some ⟨g,0,none⟩) n c2)).drew.cell? ⟨w.heap.size+1,0,none⟩=some (.slice (some ⟨g,0,none⟩) n c2):=World.cell?_setCell_same _ _ _ k4;have f5s:(X.setCell ⟨w.heap.size+1,0,none⟩ (.slice (some ⟨g,0,none⟩) n c2)).drew.frozen? ⟨w.heap.size+1+1,0,none⟩=false:=by
   show (X.setCell ⟨w.heap.size+1,0,none⟩ (.slice (some ⟨g,0,none⟩) n c2)).frozen? _=_
   rw[World.frozen?_setCell];exact f5
  gi_wp2_with fail
  refine wpIn_wide.2 ?_;refine RW.wp_region_readers 3 [(1,0),(1,1),(0,2),(0,3)] (fun w'=>∃ p:TwoW ⟨w.heap.size+1,0,none⟩ ⟨w.heap.size+1+1,0,none⟩ (.slice (some ⟨g,0,none⟩) n c2) (.slice b m d),w'=p.w) (by kernel_rfl) (by kernel_rfl) ?_ ?_
  ·exact⟨⟨_,k4d,k5d⟩,rfl⟩
  iterate 2 ((first | refine RW.walkR_any ?_ | refine RW.walkR_read ?_);simp only[dsc_,dz_,tsc_,tz_];go_big_quiet_step (fail);refine wq_ ?_)
  clear n2 q1 q2;refine wm_ rfl ?_;go_wp2_with fail;refine⟨⟨⟨_,k4s,k5s⟩,rfl⟩,?_⟩;refine wm_ rfl ?_;go_wp2_with fail;simp only[RW.walkR];clear k4d k5d f4d f5d k4s k5s f5s;obtain⟨y4,y5,yo,yb⟩:=bet_ret (X:=X) (n₀:=w.heap.size) (.slice (some ⟨g,0,none⟩) n c2) (.slice b m d) HH.out.c4 HH.out.c5 (by omega) (by omega) (by omega)
  gi_wp2_with fail
  have hgD:=HgD.out;have hKy:=(yo D (by omega) (by omega)).trans HKk.out;have hRy:RowS ((X.setCell ⟨w.heap.size+1,0,none⟩ (.slice (some ⟨g,0,none⟩) n c2)).setCell ⟨w.heap.size+1+1,0,none⟩ (.slice b m d)) g 0 n F:=(HH.out.row.setOther (by omega) _).setOther (by omega) _;generalize (X.setCell ⟨w.heap.size+1,0,none⟩ (.slice (some ⟨g,0,none⟩) n c2)).setCell ⟨w.heap.size+1+1,0,none⟩ (.slice b m d)=Y at *;have y4d:Y.drew.heap[w.heap.size+1]?=some (.cells #[.slice (some ⟨g,0,none⟩) n c2] 113 (0,0)):=y4;have y5d:Y.drew.heap[w.heap.size+1+1]?=some (.cells #[.slice b m d] 113 (0,0)):=y5;have hKyd:Y.drew.heap[D]?=some (.deferred (some [])):=hKy;have hRyd:RowS Y.drew g 0 n F:=hRy.heap nr_ rfl;have ybd:Below w.heap.size X Y.drew:=yb.trans ⟨rfl,rfl,rfl,Nat.le_refl _,fun _ _=>rfl⟩;generalize Y.drew=Z at *;obtain⟨z4,-⟩:=one_cell y4d;obtain⟨z5,-⟩:=one_cell y5d;have hDD:D=w1.heap.size+1:=by omega
  subst hDD;have gY:=grownBy_putObj' Z (w1.heap.size+1) (.deferred none);have e4:=(World.cell?_of_block (w:=Z) (gY.block (w.heap.size+1) (Array.getElem?_eq_some_iff.1 y4d).1 (fun e=>by have:=Option.some.inj e;omega)) (a:=⟨w.heap.size+1,0,none⟩)).trans z4;have e5:=(World.cell?_of_block (w:=Z) (gY.block (w.heap.size+1+1) (Array.getElem?_eq_some_iff.1 y5d).1 (fun e=>by have:=Option.some.inj e;omega)) (a:=⟨w.heap.size+1+1,0,none⟩)).trans z5;have hbs:=HH.out.bel.size;have hzs:=ybd.size;have hbY:Below w.heap.size w (Z.putObj (w1.heap.size+1) (.deferred none)):=(HH.out.bel.trans ybd).trans ⟨gY.os,gY.tape,gY.output,gY.size,fun i hi=>gY.block i (by omega) (fun e=>by have:=Option.some.inj e;omega)⟩;refine⟨by simp,.inl ⟨_,_,rfl,run_takeDeferred hKyd,?_⟩⟩;refine⟨.tuple #[.slice (some ⟨g,0,none⟩) n c2,.slice b m d],?_,g,c2,_,rfl,(hRyd.heap gY.size (gY.block g hRyd.lt (fun e=>by have:=Option.some.inj e;omega))).congr fun j _=>by rw[HFe.out],hbY⟩;simp[results,Tryz.results110,go_sem,e4,e5]
end Go.Proofs.YtepicfdhphiiaaaGreatDoor

/- Bounds for the normal forms of lattices of small rows, plain. -/
namespace Go.Proofs.YtepicfdhphiiaaaGreatDoor

theorem dot_bound (g : Nat) (z : Vc) (hz : ∀ i, (z i).natAbs ≤ g) : ∀ (n : Nat) (x : Vc), (dotV n z x).natAbs ≤ g * nrm n x
  | 0, _ => Nat.zero_le _
  | n + 1, x => by
    have h1 := dot_bound g z hz n x
    have h2 : (z n * x n).natAbs ≤ g * (x n).natAbs := by rw [Int.natAbs_mul]; exact Nat.mul_le_mul_right _ (hz n)
    show (dotV n z x + z n * x n).natAbs ≤ g * (nrm n x + (x n).natAbs)
    rw [Nat.mul_add]; omega
theorem dot_linF {n g : Nat} {z : Vc} (hz : ∀ i, (z i).natAbs ≤ g) : LinF n g (dotV n z) := ⟨fun k x y => dot_lin k z n x y, dot_bound g z hz n⟩

theorem cols_few : ∀ (l : List Nat) (n : Nat), l.Nodup → (∀ p ∈ l, p < n) → ((List.range n).filter (fun c => decide (c ∉ l))).length + l.length ≤ n
  | [], n, _, _ => by
    have := List.length_filter_le (fun c => decide (c ∉ ([] : List Nat))) (List.range n)
    rw [List.length_range] at this
    simpa using this
  | a :: l, n, hn, hl => by
    obtain ⟨h1, h2⟩ := List.nodup_cons.1 hn
    have ih := cols_few l n h2 fun p hp => hl p (List.mem_cons_of_mem _ hp)
    have e : (List.range n).filter (fun c => decide (c ∉ a :: l)) = ((List.range n).filter (fun c => decide (c ∉ l))).filter (fun c => decide (c ≠ a)) := by
      rw [List.filter_filter]
      refine List.filter_congr fun c _ => ?_
      rw [← Bool.decide_and, decide_eq_decide]
      simp only [List.mem_cons, not_or]
    rw [e]
    have h3 : (((List.range n).filter (fun c => decide (c ∉ l))).filter (fun c => decide (c ≠ a))).length < ((List.range n).filter (fun c => decide (c ∉ l))).length := by
      rw [List.length_filter_lt_length_iff_exists]
      exact ⟨a, List.mem_filter.2 ⟨List.mem_range.2 (hl a List.mem_cons_self), decide_eq_true h1⟩, by simp⟩
    simp only [List.length_cons]
    omega
theorem units_in : ∀ (cs : List Nat) (x : Vc), (∀ i, x i ≠ 0 → i ∈ cs) → Sp (cs.map uV) x
  | [], x, h => by
    show x = vz
    funext i
    exact Decidable.byContradiction fun hc => by have := h i hc; simp at this
  | c :: cs, x, h => by
    refine ⟨x c, units_in cs _ fun i hi => ?_⟩
    by_cases e : i = c
    · subst e
      exact absurd (show x i - x i * uV i i = 0 by unfold uV; rw [if_pos rfl]; omega) hi
    · have e0 : uV c i = 0 := by unfold uV; rw [if_neg e]
      rw [e0, Int.mul_zero, Int.sub_zero] at hi
      rcases List.mem_cons.1 (h i hi) with h2 | h2
      · exact absurd h2 e
      · exact h2
theorem sp_zero_at {q : Nat} : ∀ {m : List Vc}, (∀ r ∈ m, r q = 0) → ∀ {x}, Sp m x → x q = 0
  | [], _, x, hx => by rw [show x = vz from hx]; rfl
  | r :: m, hr, x, ⟨c, hc⟩ => by
    have h1 := sp_zero_at (fun s hs => hr s (List.mem_cons_of_mem _ hs)) hc
    rw [hr r List.mem_cons_self] at h1
    omega
theorem nrm_unit (c : Nat) : ∀ n, nrm n (uV c) ≤ 1 ∧ (n ≤ c → nrm n (uV c) = 0)
  | 0 => ⟨by show 0 ≤ 1; omega, fun _ => rfl⟩
  | n + 1 => by
    obtain ⟨h1, h2⟩ := nrm_unit c n
    show nrm n (uV c) + (uV c n).natAbs ≤ 1 ∧ (n + 1 ≤ c → nrm n (uV c) + (uV c n).natAbs = 0)
    unfold uV at *
    by_cases e : n = c
    · rw [if_pos e]
      have := h2 (by omega)
      exact ⟨by rw [this]; decide, fun h => by omega⟩
    · rw [if_neg e]
      exact ⟨by simpa using h1, fun h => by simpa using h2 (by omega)⟩
/-- Of the annihilator. -/
theorem ann_bound {R m : List Vc} {n g Y : Nat} (he : Ech 0 m) (hr : Redu m) (hR : ∀ r ∈ R, ∀ i, (r i).natAbs ≤ g) (h : ∀ x, Sp m x ↔ Perp n (Sp R) x) (hY : ∀ t, t + m.length ≤ n → m.length * bN g 1 t ≤ Y) :
    ∀ r ∈ m, ∀ c, (r c).natAbs ≤ Y := by
  intro r0 hr0 c0
  have hpos := List.length_pos_of_mem hr0
  obtain ⟨l, q1, q2, q3, _⟩ := ech_cols he
  have hs : ∀ x, Sp m x → Supp n x := fun x hx => ((h x).1 hx).1
  have hlt : ∀ q, PivS m q → q < n := fun q ⟨s, hs2, hq⟩ => Nat.lt_of_not_le fun hc => hq.2 (hs s (sp_mem hs2) q hc)
  have hln := cols_few l n q2 fun p hp => hlt p ((q3 p).1 hp)
  have key : ∀ p, PivS m p → ∃ v t, Sp m v ∧ v ≠ vz ∧ (∀ q, PivS m q → q ≠ p → v q = 0) ∧ t + m.length ≤ n ∧ ∀ c, (v c).natAbs ≤ bN g 1 t := fun p hp => by
    obtain ⟨x, x1, x2, x3⟩ := ech_dual he p hp
    have hx := (h x).1 x1
    have hfs : ∀ f ∈ R.map (dotV n), LinF n g f := fun f hf => by
      obtain ⟨z, hz, rfl⟩ := List.mem_map.1 hf
      exact dot_linF (hR z hz)
    obtain ⟨r, t, ht, r1, r2, r3, r4⟩ := small_vec (R := (p :: (List.range n).filter (fun c => decide (c ∉ l))).map uV) (N := 1) hfs (fun r hr => by
      obtain ⟨c, _, rfl⟩ := List.mem_map.1 hr
      exact (nrm_unit c n).1) (x := x) (units_in _ _ fun i hi => by
        by_cases e : i = p
        · rw [e]; exact List.mem_cons_self
        · refine List.mem_cons_of_mem _ (List.mem_filter.2 ⟨List.mem_range.2 (Nat.lt_of_not_le fun hc => hi (hx.1 i hc)), decide_eq_true fun hl => hi (x3 i ((q3 i).1 hl) e)⟩)) (fun f hf => by
        obtain ⟨z, hz, rfl⟩ := List.mem_map.1 hf
        exact hx.2 z (sp_mem hz)) x2
    have hsr : Supp n r := sp_supp (fun u hu => by
      obtain ⟨c, hc, rfl⟩ := List.mem_map.1 hu
      intro i hi
      have hcn : c < n := by
        rcases List.mem_cons.1 hc with rfl | hc
        · exact hlt c hp
        · exact List.mem_range.1 (List.mem_filter.1 hc).1
      unfold uV
      rw [if_neg (by omega)]) r r1
    have hm : Perp n (Sp R) r := ⟨hsr, dot_gens fun z hz => r3 _ (List.mem_map.2 ⟨z, hz, rfl⟩)⟩
    refine ⟨r, t, (h r).2 hm, r2, fun q hq hne => sp_zero_at (fun u hu => ?_) r1, ?_, fun c => ?_⟩
    · obtain ⟨c, hc, rfl⟩ := List.mem_map.1 hu
      unfold uV
      rw [if_neg]
      rintro rfl
      rcases List.mem_cons.1 hc with rfl | hc
      · exact hne rfl
      · exact of_decide_eq_true (List.mem_filter.1 hc).2 ((q3 q).2 hq)
    · simp only [List.length_map, List.length_cons] at ht
      omega
    · rcases Nat.lt_or_ge c n with h | h
      · exact Nat.le_trans (nrm_le n r c h) r4
      · rw [hsr c h]; simp
  have h3 : ∀ X, (∀ t, t + m.length ≤ n → bN g 1 t ≤ X) → (r0 c0).natAbs ≤ m.length * X := fun X hX => hnf_bound he hr X (fun p hp => by
    obtain ⟨v, t, v1, v2, v3, v4, v5⟩ := key p hp
    exact ⟨v, v1, v2, v3, fun c => Nat.le_trans (v5 c) (hX t v4)⟩) r0 hr0 c0
  have hdiv : ∀ t, t + m.length ≤ n → bN g 1 t ≤ Y / m.length := fun t ht => (Nat.le_div_iff_mul_le hpos).2 (by rw [Nat.mul_comm]; exact hY t ht)
  exact Nat.le_trans (h3 _ hdiv) (Nat.mul_div_le Y m.length)

end Go.Proofs.YtepicfdhphiiaaaGreatDoor

/- Temperaments as pairs of normal forms: join, meet, ranks, plain. -/
namespace Go.Proofs.YtepicfdhphiiaaaGreatDoor

variable {n : Nat} {C M C' M' A MA B MB D MD : List (List Int)}
/-- A refines B. -/
def RefR (A B : List (List Int)) : Prop := ∀ y, Sp (vfs A) y → Sp (vfs B) y
theorem joi_congr {S T S' T' : Vc → Prop} (h1 : ∀ y, S y ↔ S' y) (h2 : ∀ y, T y ↔ T' y) (y : Vc) : Joi n S T y ↔ Joi n S' T' y :=
  perp_congr (perp_congr fun _ => ⟨fun ⟨z, a, b⟩ => ⟨z, (h1 _).1 a, (h2 _).1 b⟩, fun ⟨z, a, b⟩ => ⟨z, (h1 _).2 a, (h2 _).2 b⟩⟩) y
theorem joi_left (hA : TemOk n A MA) (hB : TemOk n B MB) {y : Vc} (h : Sp (vfs A) y) : Joi n (Sp (vfs A)) (Sp (vfs B)) y :=
  perp_in (sum_supp (rect_supp hA.rc) (rect_supp hB.rc)) (sum_left (sp_lat _) h)
theorem joi_right (hA : TemOk n A MA) (hB : TemOk n B MB) {y : Vc} (h : Sp (vfs B) y) : Joi n (Sp (vfs A)) (Sp (vfs B)) y :=
  perp_in (sum_supp (rect_supp hA.rc) (rect_supp hB.rc)) (sum_right (sp_lat _) h)
theorem joi_least (hD : TemOk n D MD) (h1 : RefR A D) (h2 : RefR B D) {y : Vc} (h : Joi n (Sp (vfs A)) (Sp (vfs B)) y) : Sp (vfs D) y :=
  hD.closed.2 y (perp_le (fun _ => perp_le (sum_le (sp_lat _) h1 h2)) h)
theorem join_comm {J J' MJ MJ' : List (List Int)} (hJ : TemOk n J MJ) (hJ' : TemOk n J' MJ') (h1 : JoiR n A B J) (h2 : JoiR n B A J') : J = J' ∧ MJ = MJ' :=
  hJ.same hJ' fun y => (h1 y).trans ((perp_congr (joi_comm (sp_lat _) (sp_lat _)) y).trans (h2 y).symm)
theorem meet_comm {J J' MJ MJ' : List (List Int)} (hJ : TemOk n J MJ) (hJ' : TemOk n J' MJ') (h1 : MeeR A B J) (h2 : MeeR B A J') : J = J' ∧ MJ = MJ' :=
  hJ.same hJ' fun y => (h1 y).trans (and_comm.trans (h2 y).symm)
theorem join_assoc {AB BC X X' MX MX' : List (List Int)} (hA : TemOk n A MA) (hB : TemOk n B MB) (hD : TemOk n D MD) (hX : TemOk n X MX) (hX' : TemOk n X' MX') (h1 : JoiR n A B AB) (h2 : JoiR n B D BC) (h3 : JoiR n AB D X) (h4 : JoiR n A BC X') : X = X' ∧ MX = MX' :=
  hX.same hX' fun y => (h3 y).trans ((joi_congr h1 (fun _ => Iff.rfl) y).trans ((perp_congr (joi_assoc (sp_lat _) (sp_lat _) (sp_lat _) (rect_supp hA.rc) (rect_supp hB.rc) (rect_supp hD.rc)) y).trans ((joi_congr (fun _ => Iff.rfl) (fun z => (h2 z).symm) y).trans (h4 y).symm)))
theorem meet_back {J X MX : List (List Int)} (hA : TemOk n A MA) (hB : TemOk n B MB) (hX : TemOk n X MX) (h1 : JoiR n A B J) (h2 : MeeR A J X) : X = A ∧ MX = MA :=
  hX.same hA fun y => (h2 y).trans ⟨fun h => h.1, fun h => ⟨h, (h1 y).2 (joi_left hA hB h)⟩⟩
theorem join_back {U MU X MX : List (List Int)} (hA : TemOk n A MA) (hU : TemOk n U MU) (hX : TemOk n X MX) (h1 : MeeR A B U) (h2 : JoiR n A U X) : X = A ∧ MX = MA :=
  hX.same hA fun y => (h2 y).trans ⟨fun h => joi_least hA (fun _ h => h) (fun z hz => ((h1 z).1 hz).1) h, fun h => joi_left hA hU h⟩
theorem ref_join {J MJ : List (List Int)} (hA : TemOk n A MA) (hB : TemOk n B MB) (hJ : TemOk n J MJ) (h1 : JoiR n A B J) : RefR A B ↔ J = B ∧ MJ = MB := by
  constructor
  · intro h
    exact hJ.same hB fun y => (h1 y).trans ⟨fun h2 => joi_least hB h (fun _ h => h) h2, fun h2 => joi_right hA hB h2⟩
  · rintro ⟨rfl, _⟩ y hy
    exact (h1 y).2 (joi_left hA hB hy)
theorem ref_meet {J MJ : List (List Int)} (hA : TemOk n A MA) (hJ : TemOk n J MJ) (h1 : MeeR A B J) : RefR A B ↔ J = A ∧ MJ = MA := by
  constructor
  · intro h
    exact hJ.same hA fun y => (h1 y).trans ⟨fun h2 => h2.1, fun h2 => ⟨h2, h y h2⟩⟩
  · rintro ⟨rfl, _⟩ y hy
    exact ((h1 y).1 hy).2
end Go.Proofs.YtepicfdhphiiaaaGreatDoor

/- The lattices of a plan have small numbers, plain. -/
namespace Go.Proofs.YtepicfdhphiiaaaGreatDoor

theorem bn_cols : ∀ t, t < 5 → ∀ k, k < 5 → t + k ≤ 4 → k * bN 9 1 t ≤ 1000000000 := by decide
theorem plan_ann {n : Nat} {R B : List (List Int)} (hn : n ≤ 4) (h9 : ∀ r ∈ R, ∀ x ∈ r, x.natAbs ≤ 9) (hB : IsHnf B) (h : ∀ x, Sp (vfs B) x ↔ Perp n (Sp (vfs R)) x) :
    ∀ i, i < B.length → ∀ j, (ent B i j).natAbs ≤ 1000000000 :=
  ent_of_vf (ann_bound hB.e hB.r (vf_nine h9) h fun t ht => bn_cols t (by omega) _ (by omega) (by omega))

end Go.Proofs.YtepicfdhphiiaaaGreatDoor

namespace Go.Proofs.YtepicfdhphiiaaaGreatDoor
open Go.RowKit
theorem four_lat{w:World}{g:Nat}{a b c d:Value}{t:TypeId}(h:w.heap[g]?=some (.cells #[a,b,c,d] t (0,0))):
  w.cell? ⟨g,0,none⟩=some a∧w.cell? ⟨g,1,none⟩=some b∧w.cell? ⟨g,2,none⟩=some c∧w.cell? ⟨g,3,none⟩=some d :=
 ⟨cell_of_row w g 0 _ _ _ h,cell_of_row w g 1 _ _ _ h,cell_of_row w g 2 _ _ _ h,cell_of_row w g 3 _ _ _ h⟩
theorem checkBoth_ok(w:World)(a b:Option Addr)(ca cb n:Nat)(A B:List (List Int))(hA:RdM w a A)(hB:RdM w b B)(RA:LatR n A)(RB:LatR n B)(ha:A.length≤ca)(hb:B.length≤cb)(hn:n≤6):
  Gives Tryz.prog 61 #[latV n a A.length ca,latV n b B.length cb] w (.int .i64 0):=by
 unfold Gives;have HCa:=hd_ (fun W (hW:Below w.heap.size w W)=>latCheck_ok W a ca n A (hA.below hW nr_) RA ha (by omega));have HCb:=hd_ (fun W (hW:Below w.heap.size w W)=>latCheck_ok W b cb n B (hB.below hW nr_) RB hb (by omega));clear hA hB RA RB ha hb hn;unfold latV at HCa HCb ⊢;generalize A.length=m at *;generalize B.length=k at *;obtain⟨w0,hw0⟩:∃ w0,((w.alloc (.cells #[.int .i64 n,.slice a m ca] 67)).alloc (.cells #[.int .i64 n,.slice b k cb] 67)).alloc (.cells #[.int .i64 n,.slice a m ca,.int .i64 n,.slice b k cb] 67)=w0:=⟨_,rfl⟩;have K0:=heap_at w #[.int .i64 n,.slice a m ca] 67 _ rfl;have P0:w0.heap[w.heap.size]?=some (.cells #[.int .i64 n,.slice a m ca] 67 (0,0)):=by rw[← hw0];exact heap_old (heap_old K0 _) _
 have P1:w0.heap[w.heap.size+1]?=some (.cells #[.int .i64 n,.slice b k cb] 67 (0,0)):=by rw[← hw0];exact heap_old (heap_at _ _ _ _ (by simp)) _
 have P2:w0.heap[w.heap.size+1+1]?=some (.cells #[.int .i64 n,.slice a m ca,.int .i64 n,.slice b k cb] 67 (0,0)):=by rw[← hw0];exact heap_at _ _ _ _ (by simp)
 have B0:Below w.heap.size w w0:=by rw[← hw0];exact(((Below.refl _ w).alloc nr_ _).alloc (by simp) _).alloc (by simp;omega) _
 have Q0:=hd_ P0;have Q1:=hd_ P1;have Q2:=hd_ P2;have D0:=hd_ B0;clear P0 P1 P2 B0;have K1:Hid ((w.alloc (.cells #[.int .i64 n,.slice a m ca] 67)).heap[w.heap.size]?=some (.cells #[.int .i64 n,.slice a m ca] 67 (0,0))):=K0;have K2:=hd_ (heap_old K0 (.cells #[.int .i64 n,.slice b k cb] 67));have K3:Hid (((w.alloc (.cells #[.int .i64 n,.slice a m ca] 67)).alloc (.cells #[.int .i64 n,.slice b k cb] 67)).heap[w.heap.size+1]?=some (.cells #[.int .i64 n,.slice b k cb] 67 (0,0))):=heap_at _ _ _ _ (by simp);have Hw0:=hd_ hw0;clear K0 hw0;obtain⟨j1,j2,-,-⟩:=obj_two K2.out;obtain⟨j3,j4,-,-⟩:=obj_two K3.out;go_enter Tryz.func61,Tryz.ntmps61;go_wp2_with fail;rw[Hw0.out];clear j1 j2 j3 j4 K1 K2 K3 Hw0
 go_loopw [12] (fun z wr=>∃ t:Nat,t≤2∧z = .int .i64 t∧Hid (Below w0.heap.size w0 wr)) (fun z _=>2-(intOf z).toNat)
 case atStart=>exact⟨0,by omega,rfl,Below.refl _ _⟩
 case round =>
  obtain⟨t,ht,rfl,D⟩:=hrel;have M0:=heap_kept Q0.out D.out nr_;have M1:=heap_kept Q1.out D.out nr_;have M2:=heap_kept Q2.out D.out nr_;obtain⟨i1,i2,-,-⟩:=obj_two M0;obtain⟨i3,i4,-,-⟩:=obj_two M1;obtain⟨i5,i6,i7,i8⟩:=four_lat M2;have hz:=(Array.getElem?_eq_some_iff.1 M2).1;have hzz:wr.heap.size≠w.heap.size+1+1:=by omega
  clear M0 M1 M2;rcases(show t=0∨t=1∨t=2 by omega) with rfl|rfl|rfl
  ·have D1:=hd_ (D.out.alloc D.out.size (.cells #[.int .i64 n,.slice a m ca] 67));have HC1:=hd_ (HCa.out _ (bu_ D0 D1.out));have k1:=obj_two (heap_at wr #[.int .i64 n,.slice a m ca] 67 _ rfl);obtain⟨k1,k2,-,-⟩:=k1;go_wp2_with fail;refine cm_ HC1.out ?_;rintro e w1 ⟨rfl,hb1⟩;have D2:=bt_ D1 hb1;clear hb1 HC1 D D1 k1 k2;go_wp2_with fail
   go_roundw
   case rel=>exact⟨1,by omega,by go_num,D2⟩
   case measure=>simp[intOf]
  ·have D1:=hd_ (D.out.alloc D.out.size (.cells #[.int .i64 n,.slice b k cb] 67));have HC1:=hd_ (HCb.out _ (bu_ D0 D1.out));have k1:=obj_two (heap_at wr #[.int .i64 n,.slice b k cb] 67 _ rfl);obtain⟨k1,k2,-,-⟩:=k1;go_wp2_with fail;refine cm_ HC1.out ?_;rintro e w1 ⟨rfl,hb1⟩;have D2:=bt_ D1 hb1;clear hb1 HC1 D D1 k1 k2;go_wp2_with fail
   go_roundw
   case rel=>exact⟨2,by omega,by go_num,D2⟩
   case measure=>simp[intOf]
  ·go_wp2_with fail;go_ret;exact⟨rfl,D0.out.trans (D.out.mono D0.out.size)⟩
def hasB (rows:List (List Int)) (p:Nat→Nat) (n:Nat) (r:List Int):Bool:=decide (∀ j,j<n→reF rows p r rows.length j=0)
theorem has_any(w:World)(a ar:Option Addr)(c cr0 n:Nat)(rows:List (List Int))(r:List Int)(p:Nat→Nat)(hr:RdM w a rows)(hx:Rd w ar (ints r))(hrl:r.length=n)(R:LatR n rows)(hp:Pvs n 0 rows p)(hn0:0<n)(hn:n≤6)
  (hrb:∀ x∈r,x.natAbs≤10^9) (L:Laid w) :
  Gives Tryz.prog 70 #[latV n a rows.length c,.slice ar n cr0] w (.bool (hasB rows p n r)):=by
 unfold Gives;have hl:=R.len;have hgd:∀ j,(r.getD j 0).natAbs≤10^9:=fun j=>by
  rw[List.getD_eq_getElem?_getD];rcases Nat.lt_or_ge j r.length with h|h
  ·rw[List.getElem?_eq_getElem h];exact hrb _ (List.getElem_mem h)
  ·rw[List.getElem?_eq_none h];simp
 have HR:=hd_ (fun W (hW:Below w.heap.size w W)=>reduce_any W a ar c cr0 n rows r p (hr.below hW nr_) (hx.below hW nr_) hrl (fun x hx=>by have:=hrb x hx;omega) R.r R.i64 hp hn0 (by omega) (by omega) hgd R.nine (L.below hW));have hlead:∀ z,LeadP (reF rows p r rows.length) n z→decide (z<0)=hasB rows p n r:=fun z hz=>by
  unfold hasB;rw[decide_eq_decide];rcases hz with⟨rfl,h⟩|⟨k,hk,rfl,h1,_⟩
  ·exact⟨fun _=>h,fun _=>by decide⟩
  ·exact⟨fun h=>by omega,fun h=>absurd (h k hk) h1⟩
 have HB:=hd_ hlead;have HL:=hd_ (fun W gr cr (hF:RowS W gr 0 n (reF rows p r rows.length))=>lead_any W gr 0 cr n (reF rows p r rows.length) hF (by omega));clear hr hx hrl R hp hrb L hgd hl hlead;unfold latV at HR ⊢;generalize reF rows p r rows.length=F at *;generalize hasB rows p n r=z at *;generalize rows.length=m at *;have B0:=hd_ ((Below.refl w.heap.size w).alloc nr_ (.cells #[.int .i64 n,.slice a m c] 67));obtain⟨k1,k2,-,-⟩:=obj_two (heap_at w #[.int .i64 n,.slice a m c] 67 _ rfl);go_enter Tryz.func70,Tryz.ntmps70;go_wp2_with fail;generalize w.alloc (.cells #[.int .i64 n,.slice a m c] 67)=w0 at *;refine cm_ (HR.out w0 B0.out) ?_;rintro e w1 ⟨gr,cr,v,rfl,hF,hb1⟩;have B1:=bt_ B0 hb1;have HLx:=hd_ (HL.out w1 gr cr hF);clear hb1 HR hF B0 k1 k2;go_wp2_with fail;refine cm_ HLx.out ?_;rintro e w2 ⟨⟨t,rfl,ht⟩,hb2⟩;have B2:=bt_ B1 hb2;have hz:=HB.out t ht;have HZ:=hd_ hz;clear hb2 HLx ht hz B1 HB;go_wp2_with fail;go_ret;exact⟨by rw[← HZ.out];rfl,B2.out⟩
theorem within1_any(w:World)(a ar:Option Addr)(c cr0 n g:Nat)(rows:List (List Int))(r:List Int)(p:Nat→Nat)(hr:RdM w a rows)(hx:Rd w ar (ints r))(hrl:r.length=n)(R:LatR n rows)(hp:Pvs n 0 rows p)(hn0:0<n)(hn:n≤6)
  (hrb:∀ x∈r,x.natAbs≤10^9) (L:Laid w) (hg:w.heap[g]?=some (.cells #[.int .i64 n,.slice a rows.length c] 67 (0,0))) :
  Gives Tryz.prog 69 #[.slice ar n cr0,.pointer (some ⟨g,0,none⟩)] w (.bool (!hasB rows p n r)):=by
 unfold Gives;have HH:=hd_ (has_any w a ar c cr0 n rows r p hr hx hrl R hp hn0 hn hrb L);unfold Gives latV at HH;obtain⟨k1,k2,-,-⟩:=obj_two hg;clear hr hx hrl R hp hrb L hg;generalize hasB rows p n r=z at *;generalize rows.length=m at *;go_enter Tryz.func69,Tryz.ntmps69;go_wp2_with fail;refine cm_ HH.out ?_;rintro e w1 ⟨rfl,hb1⟩;have B1:=hd_ hb1;clear hb1 HH k1 k2;go_wp2_with fail;go_ret;exact⟨rfl,B1.out⟩
def WitL (w w':World) (A B:List (List Int)) (e:Ending):Prop:=∃ z:Bool,e = .returned (.tuple #[.bool z,.int .i64 0])∧(z=true↔RefR A B)∧Below w.heap.size w w'
theorem all_ref{n:Nat}{A B:List (List Int)}{p:Nat→Nat}(RA:LatR n A)(RB:LatR n B)(hp:Pvs n 0 B p):(!A.any fun r => !hasB B p n r)=true↔RefR A B:=by
 have h1:∀ r∈A,(hasB B p n r=true↔Sp (vfs B) (vf r)):=fun r hr=>by
  unfold hasB;rw[decide_eq_true_iff];exact reF_iff RB.h hp RB.r (RA.r r hr)
 constructor
 ·intro h y hy;refine sp_le (fun r hr=>?_) hy;obtain⟨s,hs,rfl⟩:=List.mem_map.1 hr;refine(h1 s hs).1 ?_;rw[Bool.not_eq_true',List.any_eq_false] at h;have:=h s hs
  simpa using this
 ·intro h;rw[Bool.not_eq_true',List.any_eq_false];intro r hr;rw[(h1 r hr).2 (h _ (sp_row hr))];decide
theorem lWithin_any(w:World)(a b:Option Addr)(ca cb n:Nat)(A B:List (List Int))(hA:RdM w a A)(hB:RdM w b B)(RA:LatR n A)(RB:LatR n B)(ha:A.length≤ca)(hb:B.length≤cb)(hn0:0<n)(hn:n≤6)(L:Laid w):
  Calls Tryz.prog 35 #[latV n a A.length ca,latV n b B.length cb] w fun e w'=>WitL w w' A B e:=by
 obtain⟨p,hp⟩:=RB.h.pvs RB.r;have hlA:=RA.len;have HC:=hd_ (fun W (hW:Below w.heap.size w W)=>checkBoth_ok W a b ca cb n A B (hA.below hW nr_) (hB.below hW nr_) RA RB ha hb hn);have HQ:=hd_ (fun W (hW:Below w.heap.size w W) g (hg:W.heap[g]?=some (Obj.cells #[.int .i64 n,.slice b B.length cb] 67 (0,0))) =>
  conM_any W a ca A (hA.below hW nr_).rdi (by omega) 69 #[.pointer (some ⟨g,0,none⟩)] (enter_of Tryz.func69 (by kernel_rfl) rfl) (fun r => !hasB B p n r) fun W2 hW2 x hx a' c' hxr=>by
   have hl:=RA.r x hx;rw[hl];exact within1_any W2 b a' cb c' n g B x p (hB.below (bv_ hW hW2) nr_) hxr hl RB hp hn0 hn (fun z hz=>RA.mem x hx z hz) (L.below (bv_ hW hW2)) ((hW2.block g ((Array.getElem?_eq_some_iff.1 hg).1)).trans hg))
 have HI:=hd_ (all_ref RA RB hp);clear hA hB RA RB ha hb hp L;unfold latV at HC ⊢;generalize (A.any fun r => !hasB B p n r)=z at *;generalize A.length=m at *;generalize B.length=k at *;have K0:=heap_at w #[.int .i64 n,.slice a m ca] 67 _ rfl;obtain⟨w1,hw1⟩:∃ w1,((w.alloc (.cells #[.int .i64 n,.slice a m ca] 67)).alloc (.cells #[.int .i64 n,.slice b k cb] 67))=w1:=⟨_,rfl⟩;have P0:w1.heap[w.heap.size]?=some (.cells #[.int .i64 n,.slice a m ca] 67 (0,0)):=by rw[← hw1];exact heap_old K0 _
 have P1:w1.heap[w.heap.size+1]?=some (.cells #[.int .i64 n,.slice b k cb] 67 (0,0)):=by rw[← hw1];exact heap_at _ _ _ _ (by simp)
 have B0:Below w.heap.size w w1:=by rw[← hw1];exact((Below.refl _ w).alloc nr_ _).alloc (by simp) _
 have N0:=hd_ P0;have N1:=hd_ P1;have D0:=hd_ B0;have Hw1:=hd_ hw1;obtain⟨j1,j2,-,-⟩:=obj_two P0;obtain⟨j3,j4,-,-⟩:=obj_two P1;rw[← hw1] at j1 j2 j3 j4;clear P0 P1 B0 K0 hw1;go_enter Tryz.func35,Tryz.ntmps35;go_wp2_with fail;rw[Hw1.out];clear j1 j2 j3 j4 Hw1;refine cm_ (HC.out w1 D0.out) ?_;rintro e w2 ⟨rfl,hb1⟩;have P0:=hk_ N0 hb1;have P1:=hk_ N1 hb1;have D1:=bt_ D0 hb1;have HQ1:=hd_ (HQ.out w2 D1.out _ P1.out);clear hb1 N0 N1 D0 HC HQ;obtain⟨k1,k2,-,-⟩:=obj_two P0.out;go_wp2_with fail;refine cm_ HQ1.out ?_;rintro e w3 ⟨rfl,hb3⟩;have D3:=bt_ D1 hb3;clear hb3 HQ1 D1 k1 k2 P0 P1;go_wp2_with fail
 go_ret2
 exact⟨_,rfl,HI.out,D3.out⟩
theorem wpList_append_rd_at{P:Program}{w:World}{ops:Array Oper}{rest:List Oper}{o:Oper}{a:Act}{Q:Exit→Act→World→Prop}(hgd:o.guard=none)(s x:Operand)(t:TypeId)
  (ho:o.op = .call { callee := .builtin .append,args := #[s,x],argTypes := #[t,t] }) {e:TypeId} {z:Value} {bytes:Nat} (E:ElemOf P t e z 1 bytes)
  (v:Value) (hs:a.eval s=v) {base n:Nat} {xs:List Value} (hown:w.ownsRow base e 1 v n xs) (ad:Option Addr) (m c:Nat) (V:List Value) (hx:a.eval x = .slice ad m c) (hnil:ad=none→m=0∧c=0) (hl:V.length=m) (hr:Rd w ad V) (h1:∀ u∈V,u.oneCell'=true)
  (h63:n+m≤4611686018427387904) (hbytes:(n+m)*bytes≤140737488355328) (hbase:base≤w.heap.size)
  (h:∀ v' w',w'.ownsRow base e 1 v' (n+m) (xs++V)→w.grownBy w' v.ownBlock→(v'.ownBlock=v.ownBlock∨v'.ownBlock=some w.heap.size)→wpList P ops Q rest (a.put o.dst v') w'):wpList P ops Q (o::rest) a w:=by
 obtain⟨i,hi,hz,hsize,hby⟩:=E.info
 match ad,hr,hnil with
 | none,hr,hnil =>
  obtain⟨rfl,rfl⟩:=hnil rfl;obtain rfl:V=[]:=List.eq_nil_of_length_eq_zero hl;refine wpList_append_own_none hgd s x t ho base e i 1 E.ht hi v n xs hs hown hx ?_;exact h v w (by simpa using hown) ⟨rfl,rfl,rfl,Nat.le_refl _,fun _ _ _=>rfl⟩ (.inl rfl)
 | some ad,hr,_ =>
  refine wpList_append_own_at _ hgd s x t ho base e i z 1 bytes E.ht hi hz hsize hby E.hzs E.pos v n xs hs hown ad m c V hx (by omega) ?_ h1 (by unfold maxLen;omega) hbytes hbase fun v' w' h2 h3 _ h5=>h v' w' h2 h3 h5
  intro j u hj;rcases hr with rfl|⟨b,off,hb,_,hc⟩
  ·simp at hj
  ·obtain rfl:=Option.some.inj hb;have:=hc j u hj
   have hadd:(⟨b,off,none⟩:Addr).add j=⟨b,off+j,none⟩:=by unfold Addr.add;split<;>simp_all
   rw[hadd];exact this
theorem BldS.nilv{w:World}{B c t n:Nat}{K:Nat→Nat×Nat×Nat}{E:Nat→Nat→Int}(h:BldS w B none c t n K E):t=0∧c=0:=by
 rcases h.own.2 with⟨h1,h2⟩|⟨g,cap,cur,h1,_⟩
 ·simp only[Value.slice.injEq,true_and] at h1;exact⟨h1.1,h1.2⟩
 ·simp at h1
theorem hdrs_cat(K K':Nat→Nat×Nat×Nat)(n t k:Nat):hdrs (fun i=>if i<t then K i else K' (i-t)) n (t+k)=hdrs K n t++hdrs K' n k:=by
 refine List.ext_getElem? fun i=>?_
 rcases Nat.lt_or_ge i t with h|h
 ·rw[hdrs_get _ _ _ (by omega),List.getElem?_append_left (by rw[hdrs_length];exact h),hdrs_get _ _ _ h,if_pos h]
 ·rw[List.getElem?_append_right (by rw[hdrs_length];exact h),hdrs_length];rcases Nat.lt_or_ge i (t+k) with h2|h2
  ·rw[hdrs_get _ _ _ h2,hdrs_get _ _ _ (by omega),if_neg (by omega)]
  ·rw[List.getElem?_eq_none (by rw[hdrs_length];exact h2),List.getElem?_eq_none (by rw[hdrs_length];omega)]
theorem BldS.cat{W w':World}{B c t n c' d k B':Nat}{a a' b:Option Addr}{K K':Nat→Nat×Nat×Nat}{E E':Nat→Nat→Int}(h:BldS W B a c t n K E)(h':BldS W B' b d k n K' E')(hBB:B≤B')
  (hr:∀ i,i<t→(K i).1<B') (ho:∀ g,(Value.slice a t c).ownBlock=some g→g<B')
  (hown:w'.ownsRow B 113 1 (.slice a' (t+k) c') (t+k) (hdrs K n t++hdrs K' n k)) (hg:W.grownBy w' (Value.slice a t c).ownBlock)
  (hs:(Value.slice a' (t+k) c').ownBlock=(Value.slice a t c).ownBlock∨(Value.slice a' (t+k) c').ownBlock=some W.heap.size) :
  BldS w' B a' c' (t+k) n (fun i=>if i<t then K i else K' (i-t)) (fun i=>if i<t then E i else E' (i-t)):=by
 have hlo':∀ i,i<k→B'≤(K' i).1:=fun i hi=>(h'.lo i hi).1
 have keep:∀ {b' off':Nat} {G:Nat→Int},RowS W b' off' n G→some b'≠(Value.slice a t c).ownBlock→RowS w' b' off' n G:=fun {b' off' G} hr hne=>hr.heap hg.size (hg.block b' hr.lt hne)
 have nb:∀ {b' off':Nat} {G:Nat→Int},RowS W b' off' n G→some b'≠(Value.slice a t c).ownBlock→some b'≠(Value.slice a' (t+k) c').ownBlock:=fun {b' off' G} hr hne=>by
  rcases hs with e|e
  ·rw[e];exact hne
  ·rw[e];intro e2;have e3:=Option.some.inj e2;have:=hr.lt
   omega
 have ne2:∀ i,i<k→some (K' i).1≠(Value.slice a t c).ownBlock:=fun i hi e=>by
  have h1:=ho _ e.symm;have h2:=hlo' i hi;omega
 refine⟨by rw[hdrs_cat];exact hown,fun i hi=>?_,fun i j hi hj e=>?_,fun i hi=>?_,fun i hi=>?_⟩
 ·by_cases e:i<t
  ·simp only[if_pos e];have:=h.lo i e
   exact⟨this.1,nb (h.row i e) this.2⟩
  ·simp only[if_neg e];exact⟨Nat.le_trans hBB (hlo' _ (by omega)),nb (h'.row _ (by omega)) (ne2 _ (by omega))⟩
 ·by_cases e1:i<t
  ·by_cases e2:j<t
   ·simp only[if_pos e1,if_pos e2] at e;exact h.inj i j e1 e2 e
   ·simp only[if_pos e1,if_neg e2] at e;have h1:=hr i e1;have h2:=hlo' (j-t) (by omega);omega
  ·by_cases e2:j<t
   ·simp only[if_neg e1,if_pos e2] at e;have h1:=hr j e2;have h2:=hlo' (i-t) (by omega);omega
   ·simp only[if_neg e1,if_neg e2] at e;have:=h'.inj _ _ (by omega) (by omega) e
    omega
 ·by_cases e:i<t
  ·simp only[if_pos e];exact keep (h.row i e) (h.lo i e).2
  ·simp only[if_neg e];exact keep (h'.row _ (by omega)) (ne2 _ (by omega))
 ·by_cases e:i<t
  ·simp only[if_pos e];exact h.cap i e
  ·simp only[if_neg e];exact h'.cap _ (by omega)
theorem ent_cat(A B:List (List Int)){i:Nat}(_h:i<A.length+B.length)(j:Nat):(if i<A.length then ent A i else ent B (i-A.length)) j=ent (A++B) i j:=by
 unfold ent
 by_cases e:i<A.length
 ·rw[if_pos e,List.getD_eq_getElem?_getD (l:=A++B),List.getElem?_append_left e,← List.getD_eq_getElem?_getD]
 ·rw[if_neg e,List.getD_eq_getElem?_getD (l:=A++B),List.getElem?_append_right (by omega),← List.getD_eq_getElem?_getD]
theorem sum_sp(A B:List (List Int))(x:Vc):Sp (vfs (A++B)) x↔SumL (Sp (vfs A)) (Sp (vfs B)) x:=by
 unfold vfs;rw[List.map_append];exact sp_append
theorem sum_any_lat(w:World)(a b:Option Addr)(ca cb n:Nat)(A B:List (List Int))(hA:RdM w a A)(hB:RdM w b B)(RA:LatR n A)(RB:LatR n B)(ha:A.length≤ca)(hb:B.length≤cb)(hn0:0<n)(hn:n≤6)(L:Laid w):
  Calls Tryz.prog 60 #[latV n a A.length ca,latV n b B.length cb] w fun e w'=>LatE w w' n (SumL (Sp (vfs A)) (Sp (vfs B))) e:=by
 have hlA:=RA.len;have hlB:=RB.len;have hll:(A++B).length=A.length+B.length:=List.length_append;have hrect:Rect n (A++B):=fun r hr=>by
  rcases List.mem_append.1 hr with h|h
  ·exact RA.r r h
  ·exact RB.r r h
 have hent:∀ i,i<(A++B).length→∀ j,(ent (A++B) i j).natAbs≤10^9:=fun i hi j=>by
  rw[hll] at hi;rw[← ent_cat A B hi j]
  by_cases e:i<A.length
  ·rw[if_pos e];exact RA.nine i e j
  ·rw[if_neg e];exact RB.nine _ (by omega) j
 have HC:=hd_ (fun W (hW:Below w.heap.size w W)=>checkBoth_ok W a b ca cb n A B (hA.below hW nr_) (hB.below hW nr_) RA RB ha hb hn);have HLa:=hd_ (fun W (hW:Below w.heap.size w W)=>longsOf_bld W a ca n A (hA.below hW nr_) RA.r RA.i64 hn0 (by omega) (by omega) (L.below hW));have HLb:=hd_ (fun W (hW:Below w.heap.size w W)=>longsOf_bld W b cb n B (hB.below hW nr_) RB.r RB.i64 hn0 (by omega) (by omega) (L.below hW));have HF:=hd_ (fun W (hW:Below w.heap.size w W) Bb v (hV:MatV W Bb v (A.length+B.length) n (ent (A++B))) (hB:Bb≤W.heap.size) (hBw:w.heap.size≤Bb)=>form_law W Bb 9 n v (A++B) hrect hent (fun d hd=>by rw[hll] at hd ⊢;exact seq_nine _ (by omega) d (by omega)) (by rw[hll];exact hV) hB (by rw[hll];omega) (by omega) (fun W2 hW2=>L.below (hW.trans (hW2.mono hBw))));have HSh:=hd_ (fun W (hW:Below w.heap.size w W) Bb v Bs (hv:MatV W Bb v Bs.length n (ent Bs)) (hrb:Rect n Bs) (hlb:Bs.length≤(A++B).length) (hzb:∀ i,i<Bs.length→∀ j,(ent Bs i j).natAbs≤10^eD 9 (A++B).length (A++B).length)=>shorts_any W Bb n v Bs hv hrb (fun i hi j _=>Nat.le_trans (hzb i hi j) (lim_ten (by rw[hll];exact(seq_nine _ (by omega) _ (by omega)).2))) (by omega) hn0 (by omega) (fun W2 hW2=>L.below (bv_ hW hW2)));have HS:=hd_ (sum_sp A B);have HE:=hd_ (fun i (hi:i<A.length+B.length) j=>ent_cat A B hi j);clear hA hB RA RB ha hb L hrect hent hll;unfold latV at HC ⊢;obtain⟨m,hm⟩:∃ m,A.length=m:=⟨_,rfl⟩;obtain⟨k,hk⟩:∃ k,B.length=k:=⟨_,rfl⟩;rw[hm] at HC HLa HF HE hlA ⊢;rw[hk] at HC HLb HF HE hlB ⊢;clear hm hk;have K0:=heap_at w #[.int .i64 n,.slice a m ca] 67 _ rfl;obtain⟨w1,hw1⟩:∃ w1,((w.alloc (.cells #[.int .i64 n,.slice a m ca] 67)).alloc (.cells #[.int .i64 n,.slice b k cb] 67)).alloc (.cells #[.int .i64 0,.slice none 0 0] 67)=w1:=⟨_,rfl⟩;have P0:w1.heap[w.heap.size]?=some (.cells #[.int .i64 n,.slice a m ca] 67 (0,0)):=by rw[← hw1];exact heap_old (heap_old K0 _) _
 have P1:w1.heap[w.heap.size+1]?=some (.cells #[.int .i64 n,.slice b k cb] 67 (0,0)):=by rw[← hw1];exact heap_old (heap_at _ _ _ _ (by simp)) _
 have P2:w1.heap[w.heap.size+1+1]?=some (.cells #[.int .i64 0,.slice none 0 0] 67 (0,0)):=by rw[← hw1];exact heap_at _ _ _ _ (by simp)
 have B0:Below w.heap.size w w1:=by rw[← hw1];exact(((Below.refl _ w).alloc nr_ _).alloc (by simp) _).alloc (by simp;omega) _
 have hs1:w1.heap.size=w.heap.size+3:=by rw[← hw1];simp
 have N0:=hd_ P0;have N1:=hd_ P1;have N2:=hd_ P2;have D0:=hd_ B0;have S0:=hd_ hs1;have Hw1:=hd_ hw1;obtain⟨j1,j2,-,-⟩:=obj_two P0;obtain⟨j3,j4,-,-⟩:=obj_two P1;rw[← hw1] at j1 j2 j3 j4;clear P0 P1 P2 B0 K0 hw1 hs1;go_enter Tryz.func60,Tryz.ntmps60;go_wp2_with fail;rw[Hw1.out];clear j1 j2 j3 j4 Hw1;refine cm_ (HC.out w1 D0.out) ?_;rintro e w2 ⟨rfl,hb1⟩;have P0:=hk_ N0 hb1;have P1:=hk_ N1 hb1;have P2:=hk_ N2 hb1;have D1:=bt_ D0 hb1;have S1:Hid (w.heap.size+3≤w2.heap.size):=by show _≤_;rw[← S0.out];exact hb1.size
 clear hb1 N0 N1 N2 D0 S0 HC;obtain⟨k1,k2,-,-⟩:=obj_two P0.out;obtain⟨k3,k4,-,-⟩:=obj_two P1.out;have hnon:Nonempty (NWm w2):=⟨⟨w2,Below.refl _ _⟩⟩;have q1:=NWm.cell k1;have q2:=NWm.cell k2;have q3:=NWm.cell k3;have q4:=NWm.cell k4;have I:Hid (Below w2.heap.size w2 w2.drew):=(Below.refl _ _).drew;go_wp2_with fail;clear k1 k2 k3 k4;refine RW.wp_region_readers 15 [(2,0),(1,1),(2,3),(1,4),(2,7),(1,8),(2,10),(1,11),(0,2),(0,5),(0,6),(0,9),(0,12),(2,13),(2,14),(0,15),(0,16)] (fun w'=>∃ p:NWm w2,w'=p.w) (by kernel_rfl) (by kernel_rfl) ?_ ?_
 ·exact⟨⟨_,I.out⟩,rfl⟩
 iterate 8 ((first | refine RW.walkR_any ?_ | refine RW.walkR_read ?_);simp only[dsc_,dz_,tsc_,tz_];go_big_quiet_step (fail);refine wq_ ?_)
 clear hnon q1 q2 q3 q4;have D2:=bt_ D1 I.out;refine wm_ rfl ?_;go_wp2_with fail;refine cm_ (HLa.out _ D2.out) ?_;rintro e w3 ⟨a3,c3,K3,rfl,hM3,hb3⟩;have I3:=bt_ I hb3;have D3:=bt_ D2 hb3;have M3:Hid (BldS w3 w2.heap.size a3 c3 m n K3 (ent A)):=hM3;clear hM3 hb3 HLa D2 I;go_wp2_with fail;refine⟨⟨⟨_,I3.out⟩,rfl⟩,?_⟩;refine wm_ rfl ?_;go_wp2_with fail;refine cm_ (HLb.out _ D3.out) ?_;rintro e w4 ⟨a4,c4,K4,rfl,hM4,hb4⟩;have I4:=bt_ I3 hb4;have D4:=bt_ D3 hb4;have M4:Hid (BldS w4 w3.heap.size a4 c4 k n K4 (ent B)):=hM4;have M34:=hd_ (M3.out.below hb4 nr_);have hsz3:=I3.out.size;have hr3:Hid (∀ i,i<m→(K3 i).1<w3.heap.size):=fun i hi=>(M3.out.row i hi).lt
 have ho3:Hid (∀ g,(Value.slice a3 m c3).ownBlock=some g→g<w3.heap.size):=fun g hg=>(M3.out.size hg).2
 have H43:=hd_ hb4.size;clear hM4 hb4 HLb I3 D3 M3;go_wp2_with fail;refine⟨⟨⟨_,I4.out⟩,rfl⟩,?_⟩;have hO3:=M34.out.own;have hnil:=hd_ (fun h:a4=none=>BldS.nilv (h ▸ M4.out));have hRd:=hd_ M4.out.hd;have hszz:Hid (w2.heap.size≤w4.heap.size):=I4.out.size;refine wm_ rfl ?_
 go_wp2_with (at_builtin;refine wpList_append_rd_at rfl (.tmp 16) (.tmp 19) 112 rfl elLL _ rfl hO3 a4 k c4 (hdrs K4 n k) rfl hnil.out (hdrs_length _ _ _) hRd.out ?c1 (by omega) (by omega) hszz.out ?_)
 case c1 =>
  intro u hu;unfold hdrs at hu;obtain⟨i,_,rfl⟩:=List.mem_map.1 hu;rfl
 intro v' w5 hown5 hg5 hs5;obtain⟨a5,c5,rfl⟩:=own_form hown5;have M5:=BldS.cat M34.out M4.out hsz3 hr3.out ho3.out hown5 hg5 hs5;have MV5:=hd_ (M5.mat.congr (fun i hi j _=>HE.out i hi j));have hb5:Below w2.heap.size w4 w5:=⟨hg5.os,hg5.tape,hg5.output,hg5.size,fun i hi=>hg5.block i (by have:=hszz.out;omega) (fun e=>by have:=(M34.out.size e.symm).1;omega)⟩;have I5:=hd_ (I4.out.trans hb5);have D5:=hd_ (D4.out.trans (hb5.mono D1.out.size));clear hown5 hg5 hs5 M5 hb5 M34 M4 hO3 hnil hRd hr3 ho3 H43 hsz3 I4 D4;have HF5:=hd_ (HF.out w5 D5.out w2.heap.size _ MV5.out I5.out.size D1.out.size);clear HF MV5;go_wp2_with fail;refine⟨⟨⟨_,I5.out⟩,rfl⟩,?_⟩;refine wm_ rfl ?_;go_wp2_with fail;refine cm_ HF5.out ?_;rintro e w6 ⟨v6,Ks,rfl,hM6,hH,hRt,hS6,hLn,hBd,hb6⟩;have I6:=hd_ (I5.out.trans hb6);have D6:=hd_ (D5.out.trans (hb6.mono D1.out.size));have HS6:=hd_ (HSh.out w6 D6.out w2.heap.size v6 Ks hM6 hRt hLn hBd);have QH:=hd_ hH;have QR:=hd_ hRt;have QS:=hd_ hS6;clear hM6 hH hRt hLn hBd hS6 hb6 HF5 HSh I5 D5;go_wp2_with fail;refine⟨⟨⟨_,I6.out⟩,rfl⟩,?_⟩;refine wm_ rfl ?_;go_wp2_with fail;refine cm_ HS6.out ?_;rintro e w7 ⟨hb7,hsh⟩;have I5:=bt_ I6 hb7;have D5:=bt_ D6 hb7;have P5:=hk_ P2 I5.out;have S4:Hid (w.heap.size+3≤w6.heap.size):=Nat.le_trans S1.out I6.out.size;clear hb7 HS6 I6 D6 P0 P1 P2 S1;unfold latV at hsh;rcases hsh with⟨hfit,a6,c6,K6,rfl,hbl⟩|⟨hnf,rfl⟩
 ·have Hf:=hd_ hfit;have Hb:=hd_ hbl;clear hfit hbl;go_wp2_with fail;refine⟨⟨⟨_,I5.out⟩,rfl⟩,?_⟩;iterate 2 ((first | refine RW.walkR_any ?_ | refine RW.walkR_read ?_);simp only[dsc_,dz_,tsc_,tz_];go_big_quiet_step (fail);refine wq_ ?_)
  refine wm_ rfl ?_
  go_wp2_with (refine wpList_store_row rfl 67 (.tmp 4) (.tmp 27) rfl (w.heap.size+1+1) _ rfl rfl 67 _ P5.out (by kernel_rfl) rfl (by simp[Value.oneCell']) ?_)
  refine wm_ rfl ?_;go_wp2_with fail;simp only[RW.walkR];go_wp2_with fail;refine bodyPost_ret (results_ct rfl _ _ (w.heap.size+1+1) 67 _ (0,0) _ rfl (setRow_heap _ _ _ _ _ _ P5.out) Tryz.underlying67 rfl (by kernel_rfl)) rfl ⟨below_setRow D5.out (by omega) _,Ks,QH.out,QR.out,fun y=>(QS.out y).symm.trans (HS.out y),.inl ⟨⟨QH.out,QR.out,Hf.out⟩,a6,c6,K6,rfl,(Hb.out.setR (by have:=S4.out;omega) _).lower (by have:=S4.out;omega)⟩⟩
 ·have Hf:=hd_ hnf;clear hnf;go_wp2_with fail;refine⟨⟨⟨_,I5.out⟩,rfl⟩,?_⟩;iterate 2 ((first | refine RW.walkR_any ?_ | refine RW.walkR_read ?_);simp only[dsc_,dz_,tsc_,tz_];go_big_quiet_step (fail);refine wq_ ?_)
  refine wm_ rfl ?_
  go_wp2_with (refine wpList_store_row rfl 67 (.tmp 4) (.tmp 27) rfl (w.heap.size+1+1) _ rfl rfl 67 _ P5.out (by kernel_rfl) rfl (by simp[Value.oneCell']) ?_)
  refine wm_ rfl ?_;go_wp2_with fail;simp only[RW.walkR];go_wp2_with fail;refine bodyPost_ret (results_ct rfl _ _ (w.heap.size+1+1) 67 _ (0,0) _ rfl (setRow_heap _ _ _ _ _ _ P5.out) Tryz.underlying67 rfl (by kernel_rfl)) rfl ⟨below_setRow D5.out (by omega) _,Ks,QH.out,QR.out,fun y=>(QS.out y).symm.trans (HS.out y),.inr ⟨Hf.out,rfl⟩⟩
theorem growL_any(w:World)(n:Nat)(hn:n≤2000):
  Calls Tryz.prog 100 #[.slice none 0 0,.int .i64 n] w fun e w'=>∃ a c,e = .returned (.slice a 0 c)∧w'.ownsRow w.heap.size 84 1 (.slice a 0 c) 0 []∧Below w.heap.size w w':=by
 rcases Nat.eq_zero_or_pos n with rfl|h0
 ·go_enter Tryz.func100,Tryz.ntmps100;go_wp2_with fail;go_ret;exact⟨none,0,rfl,World.ownsRow_nil ..,Below.refl _ _⟩
 ·have h0':(0:Int)<n:=by omega
  have hw1:IntKind.i64.wrap ((n:Int)-0)=n:=iw_ _ (by omega);go_enter Tryz.func100,Tryz.ntmps100
  go_wp2_with (at_builtin;refine wpList_append_zeros rfl (.tmp 20) (.tmp 21) 113 3 rfl elL rfl rfl Tryz.underlying3 (.slice none 0 0) n rfl rfl (World.ownsRow_nil w w.heap.size _ 1) nr_ (by omega) (by omega) ?_)
  intro v' w1 hown hg _;obtain⟨a,c,rfl⟩:=own_form hown;have O:=hd_ (own_cut0 hown h0);have B:Hid (Below w.heap.size w w1):=(Below.refl _ _).grown hg nr_ (fun k hk=>by simp[Value.ownBlock] at hk);obtain⟨g,cap,hv,-,-,hcap,-,-⟩:=own_open hown h0;simp only[Value.slice.injEq] at hv;obtain⟨rfl,-,rfl⟩:=hv;clear hown hg;go_wp2_with fail;go_ret;exact⟨_,_,rfl,O.out,B.out⟩
def ConE (w w':World) (n:Nat) (xs:List Int) (e:Ending):Prop:=∃ a c,e = .returned (.slice a n c)∧w'.ownsRow w.heap.size 84 1 (.slice a n c) n (zs xs)∧Below w.heap.size w w'
theorem zs_one(xs:List Int):∀ u∈zs xs,u.oneCell'=true:=fun u hu=>by
 obtain⟨x,_,rfl⟩:=List.mem_map.1 hu;rfl
theorem concatL_any(w:World)(g g1 g2 c1 c2:Nat)(l1 l2:List Int)(hg:w.heap[g]?=some (.cells #[.slice (some ⟨g1,0,none⟩) l1.length c1,.slice (some ⟨g2,0,none⟩) l2.length c2] 113 (0,0)))
  (r1:Rd w (some ⟨g1,0,none⟩) (zs l1)) (r2:Rd w (some ⟨g2,0,none⟩) (zs l2)) (h1:l1.length≤1000) (h2:l2.length≤1000) :
  Calls Tryz.prog 62 #[.slice (some ⟨g,0,none⟩) 2 2] w fun e w'=>ConE w w' (l1.length+l2.length) (l1++l2) e:=by
 have HR1:=hd_ r1;have HR2:=hd_ r2;have HL1:=hd_ (zs_length l1);have HL2:=hd_ (zs_length l2);have HO1:=hd_ (zs_one l1);have HO2:=hd_ (zs_one l2);have HN1:Hid (some (⟨g1,0,none⟩:Addr)=none→l1.length=0∧c1=0):=fun h=>by cases h
 have HN2:Hid (some (⟨g2,0,none⟩:Addr)=none→l2.length=0∧c2=0):=fun h=>by cases h
 have HZ:Hid (zs (l1++l2)=zs l1++zs l2):=zs_app l1 l2;have HGr:Hid (∀ W,Calls Tryz.prog 100 #[.slice none 0 0,.int .i64 (l1.length+l2.length:Nat)] W fun e w'=>∃ a c,e = .returned (.slice a 0 c)∧w'.ownsRow W.heap.size 84 1 (.slice a 0 c) 0 []∧Below W.heap.size W w'):=fun W=>growL_any W _ (by omega)
 have k0:w.cell? ⟨g,0,none⟩=some (.slice (some ⟨g1,0,none⟩) l1.length c1):=by rw[cell_of_row w g 0 _ _ (0,0) hg];rfl
 have k1:w.cell? ⟨g,1,none⟩=some (.slice (some ⟨g2,0,none⟩) l2.length c2):=by rw[cell_of_row w g 1 _ _ (0,0) hg];rfl
 have hgs:=(Array.getElem?_eq_some_iff.1 hg).1;clear hg r1 r2;generalize zs l1=V1 at *;generalize zs l2=V2 at *;generalize l1.length=m1 at *;generalize l2.length=m2 at *;have hw1:IntKind.i64.wrap ((0:Int)+m1)=m1:=by rw[Int.zero_add];exact iw_ _ (by omega)
 have hw2:IntKind.i64.wrap ((m1:Int)+m2)=((m1+m2:Nat):Int):=by rw[← Int.natCast_add];exact iw_ _ (by omega)
 have hs2:¬ (((m1+m2:Nat):Int)<0):=by omega
 unfold ConE;go_enter Tryz.func62,Tryz.ntmps62;go_wp2_with fail
 go_loopw [3,11] (fun s i wr=>((i = .int .i64 0∧s = .int .i64 0)∨(i = .int .i64 1∧s = .int .i64 m1)∨(i = .int .i64 2∧s = .int .i64 (m1+m2:Nat)))∧Hid (Below w.heap.size w wr)) (fun _ i _=>2-(intOf i).toNat)
 case atStart=>exact⟨.inl ⟨rfl,rfl⟩,Below.refl _ _⟩
 case round =>
  obtain⟨h,HB0⟩:=hrel;have z0:=(HB0.out.cell (p:=⟨g,0,none⟩) hgs).trans k0;have z1:=(HB0.out.cell (p:=⟨g,1,none⟩) hgs).trans k1;clear k0 k1;rcases h with⟨rfl,rfl⟩|⟨rfl,rfl⟩|⟨rfl,rfl⟩
  ·clear HGr z1;go_wp2
   go_roundw
   case rel=>exact⟨.inr (.inl ⟨rfl,by first | rfl | (rw[hw1])⟩),HB0⟩
   case measure=>simp[intOf]
  ·clear HGr z0;go_wp2
   go_roundw
   case rel=>exact⟨.inr (.inr ⟨rfl,by first | rfl | (rw[hw2])⟩),HB0⟩
   case measure=>simp[intOf]
  ·obtain⟨wo,hwo⟩:∃ wo:World,wo=wr:=⟨_,rfl⟩;subst hwo;go_wp2_with fail;refine cm_ (HGr.out _) ?_;rintro e w1 ⟨a,c,rfl,ho,hb⟩;have O:=hd_ ho;have B:=hd_ hb;have hsz0:=HB0.out.size;have hgo:=Nat.lt_of_lt_of_le hgs hsz0;clear ho hb HGr;go_wp2_with fail
   go_loopw [6,27] (fun v i wr=>((∃ a c,i = .int .i64 0∧v = .slice a 0 c∧Hid (wr.ownsRow wo.heap.size 84 1 (.slice a 0 c) 0 []))∨(∃ a c,i = .int .i64 1∧v = .slice a m1 c∧Hid (wr.ownsRow wo.heap.size 84 1 (.slice a m1 c) m1 V1))∨(∃ a c,i = .int .i64 2∧v = .slice a (m1+m2) c∧Hid (wr.ownsRow wo.heap.size 84 1 (.slice a (m1+m2) c) (m1+m2) (V1++V2))))∧Hid (Below wo.heap.size wo wr)) (fun _ i _=>2-(intOf i).toNat)
   case atStart=>exact⟨.inl ⟨a,c,rfl,rfl,O⟩,B⟩
   case round =>
    clear O B;obtain⟨h,HB⟩:=hrel;have q0:=(HB.out.cell (p:=⟨g,0,none⟩) hgo).trans z0;have q1:=(HB.out.cell (p:=⟨g,1,none⟩) hgo).trans z1;clear z0 z1;rcases h with⟨a,c,rfl,rfl,HO⟩|⟨a,c,rfl,rfl,HO⟩|⟨a,c,rfl,rfl,HO⟩
    ·clear q1
     go_wp2_with (at_builtin;refine wpList_append_rd rfl (.tmp 31) (.tmp 32) 113 rfl elL _ rfl HO.out (some ⟨g1,0,none⟩) m1 c1 V1 rfl HN1.out HL1.out (HR1.out.below (HB0.out.trans (HB.out.mono hsz0)) nr_) HO1.out (by omega) (by omega) HB.out.size ?_)
     intro v' w3 hown hg3;obtain⟨a3,c3,rfl⟩:=own_form hown;have B3:Hid (Below wo.heap.size wo w3):=HB.out.grown hg3 HB.out.size (fun kk hk=>(HO.out.lt kk hk).1);have O3:=hd_ hown;clear hown hg3 HB HO;go_wp2
     go_roundw
     case rel=>exact⟨.inr (.inl ⟨a3,c3,rfl,rfl,O3⟩),B3⟩
     case measure=>simp[intOf]
    ·clear q0
     go_wp2_with (at_builtin;refine wpList_append_rd rfl (.tmp 31) (.tmp 32) 113 rfl elL _ rfl HO.out (some ⟨g2,0,none⟩) m2 c2 V2 rfl HN2.out HL2.out (HR2.out.below (HB0.out.trans (HB.out.mono hsz0)) nr_) HO2.out (by omega) (by omega) HB.out.size ?_)
     intro v' w3 hown hg3;obtain⟨a3,c3,rfl⟩:=own_form hown;have B3:Hid (Below wo.heap.size wo w3):=HB.out.grown hg3 HB.out.size (fun kk hk=>(HO.out.lt kk hk).1);have O3:=hd_ hown;clear hown hg3 HB HO;go_wp2
     go_roundw
     case rel=>exact⟨.inr (.inr ⟨a3,c3,rfl,rfl,O3⟩),B3⟩
     case measure=>simp[intOf]
    ·clear q0 q1;have HOx:=hd_ (own_lower HO.out hsz0);go_wp2_with fail;go_ret;exact⟨a,c,rfl,by rw[HZ.out];exact HOx.out,HB0.out.trans (HB.out.mono hsz0)⟩
end Go.Proofs.YtepicfdhphiiaaaGreatDoor

/- The rows of an intersection, plain. -/
namespace Go.Proofs.YtepicfdhphiiaaaGreatDoor

/-- Rows twice, and rows with zeros. -/
def iwL (A B : List (List Int)) (n : Nat) : List (List Int) := A.map (fun r => r ++ r) ++ B.map fun r => r ++ List.replicate n 0
theorem iwL_length (A B : List (List Int)) (n : Nat) : (iwL A B n).length = A.length + B.length := by simp [iwL]
theorem iwL_rect {A B : List (List Int)} {n : Nat} (hA : Rect n A) (hB : Rect n B) : Rect (n + n) (iwL A B n) := fun r hr => by
  rcases List.mem_append.1 hr with h | h
  · obtain ⟨s, hs, rfl⟩ := List.mem_map.1 h
    rw [List.length_append, hA s hs]
  · obtain ⟨s, hs, rfl⟩ := List.mem_map.1 h
    rw [List.length_append, hB s hs, List.length_replicate]
theorem iwL_left {A B : List (List Int)} {n i : Nat} (h : i < A.length) : (iwL A B n).getD i [] = A.getD i [] ++ A.getD i [] := by
  unfold iwL
  rw [List.getD_eq_getElem?_getD, List.getElem?_append_left (by simpa using h), List.getElem?_map, List.getElem?_eq_getElem h, List.getD_eq_getElem?_getD, List.getElem?_eq_getElem h]; rfl
theorem iwL_right {A B : List (List Int)} {n i : Nat} (h : i < B.length) : (iwL A B n).getD (A.length + i) [] = B.getD i [] ++ List.replicate n 0 := by
  unfold iwL
  rw [List.getD_eq_getElem?_getD, List.getElem?_append_right (by simp), List.length_map, Nat.add_sub_cancel_left, List.getElem?_map, List.getElem?_eq_getElem h, List.getD_eq_getElem?_getD, List.getElem?_eq_getElem h]; rfl
theorem getD_app {xs ys : List Int} {n : Nat} (h : xs.length = n) (j : Nat) : (xs ++ ys).getD j 0 = if j < n then xs.getD j 0 else ys.getD (j - n) 0 := by
  by_cases e : j < n
  · rw [if_pos e, List.getD_eq_getElem?_getD, List.getElem?_append_left (by omega), ← List.getD_eq_getElem?_getD]
  · rw [if_neg e, List.getD_eq_getElem?_getD, List.getElem?_append_right (by omega), ← List.getD_eq_getElem?_getD, h]
theorem getD_rep0 (n j : Nat) : (List.replicate n (0 : Int)).getD j 0 = 0 := by
  rw [List.getD_eq_getElem?_getD, List.getElem?_replicate]
  split <;> rfl
theorem iwL_bound {A B : List (List Int)} {n M : Nat} (hA : Rect n A) (hB : Rect n B) (h1 : ∀ i, i < A.length → ∀ j, (ent A i j).natAbs ≤ M) (h2 : ∀ i, i < B.length → ∀ j, (ent B i j).natAbs ≤ M) : ∀ i, i < (iwL A B n).length → ∀ j, (ent (iwL A B n) i j).natAbs ≤ M := fun i hi j => by
  rw [iwL_length] at hi
  unfold ent
  by_cases e : i < A.length
  · rw [iwL_left e, getD_app (rect_len hA e)]
    split
    · exact h1 i e _
    · exact h1 i e _
  · obtain ⟨k, rfl⟩ : ∃ k, i = A.length + k := ⟨i - A.length, by omega⟩
    rw [iwL_right (by omega), getD_app (rect_len hB (by omega)), getD_rep0]
    split
    · exact h2 k (by omega) _
    · simp
theorem inter_sp {A B : List (List Int)} {n : Nat} (hA : Rect n A) (hB : Rect n B) (y : Vc) : Sp (vfs (iwL A B n)) (prV n vz y) ↔ Sp (vfs A) y ∧ Sp (vfs B) y := by
  have e1 : vfs (A.map fun r => r ++ r) = (vfs A).map fun x => prV n x x := by
    unfold vfs
    rw [List.map_map, List.map_map]
    refine List.map_congr_left fun r hr => ?_
    funext j
    show (r ++ r).getD j 0 = if j < n then r.getD j 0 else r.getD (j - n) 0
    exact getD_app (hA r hr) j
  have e2 : vfs (B.map fun r => r ++ List.replicate n 0) = (vfs B).map fun x => prV n x vz := by
    unfold vfs
    rw [List.map_map, List.map_map]
    refine List.map_congr_left fun r hr => ?_
    funext j
    show (r ++ List.replicate n 0).getD j 0 = if j < n then r.getD j 0 else 0
    rw [getD_app (hB r hr), getD_rep0]
  have e3 : vfs (iwL A B n) = vfs (A.map fun r => r ++ r) ++ vfs (B.map fun r => r ++ List.replicate n 0) := by
    unfold vfs iwL
    rw [List.map_append]
  rw [e3, e1, e2, sp_append]
  constructor
  · rintro ⟨z, h1, h2⟩
    obtain ⟨u, hu, rfl⟩ := (sp_map (pr_lin id_lin id_lin)).1 h1
    obtain ⟨v, hv, h3⟩ := (sp_map (pr_lin id_lin zero_lin)).1 h2
    have h4 : y = u := by
      funext j
      have := congrFun h3 (n + j)
      unfold prV at this
      rw [if_neg (by omega), if_neg (by omega), if_neg (by omega), Nat.add_sub_cancel_left] at this
      have h0 : (vz : Vc) j = 0 := rfl
      omega
    subst h4
    have h5 : y = fun i => -1 * v i := by
      funext i
      rcases Nat.lt_or_ge i n with h | h
      · have := congrFun h3 i
        unfold prV at this
        rw [if_pos h, if_pos h, if_pos h] at this
        have h0 : (vz : Vc) i = 0 := rfl
        omega
      · rw [rect_supp hA y hu i h, rect_supp hB v hv i h]; omega
    exact ⟨hu, by rw [h5]; exact sp_mul (-1) hv⟩
  · rintro ⟨h1, h2⟩
    refine ⟨prV n y y, (sp_map (pr_lin id_lin id_lin)).2 ⟨y, h1, rfl⟩, (sp_map (pr_lin id_lin zero_lin)).2 ⟨fun i => -1 * y i, sp_mul (-1) h2, ?_⟩⟩
    funext i
    unfold prV
    have h0 : ∀ i, (vz : Vc) i = 0 := fun _ => rfl
    split
    · show (vz : Vc) i - y i = -1 * y i
      rw [h0]; omega
    · show y (i - n) - y (i - n) = (vz : Vc) (i - n)
      rw [h0]; omega

end Go.Proofs.YtepicfdhphiiaaaGreatDoor

namespace Go.Proofs.YtepicfdhphiiaaaGreatDoor
open Go.RowKit
theorem con_rows{W:World}{B n g1 g2 c1 c2:Nat}{xs ys:List Int}(h1:W.ownsRow B 84 1 (.slice (some ⟨g1,0,none⟩) n c1) n (zs xs))(h2:W.ownsRow B 84 1 (.slice (some ⟨g2,0,none⟩) n c2) n (zs ys))(l1:xs.length=n)(l2:ys.length=n)(hn:n≤1000)(N:Nat)(hN:n+n=N):
  Calls Tryz.prog 62 #[.slice (some ⟨W.heap.size,0,none⟩) 2 2] (W.alloc (.cells #[.slice (some ⟨g1,0,none⟩) n c1,.slice (some ⟨g2,0,none⟩) n c2] 113)) fun e w'=>ConE (W.alloc (.cells #[.slice (some ⟨g1,0,none⟩) n c1,.slice (some ⟨g2,0,none⟩) n c2] 113)) w' N (xs++ys) e:=by
 have hb:Below W.heap.size W (W.alloc (.cells #[.slice (some ⟨g1,0,none⟩) n c1,.slice (some ⟨g2,0,none⟩) n c2] 113)):=(Below.refl _ W).alloc nr_ _;have hg:=heap_at W #[.slice (some ⟨g1,0,none⟩) n c1,.slice (some ⟨g2,0,none⟩) n c2] 113 _ rfl;have:=concatL_any _ W.heap.size g1 g2 c1 c2 xs ys (by rw[l1,l2];exact hg) ((own_rd h1).below hb nr_) ((own_rd h2).below hb nr_) (by omega) (by omega)
 rw[l1,l2,hN] at this;exact this
theorem inter_any_lat(w:World)(a b:Option Addr)(ca cb n:Nat)(A B:List (List Int))(hA:RdM w a A)(hB:RdM w b B)(RA:LatR n A)(RB:LatR n B)(ha:A.length≤ca)(hb:B.length≤cb)(hn0:0<n)(hn:n≤6)(L:Laid w):
  Calls Tryz.prog 32 #[latV n a A.length ca,latV n b B.length cb] w fun e w'=>LatE w w' n (fun y=>Sp (vfs A) y∧Sp (vfs B) y) e:=by
 have hlA:=RA.len;have hlB:=RB.len;have hll:=iwL_length A B n;have hrect:=iwL_rect RA.r RB.r;have hent:=iwL_bound RA.r RB.r RA.nine RB.nine;have HC:=hd_ (fun W (hW:Below w.heap.size w W)=>checkBoth_ok W a b ca cb n A B (hA.below hW nr_) (hB.below hW nr_) RA RB ha hb hn);obtain⟨A1,hA1,hrowA⟩:=hA;obtain⟨B1,hB1,hrowB⟩:=hB;have HcA:=hd_ (fun (hpos:0<A.length)=>by
  obtain⟨g,off,e,hb,hcell⟩:=hA1.open (by simpa using hpos);exact(⟨g,off,e,fun W (hW:Below w.heap.size w W) i (hi2:i<A.length)=>(hW.cell (p:=⟨g,off+i,none⟩) hb).trans (by rw[hcell i _ (by rw[List.getElem?_map,List.getElem?_range hi2];rfl)];show some (Value.slice _ (A.getD i []).length _)=_;rw[rect_len RA.r hi2])⟩:∃ g off,a=some ⟨g,off,none⟩∧∀ W,Below w.heap.size w W→∀ i,i<A.length→W.cell? ⟨g,off+i,none⟩=some (.slice (A1 i).1 n (A1 i).2)))
 have HcB:=hd_ (fun (hpos:0<B.length)=>by
  obtain⟨g,off,e,hb,hcell⟩:=hB1.open (by simpa using hpos);exact(⟨g,off,e,fun W (hW:Below w.heap.size w W) i (hi2:i<B.length)=>(hW.cell (p:=⟨g,off+i,none⟩) hb).trans (by rw[hcell i _ (by rw[List.getElem?_map,List.getElem?_range hi2];rfl)];show some (Value.slice _ (B.getD i []).length _)=_;rw[rect_len RB.r hi2])⟩:∃ g off,b=some ⟨g,off,none⟩∧∀ W,Below w.heap.size w W→∀ i,i<B.length→W.cell? ⟨g,off+i,none⟩=some (.slice (B1 i).1 n (B1 i).2)))
 have HoA:=hd_ (fun i (hi:i<A.length) W (hW:Below w.heap.size w W)=>by
  have hle:=rect_len RA.r hi;have:=longOf_any W (A1 i).1 (A1 i).2 (A.getD i []) ((hrowA i hi).below hW nr_) (RA.i64 _ (lrow_mem hi)) (by omega) (by omega) (L.below hW)
  rw[hle] at this;exact this)
 have HoB:=hd_ (fun i (hi:i<B.length) W (hW:Below w.heap.size w W)=>by
  have hle:=rect_len RB.r hi;have:=longOf_any W (B1 i).1 (B1 i).2 (B.getD i []) ((hrowB i hi).below hW nr_) (RB.i64 _ (lrow_mem hi)) (by omega) (by omega) (L.below hW)
  rw[hle] at this;exact this)
 have HlA:Hid (∀ i,i<A.length→(A.getD i []).length=n):=fun i hi=>rect_len RA.r hi
 have HlB:Hid (∀ i,i<B.length→(B.getD i []).length=n):=fun i hi=>rect_len RB.r hi
 have HeA:Hid (∀ i,i<A.length→ent (iwL A B n) i=fun j=>(A.getD i []++A.getD i []).getD j 0):=fun i hi=>by show (fun c=>((iwL A B n).getD i []).getD c 0)=_;rw[iwL_left hi]
 have HeB:Hid (∀ i,i<B.length→ent (iwL A B n) (A.length+i)=fun j=>(B.getD i []++List.replicate n 0).getD j 0):=fun i hi=>by show (fun c=>((iwL A B n).getD (A.length+i) []).getD c 0)=_;rw[iwL_right hi]
 have HZ:=hd_ (fun W (hW:Below w.heap.size w W)=>zeros_any W n hn0 (by omega) (L.below hW));obtain⟨N,hN⟩:∃ N,n+n=N:=⟨_,rfl⟩;have HN:=hd_ hN;have HF:=hd_ (fun W (hW:Below w.heap.size w W) Bb v (hV:MatV W Bb v (A.length+B.length) N (ent (iwL A B n))) (hB:Bb≤W.heap.size) (hBw:w.heap.size≤Bb)=>form_law W Bb 9 N v (iwL A B n) (by rw[← hN];exact hrect) hent (fun d hd=>by rw[hll] at hd ⊢;exact seq_nine _ (by omega) d (by omega)) (by rw[hll];exact hV) hB (by rw[hll];omega) (by omega) (fun W2 hW2=>L.below (hW.trans (hW2.mono hBw))));have HBh:=hd_ (fun W (hW:Below w.heap.size w W) Bb v Bs (hB:IsHnf Bs) (hrB:Rect N Bs) (hlB:Bs.length≤(iwL A B n).length) (hle:∀ i,i<Bs.length→∀ j,(ent Bs i j).natAbs≤10^eD 9 (iwL A B n).length (iwL A B n).length) (hv:MatV W Bb v Bs.length N (ent Bs)) (hBW:Bb≤W.heap.size) (hBw:w.heap.size≤Bb) =>
  behind_any W Bb n n v Bs (by rw[hN];exact hrB) (hnf_bh (by rw[hN];exact hrB) hB).1 (hnf_bh (k:=n) (by rw[hN];exact hrB) hB).2.1 (fun i hi j=>Nat.le_trans (ent_drop_le hle i hi j) (lim_ten (by rw[hll];exact(seq_nine _ (by omega) _ (by omega)).2))) (by rw[hN];exact hv) hBW (by rw[hll] at hlB;omega) hn0 (by omega) (fun W2 hW2=>L.below (hW.trans (hW2.mono hBw))))
 have HSh:=hd_ (fun W (hW:Below w.heap.size w W) Bb v Bs (hv:MatV W Bb v Bs.length n (ent Bs)) (hrb:Rect n Bs) (hlb:Bs.length≤(iwL A B n).length) (hzb:∀ i,i<Bs.length→∀ j,(ent Bs i j).natAbs≤10^eD 9 (iwL A B n).length (iwL A B n).length)=>shorts_any W Bb n v Bs hv hrb (fun i hi j _=>Nat.le_trans (hzb i hi j) (lim_ten (by rw[hll];exact(seq_nine _ (by omega) _ (by omega)).2))) (by rw[hll] at hlb;omega) hn0 (by omega) (fun W2 hW2=>L.below (bv_ hW hW2)));have HS:=hd_ (inter_sp RA.r RB.r);have e2:IntKind.i64.wrap (2*(n:Int))=(N:Int):=by rw[show (2:Int)*n=((N:Nat):Int) by omega];exact iw_ _ (by omega)
 have hN12:N≤12:=by omega
 have hN0:0<N:=by omega
 clear hA1 hB1 hrowA hrowB RA RB ha hb L hrect hent hll hN;unfold latV at HC ⊢;obtain⟨m,hm⟩:∃ m,A.length=m:=⟨_,rfl⟩;obtain⟨k,hk⟩:∃ k,B.length=k:=⟨_,rfl⟩;rw[hm] at HC HcA HoA HlA HeA HeB HF hlA ⊢;rw[hk] at HC HcB HoB HlB HeB HF hlB ⊢;clear hm hk;have K0:=heap_at w #[.int .i64 n,.slice a m ca] 67 _ rfl;obtain⟨w1,hw1⟩:∃ w1,((w.alloc (.cells #[.int .i64 n,.slice a m ca] 67)).alloc (.cells #[.int .i64 n,.slice b k cb] 67)).alloc (.cells #[.int .i64 0,.slice none 0 0] 67)=w1:=⟨_,rfl⟩;have P0:w1.heap[w.heap.size]?=some (.cells #[.int .i64 n,.slice a m ca] 67 (0,0)):=by rw[← hw1];exact heap_old (heap_old K0 _) _
 have P1:w1.heap[w.heap.size+1]?=some (.cells #[.int .i64 n,.slice b k cb] 67 (0,0)):=by rw[← hw1];exact heap_old (heap_at _ _ _ _ (by simp)) _
 have P2:w1.heap[w.heap.size+1+1]?=some (.cells #[.int .i64 0,.slice none 0 0] 67 (0,0)):=by rw[← hw1];exact heap_at _ _ _ _ (by simp)
 have B0:Below w.heap.size w w1:=by rw[← hw1];exact(((Below.refl _ w).alloc nr_ _).alloc (by simp) _).alloc (by simp;omega) _
 have hs1:w1.heap.size=w.heap.size+3:=by rw[← hw1];simp
 have N0:=hd_ P0;have N1:=hd_ P1;have N2:=hd_ P2;have D0:=hd_ B0;have S0:=hd_ hs1;have Hw1:=hd_ hw1;obtain⟨j1,j2,-,-⟩:=obj_two P0;obtain⟨j3,j4,-,-⟩:=obj_two P1;rw[← hw1] at j1 j2 j3 j4;clear P0 P1 P2 B0 K0 hw1 hs1;go_enter Tryz.func32,Tryz.ntmps32;go_wp2_with fail;rw[Hw1.out];clear j1 j2 j3 j4 Hw1;refine cm_ (HC.out w1 D0.out) ?_;rintro e w2 ⟨rfl,hb1⟩;have P0:=hk_ N0 hb1;have P1:=hk_ N1 hb1;have P2:=hk_ N2 hb1;have D1:=bt_ D0 hb1;have S1:Hid (w.heap.size+3≤w2.heap.size):=by show _≤_;rw[← S0.out];exact hb1.size
 clear hb1 N0 N1 N2 D0 S0 HC;obtain⟨k1,k2,-,-⟩:=obj_two P0.out;go_wp2_with fail
 go_loopw [8,25] (fun o z wr=>∃ (t:Nat) (a3:Option Addr) (c3:Nat) (K:Nat→Nat×Nat×Nat),t≤m∧z = .int .i64 t∧o = .slice a3 t c3∧Hid (BldS wr w2.heap.size a3 c3 t N K (ent (iwL A B n)))∧Hid (Below w2.heap.size w2 wr)) (fun _ z _=>m-(intOf z).toNat)
 case atStart=>exact⟨0,none,0,fun _=>(0,0,0),Nat.zero_le _,rfl,rfl,BldS.nil _ _ _ _ _,Below.refl _ _⟩
 case round =>
  clear k1 k2;obtain⟨t,a3,c3,K3,ht,rfl,rfl,O,D⟩:=hrel
  by_cases hlt:t<m
  ·have hlt':(t:Int)<m:=by omega
   have hltt:decide (t<m)=true:=decide_eq_true hlt;obtain⟨g0,off,rfl,hcl⟩:=HcA.out (by omega);have DW:=bt_ D1 D.out;have ct:=hcl wr DW.out t hlt;have HOt:=hd_ (HoA.out t hlt);have HLt:=hd_ (HlA.out t hlt);have HEt:=hd_ (HeA.out t hlt);have HI:=hd_ hlt;clear hcl;generalize (A1 t).1=a1 at *;generalize (A1 t).2=c1 at *;generalize A.getD t []=xs at *;go_wp2_with fail;refine cm_ (HOt.out wr DW.out) ?_;rintro e w3 ⟨a4,c4,rfl,hown,hb3⟩;obtain⟨g4,rfl,hg1,hg2,hg3⟩:=own_rowS hown hn0 HLt.out;have O3:=hd_ (own_lower hown D.out.size);have E3:=bt_ D hb3;have F3:=hd_ hb3;have DW3:=bt_ D1 E3.out;have HOt3:=hd_ (HOt.out w3 DW3.out);clear hown hb3 hg1 hg2 hg3 HOt ct DW;go_wp2_with fail;refine cm_ HOt3.out ?_;rintro e w4 ⟨a5,c5,rfl,hown,hb4⟩;obtain⟨g5,rfl,hg1,hg2,hg3⟩:=own_rowS hown hn0 HLt.out;have O4:=hd_ (own_lower hown E3.out.size);have O34:=hd_ (own_below O3.out hb4 nr_);have E4:=bt_ E3 hb4;have F4:=bt_ F3 hb4;have HCn:=hd_ (con_rows O34.out O4.out HLt.out HLt.out (by omega) N HN.out);have E5:=hd_ (E4.out.alloc E4.out.size (.cells #[.slice (some ⟨g4,0,none⟩) n c4,.slice (some ⟨g5,0,none⟩) n c5] 113));have F5:=hd_ (F4.out.alloc F4.out.size (.cells #[.slice (some ⟨g4,0,none⟩) n c4,.slice (some ⟨g5,0,none⟩) n c5] 113));clear hown hb4 hg1 hg2 hg3 HOt3 O3 O34 O4 E3 E4 F3 F4 DW3;go_wp2_with fail;generalize w4.alloc (.cells #[.slice (some ⟨g4,0,none⟩) n c4,.slice (some ⟨g5,0,none⟩) n c5] 113)=w5 at *;refine cm_ HCn.out ?_;rintro e w6 ⟨a6,c6,rfl,hown,hb6⟩;obtain⟨g6,rfl,hg1,hg2,hg3⟩:=own_rowS hown hN0 (by rw[List.length_append,HLt.out];exact HN.out);have E6:=bt_ E5 hb6;have F6:=bt_ F5 hb6;have O6:=hd_ (O.out.below F6.out nr_);have hO6:=O6.out.own;have Hne1:Hid (∀ i,i<t→(K3 i).1≠g6):=fun i hi e=>by have:=(O.out.row i hi).lt;have:=F5.out.size;omega
   have Hne2:Hid ((Value.slice a3 t c3).ownBlock≠some g6):=fun e=>by have:=(O.out.size e).2;have:=F5.out.size;omega
   have HBg:Hid (w2.heap.size≤g6):=by have:=E5.out.size;show _≤_;omega
   have G2:=hd_ hg2;have R6:Hid (RowS w6 g6 0 N (ent (iwL A B n) t)):=hg3.congr fun j _=>by rw[HEt.out]
   clear hown hb6 hg1 hg2 hg3 HCn O D E5 F5 F6
   go_wp2_with (at_builtin;refine append_new_at rfl (.tmp 29) (.tmp 36) 112 rfl elLL _ 1 [.slice (some ⟨g6,0,none⟩) N c6] rfl rfl hO6 E6.out.size rfl ?c1 (by omega) (by omega) ?_)
   case c1=>first | rfl | (intro u hu;obtain rfl:=List.mem_singleton.1 hu;rfl)
   intro v' w7 hown7 hg7 hs7;obtain⟨a7,c7,rfl⟩:=own_form hown7;have B7:Hid (Below w2.heap.size w2 w7):=((E6.out.alloc E6.out.size _)).grown hg7 (Nat.le_trans E6.out.size (by simp)) (fun kk hk=>(O6.out.size hk).1);have O7:=hd_ (O6.out.push R6.out HBg.out G2.out Hne1.out Hne2.out _ hown7 hg7 hs7);clear hown7 hg7 hs7 O6 E6 hO6 Hne1 Hne2 HBg R6 G2;go_wp2
   go_roundw
   case rel =>
    refine⟨t+1,a7,c7,_,by have:=HI.out;omega,by go_num,rfl,⟨O7.out.own,O7.out.lo,O7.out.inj,fun i hi2=>(O7.out.row i hi2).congr fun j _=>?_,O7.out.cap⟩,B7⟩
    by_cases e:i=t
    ·rw[e,if_pos rfl]
    ·rw[if_neg e]
   case measure=>simp[intOf];omega
  ·have hlt':¬ (t:Int)<m:=by omega
   have hltt:decide (t<m)=false:=decide_eq_false hlt;obtain rfl:m=t:=by omega
   obtain⟨w3,rfl⟩:∃ x,x=wr:=⟨_,rfl⟩;have M1:=hk_ P1 D.out;obtain⟨k3,k4,-,-⟩:=obj_two M1.out;go_wp2_with fail
   go_loopw [8,42] (fun o z wx=>∃ (t:Nat) (a3:Option Addr) (c3:Nat) (K:Nat→Nat×Nat×Nat),t≤k∧z = .int .i64 t∧o = .slice a3 (m+t) c3∧Hid (BldS wx w2.heap.size a3 c3 (m+t) N K (ent (iwL A B n)))∧Hid (Below w2.heap.size w2 wx)) (fun _ z _=>k-(intOf z).toNat)
   case atStart=>exact⟨0,a3,c3,K3,Nat.zero_le _,rfl,rfl,O,D⟩
   case round =>
    clear k3 k4 O D M1;obtain⟨t,a3,c3,K3,ht,rfl,rfl,O,D⟩:=hrel
    by_cases hlt:t<k
    ·have hlt':(t:Int)<k:=by omega
     have hltt:decide (t<k)=true:=decide_eq_true hlt;obtain⟨g0,off,rfl,hcl⟩:=HcB.out (by omega);have DW:=bt_ D1 D.out;have ct:=hcl wr DW.out t hlt;have HOt:=hd_ (HoB.out t hlt);have HLt:=hd_ (HlB.out t hlt);have HEt:=hd_ (HeB.out t hlt);have HI:=hd_ hlt;clear hcl;generalize (B1 t).1=a1 at *;generalize (B1 t).2=c1 at *;generalize B.getD t []=xs at *;go_wp2_with fail;refine cm_ (HOt.out wr DW.out) ?_;rintro e w3 ⟨a4,c4,rfl,hown,hb3⟩;obtain⟨g4,rfl,hg1,hg2,hg3⟩:=own_rowS hown hn0 HLt.out;have O3:=hd_ (own_lower hown D.out.size);have E3:=bt_ D hb3;have F3:=hd_ hb3;have DW3:=bt_ D1 E3.out;have HOt3:=hd_ (HZ.out w3 DW3.out);clear hown hb3 hg1 hg2 hg3 HOt ct DW;go_wp2_with fail;refine cm_ HOt3.out ?_;rintro e w4 ⟨a5,c5,rfl,hown,hb4⟩;obtain⟨g5,rfl,hg1,hg2,hg3⟩:=own_rowS hown hn0 (List.length_replicate ..);have O4:=hd_ (own_lower hown E3.out.size);have O34:=hd_ (own_below O3.out hb4 nr_);have E4:=bt_ E3 hb4;have F4:=bt_ F3 hb4;have HCn:=hd_ (con_rows O34.out O4.out HLt.out (List.length_replicate ..) (by omega) N HN.out);have E5:=hd_ (E4.out.alloc E4.out.size (.cells #[.slice (some ⟨g4,0,none⟩) n c4,.slice (some ⟨g5,0,none⟩) n c5] 113));have F5:=hd_ (F4.out.alloc F4.out.size (.cells #[.slice (some ⟨g4,0,none⟩) n c4,.slice (some ⟨g5,0,none⟩) n c5] 113));clear hown hb4 hg1 hg2 hg3 HOt3 O3 O34 O4 E3 E4 F3 F4 DW3;go_wp2_with fail;generalize w4.alloc (.cells #[.slice (some ⟨g4,0,none⟩) n c4,.slice (some ⟨g5,0,none⟩) n c5] 113)=w5 at *;refine cm_ HCn.out ?_;rintro e w6 ⟨a6,c6,rfl,hown,hb6⟩;obtain⟨g6,rfl,hg1,hg2,hg3⟩:=own_rowS hown hN0 (by rw[List.length_append,HLt.out,List.length_replicate];exact HN.out);have E6:=bt_ E5 hb6;have F6:=bt_ F5 hb6;have O6:=hd_ (O.out.below F6.out nr_);have hO6:=O6.out.own;have Hne1:Hid (∀ i,i<m+t→(K3 i).1≠g6):=fun i hi e=>by have:=(O.out.row i hi).lt;have:=F5.out.size;omega
     have Hne2:Hid ((Value.slice a3 (m+t) c3).ownBlock≠some g6):=fun e=>by have:=(O.out.size e).2;have:=F5.out.size;omega
     have HBg:Hid (w2.heap.size≤g6):=by have:=E5.out.size;show _≤_;omega
     have G2:=hd_ hg2;have R6:Hid (RowS w6 g6 0 N (ent (iwL A B n) (m+t))):=hg3.congr fun j _=>by rw[HEt.out]
     clear hown hb6 hg1 hg2 hg3 HCn O D E5 F5 F6
     go_wp2_with (at_builtin;refine append_new_at rfl (.tmp 46) (.tmp 53) 112 rfl elLL _ 1 [.slice (some ⟨g6,0,none⟩) N c6] rfl rfl hO6 E6.out.size rfl ?c1 (by omega) (by omega) ?_)
     case c1=>first | rfl | (intro u hu;obtain rfl:=List.mem_singleton.1 hu;rfl)
     intro v' w7 hown7 hg7 hs7;obtain⟨a7,c7,rfl⟩:=own_form hown7;have B7:Hid (Below w2.heap.size w2 w7):=((E6.out.alloc E6.out.size _)).grown hg7 (Nat.le_trans E6.out.size (by simp)) (fun kk hk=>(O6.out.size hk).1);have O7:=hd_ (O6.out.push R6.out HBg.out G2.out Hne1.out Hne2.out _ hown7 hg7 hs7);clear hown7 hg7 hs7 O6 E6 hO6 Hne1 Hne2 HBg R6 G2;go_wp2
     go_roundw
     case rel =>
      refine⟨t+1,a7,c7,_,by have:=HI.out;omega,by go_num,rfl,⟨O7.out.own,O7.out.lo,O7.out.inj,fun i hi2=>(O7.out.row i hi2).congr fun j _=>?_,O7.out.cap⟩,B7⟩
      by_cases e:i=m+t
      ·rw[e,if_pos rfl]
      ·rw[if_neg e]
     case measure=>simp[intOf];omega
    ·have hlt':¬ (t:Int)<k:=by omega
     have hltt:decide (t<k)=false:=decide_eq_false hlt;obtain rfl:k=t:=by omega
     have DW:=bt_ D1 D.out;have HF5:=hd_ (HF.out wr DW.out w2.heap.size _ O.out.mat D.out.size D1.out.size);clear HF O HcA HcB HoA HoB HlA HlB HeA HeB HZ;go_wp2_with fail;refine cm_ HF5.out ?_;rintro e w6 ⟨v6,Bs,rfl,hM6,hH,hRt,hS6,hLn,hBd,hb6⟩;have D6:=hd_ (D.out.trans hb6);have DW6:=bt_ D1 D6.out;have HB6:=hd_ (HBh.out w6 DW6.out w2.heap.size v6 Bs hH hRt hLn hBd hM6 D6.out.size D1.out.size);have QS:Hid (IsHnf (bhL n Bs)∧Rect n (bhL n Bs)∧(bhL n Bs).length≤Bs.length∧∀ y,Sp (vfs (bhL n Bs)) y↔Sp (vfs A) y∧Sp (vfs B) y):=by
      have h1:=hnf_bh (k:=n) (by rw[HN.out];exact hRt) hH;exact⟨h1.1,h1.2.1,bhL_le _ _,fun y=>(h1.2.2 y).trans ((hS6 _).symm.trans (HS.out y))⟩
     have QL:Hid ((bhL n Bs).length≤(iwL A B n).length∧∀ i,i<(bhL n Bs).length→∀ j,(ent (bhL n Bs) i j).natAbs≤10^eD 9 (iwL A B n).length (iwL A B n).length):=⟨Nat.le_trans (bhL_le _ _) hLn,ent_drop_le hBd⟩;clear hM6 hH hRt hS6 hLn hBd hb6 HF5 HBh;generalize bhL n Bs=Ks at *;go_wp2_with fail;refine cm_ HB6.out ?_;rintro e w7 ⟨v7,rfl,hM7,hb7⟩;have D7:=hd_ (D6.out.trans hb7);have DW7:=bt_ D1 D7.out;have HS7:=hd_ (HSh.out w7 DW7.out w2.heap.size v7 Ks hM7 QS.out.2.1 QL.out.1 QL.out.2);have QH:=hd_ QS.out.1;have QR:=hd_ QS.out.2.1;have QY:=hd_ QS.out.2.2.2;clear hM7 hb7 HB6 HSh QS QL D6 DW6 DW;go_wp2_with fail;refine cm_ HS7.out ?_;rintro e w8 ⟨hb8,hsh⟩;have I5:=bt_ D7 hb8;have D5:=bt_ DW7 hb8;have P5:=hk_ P2 I5.out;have S4:Hid (w.heap.size+3≤w7.heap.size):=Nat.le_trans S1.out D7.out.size;clear hb8 HS7 D7 DW7 P0 P1 P2 S1;unfold latV at hsh;rcases hsh with⟨hfit,a6,c6,K6,rfl,hbl⟩|⟨hnf,rfl⟩
     ·have Hf:=hd_ hfit;have Hb:=hd_ hbl;clear hfit hbl
      go_wp2_with (refine wpList_store_row rfl 67 (.tmp 4) (.tmp 65) rfl (w.heap.size+1+1) _ rfl rfl 67 _ P5.out (by kernel_rfl) rfl (by simp[Value.oneCell']) ?_)
      refine bodyPost_ret (results_ct rfl _ _ (w.heap.size+1+1) 67 _ (0,0) _ rfl (setRow_heap _ _ _ _ _ _ P5.out) Tryz.underlying67 rfl (by kernel_rfl)) rfl ⟨below_setRow D5.out (by omega) _,Ks,QH.out,QR.out,QY.out,.inl ⟨⟨QH.out,QR.out,Hf.out⟩,a6,c6,K6,rfl,(Hb.out.setR (by have:=S4.out;omega) _).lower (by have:=S4.out;omega)⟩⟩
     ·have Hf:=hd_ hnf;clear hnf
      go_wp2_with (refine wpList_store_row rfl 67 (.tmp 4) (.tmp 65) rfl (w.heap.size+1+1) _ rfl rfl 67 _ P5.out (by kernel_rfl) rfl (by simp[Value.oneCell']) ?_)
      refine bodyPost_ret (results_ct rfl _ _ (w.heap.size+1+1) 67 _ (0,0) _ rfl (setRow_heap _ _ _ _ _ _ P5.out) Tryz.underlying67 rfl (by kernel_rfl)) rfl ⟨below_setRow D5.out (by omega) _,Ks,QH.out,QR.out,QY.out,.inr ⟨Hf.out,rfl⟩⟩
theorem pslEq_any(w:World)(a1 a2:Option Addr)(c1 c2:Nat)(la lb:List Int)(r1:Rd w a1 (ints la))(r2:Rd w a2 (ints lb))(hbig:la.length≤1000000):
  Gives Tryz.prog 34 #[.slice a1 la.length c1,.slice a2 lb.length c2] w (.bool (decide (la=lb))):=by
 unfold Gives
 by_cases hl:la.length=lb.length
 ·have R1:=hd_ r1;have R2:=hd_ r2;have Hyes:Hid (∀ k,(∀ j (h1:j<la.length) (h2:j<lb.length),j<k→la[j]=lb[j])→k=la.length→la=lb):=fun k h hk=>List.ext_getElem hl fun i h1 h2=>h i h1 h2 (by omega)
  have Hno:Hid (∀ k (h1:k<la.length) (h2:k<lb.length),la[k]≠lb[k]→¬ la=lb):=fun k h1 h2 hne he=>hne (by subst he;rfl)
  obtain⟨n,hn⟩:∃ n,la.length=n:=⟨_,rfl⟩;have hm:lb.length=n:=hl.symm.trans hn;rw[hn] at hbig;rw[hn,hm];have Hn:=hd_ hn;have Hm:=hd_ hm;clear hl r1 r2 hn hm;go_enter Tryz.func34,Tryz.ntmps34;go_wp2_with fail
  go_loopw [13] (fun i wr=>∃ k:Nat,k≤n∧i = .int .i64 k∧Hid (∀ j (h1:j<la.length) (h2:j<lb.length),j<k→la[j]=lb[j])∧Hid (Below w.heap.size w wr)) (fun i _=>n-(intOf i).toNat)
  case atStart=>exact⟨0,Nat.zero_le _,rfl,fun j _ _ hj=>absurd hj (Nat.not_lt_zero _),Below.refl _ _⟩
  case round =>
   obtain⟨k,hk,rfl,Hp,B⟩:=hrel
   by_cases hlt:k<n
   ·have hlt':(k:Int)<n:=by omega
    have h1:k<la.length:=by rw[Hn.out];exact hlt
    have h2:k<lb.length:=by rw[Hm.out];exact hlt
    obtain⟨g1,o1,rfl,hg1,hc1⟩:=R1.out.open (by rw[ints_length];omega);obtain⟨g2,o2,rfl,hg2,hc2⟩:=R2.out.open (by rw[ints_length];omega);have x1:=hc1 k _ (ints_get la k h1);have x2:=hc2 k _ (ints_get lb k h2);rw[← B.out.cell (p:=⟨g1,o1+k,none⟩) hg1] at x1;rw[← B.out.cell (p:=⟨g2,o2+k,none⟩) hg2] at x2;have Hp':Hid (la[k]=lb[k]→∀ j (h1:j<la.length) (h2:j<lb.length),j<k+1→la[j]=lb[j]):=fun he j g1 g2 hj=>by
     rcases Nat.lt_or_ge j k with h|h
     ·exact Hp.out j g1 g2 h
     ·have e:j=k:=by omega
      subst e;exact he
    have Hnk:=hd_ (Hno.out k h1 h2);clear Hp hc1 hc2;generalize la[k]=p at *;generalize lb[k]=q at *;have q1:=cell_regrown x1;have q2:=cell_regrown x2;have HK:=hd_ hlt
    by_cases hpq:p=q
    ·have Hq:=hd_ (Hp'.out hpq);subst hpq;clear Hp' Hnk;go_wp2_with fail;clear x1 x2;refine wp_region_quiet_below (by kernel_rfl) (by kernel_rfl) ?_
     repeat (first | go_big_quiet_step (fail) | quiet_step (fail))
     refine wq_ ?_;intro w6 hw6;obtain⟨⟨dq,osq⟩,rfl⟩:=hw6;have B6:=hd_ (B.out.trans ((below_regrown wr dq osq).mono B.out.size));clear q1 q2 B;generalize Go.Sort.grow (redrawn wr dq) osq=w6 at *;go_wp2_with fail
     go_roundw
     case rel=>exact⟨k+1,HK.out,by go_num,Hq,B6⟩
     case measure=>simp[intOf];omega
    ·have Hz:Hid (decide (la=lb)=false):=decide_eq_false (Hnk.out hpq);have hpq':(p==q)=false:=by rw[beq_eq_false_iff_ne];exact hpq
     clear Hp' Hnk;go_wp2_with fail;clear x1 x2;refine wp_region_quiet_below (by kernel_rfl) (by kernel_rfl) ?_
     repeat (first | go_big_quiet_step (fail) | quiet_step (fail))
     refine wq_ ?_;intro w6 hw6;obtain⟨⟨dq,osq⟩,rfl⟩:=hw6;have B6:=hd_ (B.out.trans ((below_regrown wr dq osq).mono B.out.size));clear q1 q2 B;generalize Go.Sort.grow (redrawn wr dq) osq=w6 at *;go_wp2_with fail;go_ret;exact⟨by rw[Hz.out];rfl,B6.out⟩
   ·have hlt':¬ (k:Int)<n:=by omega
    have Hz:Hid (decide (la=lb)=true):=decide_eq_true (Hyes.out k Hp.out (by rw[Hn.out];omega));clear Hp;go_wp2_with fail;go_ret;exact⟨by rw[Hz.out];rfl,B.out⟩
 ·have Hz:Hid (decide (la=lb)=false):=decide_eq_false fun h=>hl (by rw[h])
  have hne:((la.length:Int)==lb.length)=false:=by rw[beq_eq_false_iff_ne];omega
  clear r1 r2 hl;generalize la.length=n at *;generalize lb.length=m at *;go_enter Tryz.func34,Tryz.ntmps34;go_wp2_with fail;go_ret;exact⟨by rw[Hz.out];rfl,Below.refl _ _⟩
theorem six_cells{w:World}{g:Nat}{a b c d e f:Value}{t:TypeId}(h:w.heap[g]?=some (.cells #[a,b,c,d,e,f] t (0,0))):
  w.cell? ⟨g,0,none⟩=some a∧w.cell? ⟨g,1,none⟩=some b∧w.cell? ⟨g,2,none⟩=some c∧w.cell? ⟨g,3,none⟩=some d∧w.cell? ⟨g,4,none⟩=some e∧w.cell? ⟨g,5,none⟩=some f :=
 ⟨cell_of_row w g 0 _ _ _ h,cell_of_row w g 1 _ _ _ h,cell_of_row w g 2 _ _ _ h,cell_of_row w g 3 _ _ _ h,cell_of_row w g 4 _ _ _ h,cell_of_row w g 5 _ _ _ h⟩
theorem refCheck_ok(w:World)(g:Nat)(s t:TLoc)(ps:List Int)(C M D N:List (List Int))(hs:TemT w s ps C M)(ht:TemT w t ps D N)(P:PsR ps)(R:TemOk ps.length C M)(U:TemOk ps.length D N)(L:Laid w)
  (hg:w.heap[g]?=some (.cells #[.slice s.a0 ps.length s.c0,.slice s.a1 C.length s.c1,.slice s.a2 M.length s.c2,.slice t.a0 ps.length t.c0,.slice t.a1 D.length t.c1,.slice t.a2 N.length t.c2] 32 (0,0))) :
  Gives Tryz.prog 17 #[.slice (some ⟨g,0,none⟩) 2 2] w (.int .i64 0):=by
 unfold Gives;obtain⟨hp0,hp6⟩:=P.len;have HCs:=hd_ (fun W (hW:Below w.heap.size w W)=>temCheck_ok W s.a0 s.c0 ps s.a1 s.c1 C s.a2 s.c2 M (hs.below hW nr_) P R (L.below hW));have HCt:=hd_ (fun W (hW:Below w.heap.size w W)=>temCheck_ok W t.a0 t.c0 ps t.a1 t.c1 D t.a2 t.c2 N (ht.below hW nr_) P U (L.below hW));have hsp:Rd w s.a0 (ints ps):=hs.p;have htp:Rd w t.a0 (ints ps):=ht.p;have HEs:=hd_ (fun W (hW:Below w.heap.size w W)=>pslEq_any W s.a0 s.a0 s.c0 s.c0 ps ps (hsp.below hW nr_) (hsp.below hW nr_) (by omega));have HEt:=hd_ (fun W (hW:Below w.heap.size w W)=>pslEq_any W t.a0 s.a0 t.c0 s.c0 ps ps (htp.below hW nr_) (hsp.below hW nr_) (by omega));rw[decide_eq_true rfl] at HEs HEt;clear hs ht P R U L hsp htp hp0 hp6;unfold temV at HCs HCt;generalize ps.length=n at *;generalize C.length=m1 at *;generalize M.length=m2 at *;generalize D.length=k1 at *;generalize N.length=k2 at *;generalize s.a0=sa0 at *;generalize s.a1=sa1 at *;generalize s.a2=sa2 at *;generalize s.c0=sc0 at *;generalize s.c1=sc1 at *;generalize s.c2=sc2 at *;generalize t.a0=ta0 at *;generalize t.a1=ta1 at *;generalize t.a2=ta2 at *;generalize t.c0=tc0 at *;generalize t.c1=tc1 at *;generalize t.c2=tc2 at *;have HG:=hd_ hg;clear hg;go_enter Tryz.func17,Tryz.ntmps17;go_wp2_with fail
 go_loopw [10] (fun z wr=>∃ t:Nat,t≤2∧z = .int .i64 t∧Hid (Below w.heap.size w wr)) (fun z _=>2-(intOf z).toNat)
 case atStart=>exact⟨0,by omega,rfl,Below.refl _ _⟩
 case round =>
  obtain⟨t,ht,rfl,D⟩:=hrel;obtain⟨i0,i1,i2,i3,i4,i5⟩:=six_cells (hj_ HG D.out);rcases(show t=0∨t=1∨t=2 by omega) with rfl|rfl|ht2
  ·have D1:=hd_ (D.out.alloc D.out.size (.cells #[.slice sa0 n sc0,.slice sa1 m1 sc1,.slice sa2 m2 sc2] 32));have HC1:=hd_ (HCs.out _ D1.out);obtain⟨j0,j1,j2⟩:=three_cells (heap_at wr #[.slice sa0 n sc0,.slice sa1 m1 sc1,.slice sa2 m2 sc2] 32 _ rfl);go_wp2_with fail;refine cm_ HC1.out ?_;rintro e w1 ⟨rfl,hb1⟩;have D2:=bt_ D1 hb1;clear hb1 HC1 D D1 j0 j1 j2;go_wp2_with fail
   go_roundw
   case rel=>exact⟨1,by omega,by go_num,D2⟩
   case measure=>simp[intOf]
  ·have D1:=hd_ (D.out.alloc D.out.size (.cells #[.slice ta0 n tc0,.slice ta1 k1 tc1,.slice ta2 k2 tc2] 32));have HC1:=hd_ (HCt.out _ D1.out);obtain⟨j0,j1,j2⟩:=three_cells (heap_at wr #[.slice ta0 n tc0,.slice ta1 k1 tc1,.slice ta2 k2 tc2] 32 _ rfl);go_wp2_with fail;refine cm_ HC1.out ?_;rintro e w1 ⟨rfl,hb1⟩;have D2:=bt_ D1 hb1;clear hb1 HC1 D D1 j0 j1 j2;go_wp2_with fail
   go_roundw
   case rel=>exact⟨2,by omega,by go_num,D2⟩
   case measure=>simp[intOf]
  ·clear HCs HCt i0 i1 i2 i3 i4 i5;have hlt':¬ (t:Int)<2:=by omega
   clear ht2 ht;obtain⟨w2,rfl⟩:∃ x,x=wr:=⟨_,rfl⟩;go_wp2_with fail
   go_loopw [22] (fun z wx=>∃ t:Nat,t≤2∧z = .int .i64 t∧Hid (Below w.heap.size w wx)) (fun z _=>2-(intOf z).toNat)
   case atStart=>exact⟨0,by omega,rfl,D⟩
   case round =>
    clear D;obtain⟨t,ht,rfl,D⟩:=hrel;obtain⟨i0,i1,i2,i3,i4,i5⟩:=six_cells (hj_ HG D.out);rcases(show t=0∨t=1∨t=2 by omega) with rfl|rfl|rfl
    ·have D1:=hd_ (D.out.alloc D.out.size (.cells #[.slice sa0 n sc0,.slice sa1 m1 sc1,.slice sa2 m2 sc2] 32));obtain⟨j0,j1,j2⟩:=three_cells (heap_at wr #[.slice sa0 n sc0,.slice sa1 m1 sc1,.slice sa2 m2 sc2] 32 _ rfl);have g0:=(six_cells (hj_ HG D1.out)).1;go_wp2_with fail;clear i0 i1 i2 i3 i4 i5;generalize wr.alloc (.cells #[.slice sa0 n sc0,.slice sa1 m1 sc1,.slice sa2 m2 sc2] 32)=w3 at *;have HE:=hd_ HEs.out;have hnon:Nonempty (NWm w3):=⟨⟨w3,Below.refl _ _⟩⟩;have q1:=NWm.cell j0;have q2:=NWm.cell g0;have I:Hid (Below w3.heap.size w3 w3.drew):=(Below.refl _ _).drew;clear j0 j1 j2 g0;refine RW.wp_region_readers 6 [(2,0),(1,1),(2,2),(2,3),(2,4),(1,5),(0,6),(0,7)] (fun w'=>∃ p:NWm w3,w'=p.w) (by kernel_rfl) (by kernel_rfl) ?_ ?_
     ·exact⟨⟨_,I.out⟩,rfl⟩
     iterate 6 ((first | refine RW.walkR_any ?_ | refine RW.walkR_read ?_);simp only[dsc_,dz_,tsc_,tz_];go_big_quiet_step (fail);refine wq_ ?_)
     clear hnon q1 q2;refine wm_ rfl ?_;go_wp2_with fail;refine cm_ (HE.out _ (bu_ D1 I.out)) ?_;rintro e w4 ⟨rfl,hb⟩;have D4:=hd_ ((bu_ D1 I.out).trans (hb.mono (Nat.le_trans D1.out.size I.out.size)));clear hb I D1 HE D;go_wp2_with fail;refine wm_ rfl ?_;go_wp2_with fail;simp only[RW.walkR];go_wp2_with fail
     go_roundw
     case rel=>exact⟨1,by omega,by go_num,D4⟩
     case measure=>simp[intOf]
    ·have D1:=hd_ (D.out.alloc D.out.size (.cells #[.slice ta0 n tc0,.slice ta1 k1 tc1,.slice ta2 k2 tc2] 32));obtain⟨j0,j1,j2⟩:=three_cells (heap_at wr #[.slice ta0 n tc0,.slice ta1 k1 tc1,.slice ta2 k2 tc2] 32 _ rfl);have g0:=(six_cells (hj_ HG D1.out)).1;go_wp2_with fail;clear i0 i1 i2 i3 i4 i5;generalize wr.alloc (.cells #[.slice ta0 n tc0,.slice ta1 k1 tc1,.slice ta2 k2 tc2] 32)=w3 at *;have HE:=hd_ HEt.out;have hnon:Nonempty (NWm w3):=⟨⟨w3,Below.refl _ _⟩⟩;have q1:=NWm.cell j0;have q2:=NWm.cell g0;have I:Hid (Below w3.heap.size w3 w3.drew):=(Below.refl _ _).drew;clear j0 j1 j2 g0;refine RW.wp_region_readers 6 [(2,0),(1,1),(2,2),(2,3),(2,4),(1,5),(0,6),(0,7)] (fun w'=>∃ p:NWm w3,w'=p.w) (by kernel_rfl) (by kernel_rfl) ?_ ?_
     ·exact⟨⟨_,I.out⟩,rfl⟩
     iterate 6 ((first | refine RW.walkR_any ?_ | refine RW.walkR_read ?_);simp only[dsc_,dz_,tsc_,tz_];go_big_quiet_step (fail);refine wq_ ?_)
     clear hnon q1 q2;refine wm_ rfl ?_;go_wp2_with fail;refine cm_ (HE.out _ (bu_ D1 I.out)) ?_;rintro e w4 ⟨rfl,hb⟩;have D4:=hd_ ((bu_ D1 I.out).trans (hb.mono (Nat.le_trans D1.out.size I.out.size)));clear hb I D1 HE D;go_wp2_with fail;refine wm_ rfl ?_;go_wp2_with fail;simp only[RW.walkR];go_wp2_with fail
     go_roundw
     case rel=>exact⟨2,by omega,by go_num,D4⟩
     case measure=>simp[intOf]
    ·go_wp2_with fail;go_ret;exact⟨rfl,D.out⟩
theorem commas_any(w:World)(s:TLoc)(n m k:Nat):
  Calls Tryz.prog 33 #[tmV s n m k] w fun e w'=>e = .returned (latV n s.a1 m s.c1)∧Below w.heap.size w w':=by
 unfold tmV temV latV;generalize s.a0=sa0;generalize s.a1=sa1;generalize s.a2=sa2;generalize s.c0=sc0;generalize s.c1=sc1;generalize s.c2=sc2;obtain⟨w1,hw1⟩:∃ w1,(w.alloc (.cells #[.slice sa0 n sc0,.slice sa1 m sc1,.slice sa2 k sc2] 32)).alloc (.cells #[.int .i64 0,.slice none 0 0] 67)=w1:=⟨_,rfl⟩;have K0:w1.heap[w.heap.size]?=some (.cells #[.slice sa0 n sc0,.slice sa1 m sc1,.slice sa2 k sc2] 32 (0,0)):=by rw[← hw1];exact heap_old (heap_at w _ _ _ rfl) _
 have K1:w1.heap[w.heap.size+1]?=some (.cells #[.int .i64 0,.slice none 0 0] 67 (0,0)):=by rw[← hw1];exact heap_at _ _ _ _ (by simp)
 have B0:Hid (Below w.heap.size w w1):=by rw[← hw1];exact((Below.refl _ w).alloc nr_ _).alloc (by simp) _
 obtain⟨j0,j1,j2⟩:=three_cells K0;have P1:=hd_ K1;rw[← hw1] at j0 j1 j2;have Hw1:=hd_ hw1;clear K0 K1 hw1;go_enter Tryz.func33,Tryz.ntmps33;have P2:=P1;rw[← Hw1.out] at P2
 go_wp2_with (refine wpList_store_row rfl 67 (.tmp 2) (.tmp 8) rfl (w.heap.size+1) _ rfl rfl 67 _ P2.out (by kernel_rfl) rfl (by simp[Value.oneCell']) ?_)
 refine bodyPost_ret (results_cell_row rfl _ _ (w.heap.size+1) 67 _ (0,0) _ rfl (setRow_heap _ _ _ _ _ _ P2.out) Tryz.underlying67 rfl (by kernel_rfl)) rfl ⟨rfl,?_⟩;rw[Hw1.out];exact below_setRow B0.out (Nat.le_succ _) _
theorem refines_any(w:World)(s t:TLoc)(ps:List Int)(C M D N:List (List Int))(hs:TemT w s ps C M)(ht:TemT w t ps D N)(P:PsR ps)(R:TemOk ps.length C M)(U:TemOk ps.length D N)(L:Laid w):
  Calls Tryz.prog 18 #[tmV s ps.length C.length M.length,tmV t ps.length D.length N.length] w fun e w'=>WitL w w' C D e:=by
 obtain⟨hp0,hp6⟩:=P.len;have hsc:RdM w s.a1 C:=hs.c;have htc:RdM w t.a1 D:=ht.c;have HW:=hd_ (fun W (hW:Below w.heap.size w W)=>lWithin_any W s.a1 t.a1 s.c1 t.c1 ps.length C D (hsc.below hW nr_) (htc.below hW nr_) R.latC U.latC hs.lc ht.lc hp0 hp6 (L.below hW));have HCs:=hd_ (fun W=>commas_any W s ps.length C.length M.length);have HCt:=hd_ (fun W=>commas_any W t ps.length D.length N.length);clear hs ht P R U L hp0 hp6 hsc htc;unfold tmV temV at HCs HCt ⊢;unfold latV at HCs HCt HW;generalize ps.length=n at *;generalize C.length=m1 at *;generalize M.length=m2 at *;generalize D.length=k1 at *;generalize N.length=k2 at *;generalize s.a0=sa0 at *;generalize s.a1=sa1 at *;generalize s.a2=sa2 at *;generalize s.c0=sc0 at *;generalize s.c1=sc1 at *;generalize s.c2=sc2 at *;generalize t.a0=ta0 at *;generalize t.a1=ta1 at *;generalize t.a2=ta2 at *;generalize t.c0=tc0 at *;generalize t.c1=tc1 at *;generalize t.c2=tc2 at *;obtain⟨w1,hw1⟩:∃ w1,(w.alloc (.cells #[.slice sa0 n sc0,.slice sa1 m1 sc1,.slice sa2 m2 sc2] 32)).alloc (.cells #[.slice ta0 n tc0,.slice ta1 k1 tc1,.slice ta2 k2 tc2] 32)=w1:=⟨_,rfl⟩;have K0:w1.heap[w.heap.size]?=some (.cells #[.slice sa0 n sc0,.slice sa1 m1 sc1,.slice sa2 m2 sc2] 32 (0,0)):=by rw[← hw1];exact heap_old (heap_at w _ _ _ rfl) _
 have K1:w1.heap[w.heap.size+1]?=some (.cells #[.slice ta0 n tc0,.slice ta1 k1 tc1,.slice ta2 k2 tc2] 32 (0,0)):=by rw[← hw1];exact heap_at _ _ _ _ (by simp)
 have B0:Hid (Below w.heap.size w w1):=by rw[← hw1];exact((Below.refl _ w).alloc nr_ _).alloc (by simp) _
 have P0:=hd_ K0;have P1:=hd_ K1;have Hw1:=hd_ hw1;clear K0 K1 hw1;go_enter Tryz.func18,Tryz.ntmps18;go_wp2_with fail;rw[Hw1.out];obtain⟨j0,j1,j2⟩:=three_cells P0.out;obtain⟨i0,i1,i2⟩:=three_cells P1.out;have hnon:Nonempty (NWm w1):=⟨⟨w1,Below.refl _ _⟩⟩;have q1:=NWm.cell j0;have q2:=NWm.cell j1;have q3:=NWm.cell j2;have q4:=NWm.cell i0;have q5:=NWm.cell i1;have q6:=NWm.cell i2;have I:Hid (Below w1.heap.size w1 w1.drew):=(Below.refl _ _).drew;clear j0 j1 j2 i0 i1 i2 Hw1;refine RW.wp_region_readers 4 [(1,0),(1,2),(0,1),(0,3),(0,4),(2,5),(2,6),(0,7),(0,8)] (fun w'=>∃ p:NWm w1,w'=p.w) (by kernel_rfl) (by kernel_rfl) ?_ ?_
 ·exact⟨⟨_,I.out⟩,rfl⟩
 iterate 2 ((first | refine RW.walkR_any ?_ | refine RW.walkR_read ?_);simp only[dsc_,dz_,tsc_,tz_];go_big_quiet_step (fail);refine wq_ ?_)
 clear hnon q1 q2 q3 q4 q5 q6;refine wm_ rfl ?_;go_wp2_with fail;refine cm_ (HCs.out _) ?_;rintro e w2 ⟨rfl,hb⟩;have I2:=bt_ I hb;clear hb I HCs;go_wp2_with fail;refine⟨⟨⟨_,I2.out⟩,rfl⟩,?_⟩;refine wm_ rfl ?_;go_wp2_with fail;refine cm_ (HCt.out _) ?_;rintro e w3 ⟨rfl,hb⟩;have I3:=bt_ I2 hb;have D3:=bt_ B0 I3.out;clear hb I2 HCt;go_wp2_with fail;refine⟨⟨⟨_,I3.out⟩,rfl⟩,?_⟩;refine wm_ rfl ?_;go_wp2_with fail;refine cm_ (HW.out w3 D3.out) ?_;rintro e w4 ⟨z,rfl,hz,hb⟩;have D4:=bt_ D3 hb;have HZ:=hd_ hz;clear hb I3 D3 HW hz;go_wp2_with fail;iterate 2 ((first | refine RW.walkR_any ?_ | refine RW.walkR_read ?_);simp only[dsc_,dz_,tsc_,tz_];go_big_quiet_step (fail);refine wq_ ?_)
 iterate 2 (refine wm_ rfl ?_;go_wp2_with fail)
 simp only[RW.walkR];go_wp2_with fail
 go_ret2
 exact⟨z,rfl,HZ.out,D4.out⟩
theorem Refines_any(w:World)(s t:TLoc)(ps:List Int)(C M D N:List (List Int))(hs:TemT w s ps C M)(ht:TemT w t ps D N)(P:PsR ps)(R:TemOk ps.length C M)(U:TemOk ps.length D N)(L:Laid w):
  Calls Tryz.prog 9 #[tmV s ps.length C.length M.length,tmV t ps.length D.length N.length] w fun e w'=>WitL w w' C D e:=by
 have HR:=hd_ (fun W (hW:Below w.heap.size w W)=>refines_any W s t ps C M D N (hs.below hW nr_) (ht.below hW nr_) P R U (L.below hW));have HC:=hd_ (fun W g (hW:Below w.heap.size w W) hg=>refCheck_ok W g s t ps C M D N (hs.below hW nr_) (ht.below hW nr_) P R U (L.below hW) hg);clear hs ht P R U L;unfold tmV temV at HR ⊢;generalize ps.length=n at *;generalize C.length=m1 at *;generalize M.length=m2 at *;generalize D.length=k1 at *;generalize N.length=k2 at *;generalize s.a0=sa0 at *;generalize s.a1=sa1 at *;generalize s.a2=sa2 at *;generalize s.c0=sc0 at *;generalize s.c1=sc1 at *;generalize s.c2=sc2 at *;generalize t.a0=ta0 at *;generalize t.a1=ta1 at *;generalize t.a2=ta2 at *;generalize t.c0=tc0 at *;generalize t.c1=tc1 at *;generalize t.c2=tc2 at *;obtain⟨w1,hw1⟩:∃ w1,((w.alloc (.cells #[.slice sa0 n sc0,.slice sa1 m1 sc1,.slice sa2 m2 sc2] 32)).alloc (.cells #[.slice ta0 n tc0,.slice ta1 k1 tc1,.slice ta2 k2 tc2] 32)).alloc (.cells #[.slice sa0 n sc0,.slice sa1 m1 sc1,.slice sa2 m2 sc2,.slice ta0 n tc0,.slice ta1 k1 tc1,.slice ta2 k2 tc2] 32)=w1:=⟨_,rfl⟩;have K0:w1.heap[w.heap.size]?=some (.cells #[.slice sa0 n sc0,.slice sa1 m1 sc1,.slice sa2 m2 sc2] 32 (0,0)):=by rw[← hw1];exact heap_old (heap_old (heap_at w _ _ _ rfl) _) _
 have K1:w1.heap[w.heap.size+1]?=some (.cells #[.slice ta0 n tc0,.slice ta1 k1 tc1,.slice ta2 k2 tc2] 32 (0,0)):=by rw[← hw1];exact heap_old (heap_at _ _ _ _ (by simp)) _
 have K2:w1.heap[w.heap.size+1+1]?=some (.cells #[.slice sa0 n sc0,.slice sa1 m1 sc1,.slice sa2 m2 sc2,.slice ta0 n tc0,.slice ta1 k1 tc1,.slice ta2 k2 tc2] 32 (0,0)):=by rw[← hw1];exact heap_at _ _ _ _ (by simp)
 have B0:Hid (Below w.heap.size w w1):=by rw[← hw1];exact(((Below.refl _ w).alloc nr_ _).alloc (by simp) _).alloc (by simp;omega) _
 have J0:=three_cells (heap_old (heap_at w #[.slice sa0 n sc0,.slice sa1 m1 sc1,.slice sa2 m2 sc2] 32 _ rfl) (.cells #[.slice ta0 n tc0,.slice ta1 k1 tc1,.slice ta2 k2 tc2] 32));have J1:=three_cells (heap_at (w.alloc (.cells #[.slice sa0 n sc0,.slice sa1 m1 sc1,.slice sa2 m2 sc2] 32)) #[.slice ta0 n tc0,.slice ta1 k1 tc1,.slice ta2 k2 tc2] 32 (w.heap.size+1) (by simp));obtain⟨j0,j1,j2⟩:=J0;obtain⟨i0,i1,i2⟩:=J1;have P0:=hd_ K0;have P1:=hd_ K1;have HC1:=hd_ (HC.out w1 _ B0.out K2);have Hw1:=hd_ hw1;clear K0 K1 K2 hw1 HC;go_enter Tryz.func9,Tryz.ntmps9;go_wp2_with fail;rw[Hw1.out];clear j0 j1 j2 i0 i1 i2 Hw1;refine cm_ HC1.out ?_;rintro e w2 ⟨rfl,hb⟩;have D2:=bt_ B0 hb;obtain⟨j0,j1,j2⟩:=three_cells (hj_ P0 hb);obtain⟨i0,i1,i2⟩:=three_cells (hj_ P1 hb);clear hb HC1 P0 P1 B0;go_wp2_with fail;refine cm_ (HR.out w2 D2.out) ?_;rintro e w4 ⟨z,rfl,hz,hb⟩;have D4:=bt_ D2 hb;have HZ:=hd_ hz;clear hb D2 HR hz j0 j1 j2 i0 i1 i2;go_wp2_with fail
 go_ret2
 exact⟨z,rfl,HZ.out,D4.out⟩
theorem Rank_any(w:World)(s:TLoc)(ps:List Int)(C M:List (List Int))(hs:TemT w s ps C M)(P:PsR ps)(R:TemOk ps.length C M)(L:Laid w):
  Gives Tryz.prog 11 #[tmV s ps.length C.length M.length] w (.tuple #[.int .i64 M.length,.int .i64 0]):=by
 unfold Gives;have HC:=hd_ (fun W (hW:Below w.heap.size w W)=>temCheck_ok W s.a0 s.c0 ps s.a1 s.c1 C s.a2 s.c2 M (hs.below hW nr_) P R (L.below hW));clear hs P R L;unfold tmV;unfold temV at HC ⊢;generalize ps.length=n at *;generalize C.length=m1 at *;generalize M.length=m2 at *;generalize s.a0=sa0 at *;generalize s.a1=sa1 at *;generalize s.a2=sa2 at *;generalize s.c0=sc0 at *;generalize s.c1=sc1 at *;generalize s.c2=sc2 at *;have P0:=hd_ (heap_at w #[.slice sa0 n sc0,.slice sa1 m1 sc1,.slice sa2 m2 sc2] 32 _ rfl);have B0:=hd_ ((Below.refl w.heap.size w).alloc nr_ (.cells #[.slice sa0 n sc0,.slice sa1 m1 sc1,.slice sa2 m2 sc2] 32));obtain⟨j0,j1,j2⟩:=three_cells P0.out;go_enter Tryz.func11,Tryz.ntmps11;go_wp2_with fail;generalize w.alloc (.cells #[.slice sa0 n sc0,.slice sa1 m1 sc1,.slice sa2 m2 sc2] 32)=w1 at *;refine cm_ (HC.out w1 B0.out) ?_;rintro e w2 ⟨rfl,hb⟩;have D2:=bt_ B0 hb;obtain⟨j0,j1,j2⟩:=three_cells (hj_ P0 hb);clear hb HC P0 B0;go_wp2_with fail
 go_ret2
 exact⟨rfl,D2.out⟩
def JnE (w w':World) (ps:List Int) (T:Vc→Prop) (e:Ending):Prop :=
 Below w.heap.size w w'∧(e = .returned (.tuple #[temV none 0 0 none 0 0 none 0 0,.int .i64 4]) ∨
  ∃ D N t,e = .returned (.tuple #[tmV t ps.length D.length N.length,.int .i64 0])∧TemOk ps.length D N∧TemT w' t ps D N∧∀ y,Sp (vfs D) y↔Perp ps.length (Perp ps.length T) y)
theorem fc_jn{w w':World}{ps:List Int}{R:List (List Int)}{T:Vc→Prop}{e:Ending}(h:FcE w w' ps R false e)(hT:∀ y,Sp (vfs R) y↔T y):JnE w w' ps T e:=by
 obtain⟨hb,⟨rfl,_⟩|⟨C,M,a0,c0,a1,c1,a2,c2,rfl,h1,h2,h3,_⟩⟩:=h
 ·exact⟨hb,.inl rfl⟩
 ·refine⟨hb,.inr ⟨C,M,⟨a0,c0,a1,c1,a2,c2⟩,rfl,h1,h2,fun y=>?_⟩⟩;have:=h3 y
  rw[if_neg (by decide)] at this;exact this.trans (perp_congr (perp_congr hT) y)
structure SmR (w wx:World) (n g:Nat) (z:Int) (T:Vc→Prop) (x0 x1 x2:Array Value):Prop where
 b:Below w.heap.size w wx
 k0:wx.heap[w.heap.size]?=some (.cells x0 32 (0,0))
 k1:wx.heap[w.heap.size+1]?=some (.cells x1 32 (0,0))
 k2:wx.heap[w.heap.size+1+1]?=some (.cells x2 32 (0,0))
 r:z=4∨(z=0∧∃ Bs a c,wx.heap[g]?=some (.cells #[.int .i64 n,.slice a Bs.length c] 67 (0,0))∧RdM wx a Bs∧Bs.length≤c∧LatR n Bs∧∀ y,Sp (vfs Bs) y↔T y)
theorem smr_err{w w1 W:World}{n g:Nat}{T:Vc→Prop}{x0 x1 x2:Array Value}(hb:Below w.heap.size w w1)(hI:Below w1.heap.size w1 W)(hg:w1.heap.size≤g)(P0:w1.heap[w.heap.size]?=some (.cells x0 32 (0,0)))(P1:w1.heap[w.heap.size+1]?=some (.cells x1 32 (0,0)))
  (P2:w1.heap[w.heap.size+1+1]?=some (.cells x2 32 (0,0))) (cs:Array Value):SmR w (W.setRow g cs) n g 4 T x0 x1 x2:=by
 have hk:∀ i o,w1.heap[i]?=some o→(W.setRow g cs).heap[i]?=some o:=fun i o ho=>by
  have hi:=(Array.getElem?_eq_some_iff.1 ho).1;rw[setRow_other W g i cs (by omega)];exact heap_kept ho hI nr_
 exact⟨below_setRow (bv_ hb hI) (Nat.le_trans hb.size hg) _,hk _ _ P0,hk _ _ P1,hk _ _ P2,.inl rfl⟩
theorem smr_ok{w w1 W:World}{n g:Nat}{T:Vc→Prop}{x0 x1 x2:Array Value}{Bs:List (List Int)}{a:Option Addr}{c:Nat}{cs0:Array Value}(hb:Below w.heap.size w w1)(hI:Below w1.heap.size w1 W)(hg:w1.heap.size≤g)(P0:w1.heap[w.heap.size]?=some (.cells x0 32 (0,0)))(P1:w1.heap[w.heap.size+1]?=some (.cells x1 32 (0,0)))
  (P2:w1.heap[w.heap.size+1+1]?=some (.cells x2 32 (0,0))) (hG:W.heap[g]?=some (.cells cs0 67 (0,0))) (hR:RdM (W.setRow g #[.int .i64 n,.slice a Bs.length c]) a Bs) (hc:Bs.length≤c) (RB:LatR n Bs) (hT:∀ y,Sp (vfs Bs) y↔T y):SmR w (W.setRow g #[.int .i64 n,.slice a Bs.length c]) n g 0 T x0 x1 x2:=by
 have h:=smr_err (n:=n) (T:=T) hb hI hg P0 P1 P2 #[.int .i64 n,.slice a Bs.length c];exact⟨h.b,h.k0,h.k1,h.k2,.inr ⟨rfl,Bs,a,c,setRow_heap _ _ _ _ _ _ hG,hR,hc,RB,hT⟩⟩
theorem refJoin_any(w:World)(s t:TLoc)(ps:List Int)(C M D N:List (List Int))(hs:TemT w s ps C M)(ht:TemT w t ps D N)(P:PsR ps)(R:TemOk ps.length C M)(U:TemOk ps.length D N)(L:Laid w):
  Calls Tryz.prog 31 #[tmV s ps.length C.length M.length,tmV t ps.length D.length N.length] w fun e w'=>JnE w w' ps (SumL (Sp (vfs C)) (Sp (vfs D))) e:=by
 obtain⟨hp0,hp6⟩:=P.len;have hp0':=hd_ hp0;have hsp:Rd w s.a0 (ints ps):=hs.p;have hsc:RdM w s.a1 C:=hs.c;have htc:RdM w t.a1 D:=ht.c;have HW:=hd_ (fun W (hW:Below w.heap.size w W)=>sum_any_lat W s.a1 t.a1 s.c1 t.c1 ps.length C D (hsc.below hW nr_) (htc.below hW nr_) R.latC U.latC hs.lc ht.lc hp0 hp6 (L.below hW));have HF:=hd_ (fun W (hW:Below w.heap.size w W) a c Bs (hB:RdM W a Bs) (RB:LatR ps.length Bs)=>fromCommas_any W s.a0 a s.c0 c ps Bs (hsp.below hW nr_) P hB (RB.code (by omega)) (L.below hW));have HCs:=hd_ (fun W=>commas_any W s ps.length C.length M.length);have HCt:=hd_ (fun W=>commas_any W t ps.length D.length N.length);clear hs ht P R U L hp0 hp6 hsc htc hsp;unfold tmV temV at HCs HCt ⊢;unfold LatE latV at HW;unfold latV at HCs HCt;obtain⟨T,hT⟩:∃ T,SumL (Sp (vfs C)) (Sp (vfs D))=T:=⟨_,rfl⟩;rw[hT] at HW ⊢;clear hT;obtain⟨n,hn⟩:∃ n,ps.length=n:=⟨_,rfl⟩;rw[hn] at HW HCs HCt HF hp0' ⊢;have HN:=hd_ hn;clear hn;generalize C.length=m1 at *;generalize M.length=m2 at *;generalize D.length=k1 at *;generalize N.length=k2 at *;generalize s.a0=sa0 at *;generalize s.a1=sa1 at *;generalize s.a2=sa2 at *;generalize s.c0=sc0 at *;generalize s.c1=sc1 at *;generalize s.c2=sc2 at *;generalize t.a0=ta0 at *;generalize t.a1=ta1 at *;generalize t.a2=ta2 at *;generalize t.c0=tc0 at *;generalize t.c1=tc1 at *;generalize t.c2=tc2 at *;obtain⟨w1,hw1⟩:∃ w1,((w.alloc (.cells #[.slice sa0 n sc0,.slice sa1 m1 sc1,.slice sa2 m2 sc2] 32)).alloc (.cells #[.slice ta0 n tc0,.slice ta1 k1 tc1,.slice ta2 k2 tc2] 32)).alloc (.cells #[.slice none 0 0,.slice none 0 0,.slice none 0 0] 32)=w1:=⟨_,rfl⟩;have K0:w1.heap[w.heap.size]?=some (.cells #[.slice sa0 n sc0,.slice sa1 m1 sc1,.slice sa2 m2 sc2] 32 (0,0)):=by rw[← hw1];exact heap_old (heap_old (heap_at w _ _ _ rfl) _) _
 have K1:w1.heap[w.heap.size+1]?=some (.cells #[.slice ta0 n tc0,.slice ta1 k1 tc1,.slice ta2 k2 tc2] 32 (0,0)):=by rw[← hw1];exact heap_old (heap_at _ _ _ _ (by simp)) _
 have K2:w1.heap[w.heap.size+1+1]?=some (.cells #[.slice none 0 0,.slice none 0 0,.slice none 0 0] 32 (0,0)):=by rw[← hw1];exact heap_at _ _ _ _ (by simp)
 have B0:Hid (Below w.heap.size w w1):=by rw[← hw1];exact(((Below.refl _ w).alloc nr_ _).alloc (by simp) _).alloc (by simp;omega) _
 have P0:=hd_ K0;have P1:=hd_ K1;have P2:=hd_ K2;have Hw1:=hd_ hw1;clear K0 K1 K2 hw1;go_enter Tryz.func31,Tryz.ntmps31
 go_upto_region 1 with fail
 rw[Hw1.out]
 go_cut [6,7] from 8 (fun l z wx=>∃ g q,l = .pointer (some ⟨g,0,none⟩)∧z = .int .i64 q∧Hid (SmR w wx n g q T #[.slice sa0 n sc0,.slice sa1 m1 sc1,.slice sa2 m2 sc2] #[.slice ta0 n tc0,.slice ta1 k1 tc1,.slice ta2 k2 tc2] #[.slice none 0 0,.slice none 0 0,.slice none 0 0]))
 case first =>
  obtain⟨j0,j1,j2⟩:=three_cells P0.out;obtain⟨i0,i1,i2⟩:=three_cells P1.out;have hnon:Nonempty (NWm w1):=⟨⟨w1,Below.refl _ _⟩⟩;have q1:=NWm.cell j0;have q2:=NWm.cell j1;have q3:=NWm.cell j2;have q4:=NWm.cell i0;have q5:=NWm.cell i1;have q6:=NWm.cell i2;have I:Hid (Below w1.heap.size w1 w1.drew):=(Below.refl _ _).drew;clear j0 j1 j2 i0 i1 i2 Hw1;go_wp2_with fail;refine RW.wp_region_tree 9 (.rd 1 0 (.rd 1 2 (.two 1 8 (.two 3 8 (.two 4 8 (.rd 2 5 (.rd 2 6 (.rd 2 7 (.mv 8 (.mv 9 (.mv 10 .nil)))))) (.mv 4 (.rd 2 5 (.rd 2 6 (.rd 2 7 (.mv 9 (.mv 10 .nil))))))) (.mv 3 (.mv 4 (.rd 2 5 (.rd 2 6 (.rd 2 7 (.mv 9 (.mv 10 .nil)))))))) (.mv 1 (.mv 3 (.mv 4 (.rd 2 5 (.rd 2 6 (.rd 2 7 (.mv 9 (.mv 10 .nil))))))))))) (fun w'=>∃ p:NWm w1,w'=p.w) (by kernel_rfl) (by kernel_rfl) ?_ ?_
  ·exact⟨⟨_,I.out⟩,rfl⟩
  iterate 2 (refine RW.walkT_read ?_;simp only[dsc_,dz_,tsc_,tz_];go_big_quiet_step (fail);refine wq_ ?_)
  clear hnon q1 q2 q3 q4 q5 q6;obtain⟨wd,hwd⟩:∃ wd:World,{ heap:=w1.heap,tape:=w1.tape,drawn:=w1.drawn+1,os:=w1.os,output:=w1.output }=wd:=⟨_,rfl⟩;have J:Hid (Below w1.heap.size w1 wd):=by rw[← hwd];exact⟨rfl,rfl,rfl,Nat.le_refl _,fun _ _=>rfl⟩
  rw[hwd];clear hwd I;refine RW.walkT_two ?_ ?_
  ·skip
   simp only[dsc_,dz_,tsc_,tz_];go_wp2_with fail;refine cm_ (HCs.out _) ?_;rintro e y1 ⟨rfl,hb⟩;have I1:=bt_ J hb;clear hb;go_wp2_with fail;refine⟨⟨⟨_,I1.out⟩,rfl⟩,?_⟩;refine RW.walkT_two ?_ ?_
   ·skip
    simp only[dsc_,dz_,tsc_,tz_];go_wp2_with fail;refine cm_ (HCt.out _) ?_;rintro e y2 ⟨rfl,hb⟩;have I2:=bt_ I1 hb;clear hb;go_wp2_with fail;refine⟨⟨⟨_,I2.out⟩,rfl⟩,?_⟩;refine RW.walkT_two ?_ ?_
    ·skip
     simp only[dsc_,dz_,tsc_,tz_];go_wp2_with fail;refine cm_ (HW.out _ (bu_ B0 I2.out)) ?_;rintro e y3 ⟨hb,Bs,b1,b2,b3,hh⟩;have I3:=bt_ I2 hb;have H3:=hd_ b3;clear hb b1 b3;rcases hh with⟨RB,a9,c9,K9,rfl,hbl⟩|⟨_,rfl⟩
     ·skip
      have HB9:=hd_ hbl;have HR9:=hd_ RB;clear hbl RB;go_wp2_with fail;refine⟨⟨⟨_,I3.out⟩,rfl⟩,?_⟩;iterate 3 (refine RW.walkT_any ?_;simp only[dsc_,dz_,tsc_,tz_];go_big_quiet_step (fail);refine wq_ ?_)
      refine RW.walkT_move ?_;simp only[dsc_,dz_,tsc_,tz_];have I4:=hd_ (I3.out.alloc I3.out.size (.cells #[.int .i64 0,.slice none 0 0] 67));have G4:=hd_ (heap_at y3 #[.int .i64 0,.slice none 0 0] 67 _ rfl);have Z4:Hid (w1.heap.size≤y3.heap.size):=I3.out.size;have Y4:Hid (y3.heap.size<(y3.alloc (.cells #[.int .i64 0,.slice none 0 0] 67)).heap.size):=by show _<_;rw[World.size_alloc];omega
      have hba4:Hid (Below y3.heap.size y3 (y3.alloc (.cells #[.int .i64 0,.slice none 0 0] 67))):=(Below.refl _ y3).alloc nr_ _;go_wp2_with fail;generalize y3.alloc (.cells #[.int .i64 0,.slice none 0 0] 67)=y4 at *;refine⟨⟨⟨_,I4.out⟩,rfl⟩,?_⟩;refine RW.walkT_move ?_;simp only[dsc_,dz_,tsc_,tz_]
      go_wp2_with (refine wpList_store_row rfl 67 (.tmp 6) (.tmp 14) rfl (y3.heap.size) _ rfl rfl 67 _ G4.out (by kernel_rfl) rfl (by simp[Value.oneCell']) ?_)
      refine RW.walkT_move ?_;simp only[dsc_,dz_,tsc_,tz_];go_wp2_with fail;simp only[RW.walkT];go_wp2_with fail
      go_meet
      exact⟨_,0,rfl,rfl,smr_ok B0.out I4.out Z4.out P0.out P1.out P2.out G4.out ((HB9.out.rdm rfl b2).below (below_setRow hba4.out nr_ _) nr_) HB9.out.capt HR9.out H3.out⟩
     ·skip
      go_wp2_with fail;refine⟨⟨⟨_,I3.out⟩,rfl⟩,?_⟩;iterate 3 (refine RW.walkT_any ?_;simp only[dsc_,dz_,tsc_,tz_];go_big_quiet_step (fail);refine wq_ ?_)
      refine RW.walkT_move ?_;simp only[dsc_,dz_,tsc_,tz_];have I5:=hd_ (I3.out.alloc I3.out.size (.cells #[.int .i64 0,.slice none 0 0] 67));have G5:=hd_ (heap_at y3 #[.int .i64 0,.slice none 0 0] 67 _ rfl);have Z5:Hid (w1.heap.size≤y3.heap.size):=I3.out.size;have Y5:Hid (y3.heap.size<(y3.alloc (.cells #[.int .i64 0,.slice none 0 0] 67)).heap.size):=by show _<_;rw[World.size_alloc];omega
      have hba5:Hid (Below y3.heap.size y3 (y3.alloc (.cells #[.int .i64 0,.slice none 0 0] 67))):=(Below.refl _ y3).alloc nr_ _;go_wp2_with fail;generalize y3.alloc (.cells #[.int .i64 0,.slice none 0 0] 67)=y5 at *;refine⟨⟨⟨_,I5.out⟩,rfl⟩,?_⟩;refine RW.walkT_move ?_;simp only[dsc_,dz_,tsc_,tz_]
      go_wp2_with (refine wpList_store_row rfl 67 (.tmp 6) (.tmp 14) rfl (y3.heap.size) _ rfl rfl 67 _ G5.out (by kernel_rfl) rfl (by simp[Value.oneCell']) ?_)
      refine RW.walkT_move ?_;simp only[dsc_,dz_,tsc_,tz_];go_wp2_with fail;simp only[RW.walkT];go_wp2_with fail
      go_meet
      exact⟨_,4,rfl,rfl,smr_err B0.out I5.out Z5.out P0.out P1.out P2.out _⟩
    ·skip
     simp only[dsc_,dz_,tsc_,tz_];have I6:=hd_ (I2.out.alloc I2.out.size (.cells #[.int .i64 0,.slice none 0 0] 67));have G6:=hd_ (heap_at y2 #[.int .i64 0,.slice none 0 0] 67 _ rfl);have Z6:Hid (w1.heap.size≤y2.heap.size):=I2.out.size;have Y6:Hid (y2.heap.size<(y2.alloc (.cells #[.int .i64 0,.slice none 0 0] 67)).heap.size):=by show _<_;rw[World.size_alloc];omega
     have hba6:Hid (Below y2.heap.size y2 (y2.alloc (.cells #[.int .i64 0,.slice none 0 0] 67))):=(Below.refl _ y2).alloc nr_ _;go_wp2_with fail;generalize y2.alloc (.cells #[.int .i64 0,.slice none 0 0] 67)=y6 at *;refine⟨⟨⟨_,I6.out⟩,rfl⟩,?_⟩;refine RW.walkT_move ?_;simp only[dsc_,dz_,tsc_,tz_];go_wp2_with fail;refine cm_ (HW.out _ (bu_ B0 I6.out)) ?_;rintro e y7 ⟨hb,Bs,b1,b2,b3,hh⟩;have I7:=bt_ I6 hb;have G7:=hk_ G6 hb;have V7:=hd_ (show y2.heap.size<y6.heap.size from (Array.getElem?_eq_some_iff.1 G6.out).1);have H3:=hd_ b3;clear hb b1 b3;rcases hh with⟨RB,a9,c9,K9,rfl,hbl⟩|⟨_,rfl⟩
     ·skip
      have HB9:=hd_ hbl;have HR9:=hd_ RB;clear hbl RB;go_wp2_with fail;refine⟨⟨⟨_,I7.out⟩,rfl⟩,?_⟩;iterate 3 (refine RW.walkT_any ?_;simp only[dsc_,dz_,tsc_,tz_];go_big_quiet_step (fail);refine wq_ ?_)
      refine RW.walkT_move ?_;simp only[dsc_,dz_,tsc_,tz_]
      go_wp2_with (refine wpList_store_row rfl 67 (.tmp 6) (.tmp 14) rfl (y2.heap.size) _ rfl rfl 67 _ G7.out (by kernel_rfl) rfl (by simp[Value.oneCell']) ?_)
      refine RW.walkT_move ?_;simp only[dsc_,dz_,tsc_,tz_];go_wp2_with fail;simp only[RW.walkT];go_wp2_with fail
      go_meet
      exact⟨_,0,rfl,rfl,smr_ok B0.out I7.out Z6.out P0.out P1.out P2.out G7.out ((HB9.out.setR (Nat.lt_of_lt_of_le V7.out nr_) _).rdm rfl b2) HB9.out.capt HR9.out H3.out⟩
     ·skip
      go_wp2_with fail;refine⟨⟨⟨_,I7.out⟩,rfl⟩,?_⟩;iterate 3 (refine RW.walkT_any ?_;simp only[dsc_,dz_,tsc_,tz_];go_big_quiet_step (fail);refine wq_ ?_)
      refine RW.walkT_move ?_;simp only[dsc_,dz_,tsc_,tz_]
      go_wp2_with (refine wpList_store_row rfl 67 (.tmp 6) (.tmp 14) rfl (y2.heap.size) _ rfl rfl 67 _ G7.out (by kernel_rfl) rfl (by simp[Value.oneCell']) ?_)
      refine RW.walkT_move ?_;simp only[dsc_,dz_,tsc_,tz_];go_wp2_with fail;simp only[RW.walkT];go_wp2_with fail
      go_meet
      exact⟨_,4,rfl,rfl,smr_err B0.out I7.out Z6.out P0.out P1.out P2.out _⟩
   ·skip
    simp only[dsc_,dz_,tsc_,tz_];have I8:=hd_ (I1.out.alloc I1.out.size (.cells #[.int .i64 0,.slice none 0 0] 67));have G8:=hd_ (heap_at y1 #[.int .i64 0,.slice none 0 0] 67 _ rfl);have Z8:Hid (w1.heap.size≤y1.heap.size):=I1.out.size;have Y8:Hid (y1.heap.size<(y1.alloc (.cells #[.int .i64 0,.slice none 0 0] 67)).heap.size):=by show _<_;rw[World.size_alloc];omega
    have hba8:Hid (Below y1.heap.size y1 (y1.alloc (.cells #[.int .i64 0,.slice none 0 0] 67))):=(Below.refl _ y1).alloc nr_ _;go_wp2_with fail;generalize y1.alloc (.cells #[.int .i64 0,.slice none 0 0] 67)=y8 at *;refine⟨⟨⟨_,I8.out⟩,rfl⟩,?_⟩;refine RW.walkT_move ?_;simp only[dsc_,dz_,tsc_,tz_];go_wp2_with fail;refine cm_ (HCt.out _) ?_;rintro e y9 ⟨rfl,hb⟩;have I9:=bt_ I8 hb;have G9:=hk_ G8 hb;clear hb;go_wp2_with fail;refine⟨⟨⟨_,I9.out⟩,rfl⟩,?_⟩;refine RW.walkT_move ?_;simp only[dsc_,dz_,tsc_,tz_];go_wp2_with fail;refine cm_ (HW.out _ (bu_ B0 I9.out)) ?_;rintro e y10 ⟨hb,Bs,b1,b2,b3,hh⟩;have I10:=bt_ I9 hb;have G10:=hk_ G9 hb;have V10:=hd_ (show y1.heap.size<y9.heap.size from (Array.getElem?_eq_some_iff.1 G9.out).1);have H3:=hd_ b3;clear hb b1 b3;rcases hh with⟨RB,a9,c9,K9,rfl,hbl⟩|⟨_,rfl⟩
    ·skip
     have HB9:=hd_ hbl;have HR9:=hd_ RB;clear hbl RB;go_wp2_with fail;refine⟨⟨⟨_,I10.out⟩,rfl⟩,?_⟩;iterate 3 (refine RW.walkT_any ?_;simp only[dsc_,dz_,tsc_,tz_];go_big_quiet_step (fail);refine wq_ ?_)
     refine RW.walkT_move ?_;simp only[dsc_,dz_,tsc_,tz_]
     go_wp2_with (refine wpList_store_row rfl 67 (.tmp 6) (.tmp 14) rfl (y1.heap.size) _ rfl rfl 67 _ G10.out (by kernel_rfl) rfl (by simp[Value.oneCell']) ?_)
     refine RW.walkT_move ?_;simp only[dsc_,dz_,tsc_,tz_];go_wp2_with fail;simp only[RW.walkT];go_wp2_with fail
     go_meet
     exact⟨_,0,rfl,rfl,smr_ok B0.out I10.out Z8.out P0.out P1.out P2.out G10.out ((HB9.out.setR (Nat.lt_of_lt_of_le V10.out nr_) _).rdm rfl b2) HB9.out.capt HR9.out H3.out⟩
    ·skip
     go_wp2_with fail;refine⟨⟨⟨_,I10.out⟩,rfl⟩,?_⟩;iterate 3 (refine RW.walkT_any ?_;simp only[dsc_,dz_,tsc_,tz_];go_big_quiet_step (fail);refine wq_ ?_)
     refine RW.walkT_move ?_;simp only[dsc_,dz_,tsc_,tz_]
     go_wp2_with (refine wpList_store_row rfl 67 (.tmp 6) (.tmp 14) rfl (y1.heap.size) _ rfl rfl 67 _ G10.out (by kernel_rfl) rfl (by simp[Value.oneCell']) ?_)
     refine RW.walkT_move ?_;simp only[dsc_,dz_,tsc_,tz_];go_wp2_with fail;simp only[RW.walkT];go_wp2_with fail
     go_meet
     exact⟨_,4,rfl,rfl,smr_err B0.out I10.out Z8.out P0.out P1.out P2.out _⟩
  ·skip
   simp only[dsc_,dz_,tsc_,tz_];have I11:=hd_ (J.out.alloc J.out.size (.cells #[.int .i64 0,.slice none 0 0] 67));have G11:=hd_ (heap_at wd #[.int .i64 0,.slice none 0 0] 67 _ rfl);have Z11:Hid (w1.heap.size≤wd.heap.size):=J.out.size;have Y11:Hid (wd.heap.size<(wd.alloc (.cells #[.int .i64 0,.slice none 0 0] 67)).heap.size):=by show _<_;rw[World.size_alloc];omega
   have hba11:Hid (Below wd.heap.size wd (wd.alloc (.cells #[.int .i64 0,.slice none 0 0] 67))):=(Below.refl _ wd).alloc nr_ _;go_wp2_with fail;generalize wd.alloc (.cells #[.int .i64 0,.slice none 0 0] 67)=y11 at *;refine⟨⟨⟨_,I11.out⟩,rfl⟩,?_⟩;refine RW.walkT_move ?_;simp only[dsc_,dz_,tsc_,tz_];go_wp2_with fail;refine cm_ (HCs.out _) ?_;rintro e y12 ⟨rfl,hb⟩;have I12:=bt_ I11 hb;have G12:=hk_ G11 hb;clear hb;go_wp2_with fail;refine⟨⟨⟨_,I12.out⟩,rfl⟩,?_⟩;refine RW.walkT_move ?_;simp only[dsc_,dz_,tsc_,tz_];go_wp2_with fail;refine cm_ (HCt.out _) ?_;rintro e y13 ⟨rfl,hb⟩;have I13:=bt_ I12 hb;have G13:=hk_ G12 hb;clear hb;go_wp2_with fail;refine⟨⟨⟨_,I13.out⟩,rfl⟩,?_⟩;refine RW.walkT_move ?_;simp only[dsc_,dz_,tsc_,tz_];go_wp2_with fail;refine cm_ (HW.out _ (bu_ B0 I13.out)) ?_;rintro e y14 ⟨hb,Bs,b1,b2,b3,hh⟩;have I14:=bt_ I13 hb;have G14:=hk_ G13 hb;have V14:=hd_ (show wd.heap.size<y13.heap.size from (Array.getElem?_eq_some_iff.1 G13.out).1);have H3:=hd_ b3;clear hb b1 b3;rcases hh with⟨RB,a9,c9,K9,rfl,hbl⟩|⟨_,rfl⟩
   ·skip
    have HB9:=hd_ hbl;have HR9:=hd_ RB;clear hbl RB;go_wp2_with fail;refine⟨⟨⟨_,I14.out⟩,rfl⟩,?_⟩;iterate 3 (refine RW.walkT_any ?_;simp only[dsc_,dz_,tsc_,tz_];go_big_quiet_step (fail);refine wq_ ?_)
    refine RW.walkT_move ?_;simp only[dsc_,dz_,tsc_,tz_]
    go_wp2_with (refine wpList_store_row rfl 67 (.tmp 6) (.tmp 14) rfl (wd.heap.size) _ rfl rfl 67 _ G14.out (by kernel_rfl) rfl (by simp[Value.oneCell']) ?_)
    refine RW.walkT_move ?_;simp only[dsc_,dz_,tsc_,tz_];go_wp2_with fail;simp only[RW.walkT];go_wp2_with fail
    go_meet
    exact⟨_,0,rfl,rfl,smr_ok B0.out I14.out Z11.out P0.out P1.out P2.out G14.out ((HB9.out.setR (Nat.lt_of_lt_of_le V14.out nr_) _).rdm rfl b2) HB9.out.capt HR9.out H3.out⟩
   ·skip
    go_wp2_with fail;refine⟨⟨⟨_,I14.out⟩,rfl⟩,?_⟩;iterate 3 (refine RW.walkT_any ?_;simp only[dsc_,dz_,tsc_,tz_];go_big_quiet_step (fail);refine wq_ ?_)
    refine RW.walkT_move ?_;simp only[dsc_,dz_,tsc_,tz_]
    go_wp2_with (refine wpList_store_row rfl 67 (.tmp 6) (.tmp 14) rfl (wd.heap.size) _ rfl rfl 67 _ G14.out (by kernel_rfl) rfl (by simp[Value.oneCell']) ?_)
    refine RW.walkT_move ?_;simp only[dsc_,dz_,tsc_,tz_];go_wp2_with fail;simp only[RW.walkT];go_wp2_with fail
    go_meet
    exact⟨_,4,rfl,rfl,smr_err B0.out I14.out Z11.out P0.out P1.out P2.out _⟩
 case rest =>
  obtain⟨g,q,rfl,rfl,S⟩:=hcut;have k2:=hd_ S.out.k2;have D0:=hd_ S.out.b;rcases S.out.r with rfl|⟨rfl,Bs,a,c,hg,hr,hc,RB,hT⟩
  ·clear S HF HW HCs HCt B0 P0 P1 P2
   go_wp2_with (refine wpList_store_row rfl 32 (.tmp 4) (.tmp 18) rfl (w.heap.size+1+1) _ rfl rfl 32 _ k2.out (by kernel_rfl) rfl (by simp[Value.oneCell']) ?_)
   exact bodyPost_ret (results_ct rfl _ _ (w.heap.size+1+1) 32 _ (0,0) _ rfl (setRow_heap _ _ _ _ _ _ k2.out) Tryz.underlying32 rfl (by kernel_rfl)) rfl ⟨below_setRow D0.out (by omega) _,.inl rfl⟩
  ·obtain⟨j0,j1,j2⟩:=three_cells S.out.k0;obtain⟨i0,i1,-,-⟩:=obj_two hg;have HFc:=hd_ (HF.out wc D0.out a c Bs hr RB);have HT:=hd_ hT;clear S HF HW HCs HCt B0 P0 P1 P2 hg hr hc RB hT;go_wp2_with fail;refine cm_ HFc.out ?_;rintro e w9 h9;obtain⟨hb,hh⟩:=fc_jn h9 HT.out;have k9:=hk_ k2 hb;have D9:=bt_ D0 hb;clear h9 hb HFc HT k2 D0 j0 j1 j2 i0 i1;unfold tmV temV at hh;rcases hh with rfl|⟨E,F,u,rfl,e1,e2,e3⟩
   ·go_wp2_with (refine wpList_store_row rfl 32 (.tmp 4) (.tmp 25) rfl (w.heap.size+1+1) _ rfl rfl 32 _ k9.out (by kernel_rfl) rfl (by simp[Value.oneCell']) ?_)
    exact bodyPost_ret (results_ct rfl _ _ (w.heap.size+1+1) 32 _ (0,0) _ rfl (setRow_heap _ _ _ _ _ _ k9.out) Tryz.underlying32 rfl (by kernel_rfl)) rfl ⟨below_setRow D9.out (by omega) _,.inl rfl⟩
   ·have E1:=hd_ e1;have E2:=hd_ (e2.setRow (cs' := #[.slice u.a0 ps.length u.c0,.slice u.a1 E.length u.c1,.slice u.a2 F.length u.c2]) e1 (by rw[HN.out];exact hp0'.out) k9.out nils3);have E3:=hd_ e3;clear e1 e2 e3
    go_wp2_with (refine wpList_store_row rfl 32 (.tmp 4) (.tmp 25) rfl (w.heap.size+1+1) _ rfl rfl 32 _ k9.out (by kernel_rfl) rfl (by simp[Value.oneCell']) ?_)
    exact bodyPost_ret (results_ct rfl _ _ (w.heap.size+1+1) 32 _ (0,0) _ rfl (setRow_heap _ _ _ _ _ _ k9.out) Tryz.underlying32 rfl (by kernel_rfl)) rfl ⟨below_setRow D9.out (by omega) _,.inr ⟨E,F,u,rfl,E1.out,E2.out,E3.out⟩⟩
theorem Join_any(w:World)(s t:TLoc)(ps:List Int)(C M D N:List (List Int))(hs:TemT w s ps C M)(ht:TemT w t ps D N)(P:PsR ps)(R:TemOk ps.length C M)(U:TemOk ps.length D N)(L:Laid w):
  Calls Tryz.prog 15 #[tmV s ps.length C.length M.length,tmV t ps.length D.length N.length] w fun e w'=>JnE w w' ps (SumL (Sp (vfs C)) (Sp (vfs D))) e:=by
 have hp0':=hd_ P.len.1;have HR:=hd_ (fun W (hW:Below w.heap.size w W)=>refJoin_any W s t ps C M D N (hs.below hW nr_) (ht.below hW nr_) P R U (L.below hW));have HC:=hd_ (fun W g (hW:Below w.heap.size w W) hg=>refCheck_ok W g s t ps C M D N (hs.below hW nr_) (ht.below hW nr_) P R U (L.below hW) hg);clear hs ht P R U L;unfold JnE tmV temV at HR;unfold tmV temV;obtain⟨T,hT⟩:∃ T,SumL (Sp (vfs C)) (Sp (vfs D))=T:=⟨_,rfl⟩;rw[hT] at HR ⊢;clear hT;obtain⟨n,hn⟩:∃ n,ps.length=n:=⟨_,rfl⟩;have HN:=hd_ hn;rw[hn] at HC hp0' HR ⊢;clear hn;generalize C.length=m1 at *;generalize M.length=m2 at *;generalize D.length=k1 at *;generalize N.length=k2 at *;generalize s.a0=sa0 at *;generalize s.a1=sa1 at *;generalize s.a2=sa2 at *;generalize s.c0=sc0 at *;generalize s.c1=sc1 at *;generalize s.c2=sc2 at *;generalize t.a0=ta0 at *;generalize t.a1=ta1 at *;generalize t.a2=ta2 at *;generalize t.c0=tc0 at *;generalize t.c1=tc1 at *;generalize t.c2=tc2 at *;obtain⟨w0,hw0⟩:∃ w0,((((w.alloc (.cells #[.slice sa0 n sc0,.slice sa1 m1 sc1,.slice sa2 m2 sc2] 32)).alloc (.cells #[.slice ta0 n tc0,.slice ta1 k1 tc1,.slice ta2 k2 tc2] 32)).alloc (.cells #[.slice none 0 0,.slice none 0 0,.slice none 0 0] 32)).alloc (.cells #[.slice sa0 n sc0,.slice sa1 m1 sc1,.slice sa2 m2 sc2,.slice ta0 n tc0,.slice ta1 k1 tc1,.slice ta2 k2 tc2] 32))=w0:=⟨_,rfl⟩;have K0:w0.heap[w.heap.size]?=some (.cells #[.slice sa0 n sc0,.slice sa1 m1 sc1,.slice sa2 m2 sc2] 32 (0,0)):=by rw[← hw0];exact heap_old (heap_old (heap_old (heap_at w _ _ _ rfl) _) _) _
 have K1:w0.heap[w.heap.size+1]?=some (.cells #[.slice ta0 n tc0,.slice ta1 k1 tc1,.slice ta2 k2 tc2] 32 (0,0)):=by rw[← hw0];exact heap_old (heap_old (heap_at _ _ _ _ (by simp)) _) _
 have K2:w0.heap[w.heap.size+1+1]?=some (.cells #[.slice none 0 0,.slice none 0 0,.slice none 0 0] 32 (0,0)):=by rw[← hw0];exact heap_old (heap_at _ _ _ _ (by simp)) _
 have K3:w0.heap[w.heap.size+1+1+1]?=some (.cells #[.slice sa0 n sc0,.slice sa1 m1 sc1,.slice sa2 m2 sc2,.slice ta0 n tc0,.slice ta1 k1 tc1,.slice ta2 k2 tc2] 32 (0,0)):=by rw[← hw0];exact heap_at _ _ _ _ (by simp)
 have A0:Hid (Below w.heap.size w w0):=by rw[← hw0];exact((((Below.refl _ w).alloc nr_ _).alloc (by simp) _).alloc (by simp;omega) _).alloc (by simp;omega) _
 obtain⟨x0,hx0⟩:∃ x0,((w.alloc (.cells #[.slice sa0 n sc0,.slice sa1 m1 sc1,.slice sa2 m2 sc2] 32)).alloc (.cells #[.slice ta0 n tc0,.slice ta1 k1 tc1,.slice ta2 k2 tc2] 32)).alloc (.cells #[.slice none 0 0,.slice none 0 0,.slice none 0 0] 32)=x0:=⟨_,rfl⟩;have X0:x0.heap[w.heap.size]?=some (.cells #[.slice sa0 n sc0,.slice sa1 m1 sc1,.slice sa2 m2 sc2] 32 (0,0)):=by rw[← hx0];exact heap_old (heap_old (heap_at w _ _ _ rfl) _) _
 have X1:x0.heap[w.heap.size+1]?=some (.cells #[.slice ta0 n tc0,.slice ta1 k1 tc1,.slice ta2 k2 tc2] 32 (0,0)):=by rw[← hx0];exact heap_old (heap_at _ _ _ _ (by simp)) _
 obtain⟨j0,j1,j2⟩:=three_cells X0;obtain⟨i0,i1,i2⟩:=three_cells X1;rw[← hx0] at j0 j1 j2 i0 i1 i2;have R0:=hd_ K0;have R1:=hd_ K1;have R2:=hd_ K2;have HC1:=hd_ (HC.out w0 _ A0.out K3);have Hw0:=hd_ hw0;clear K0 K1 K2 K3 hw0 HC X0 X1 hx0;go_enter Tryz.func15,Tryz.ntmps15;go_wp2_with fail;rw[Hw0.out];clear j0 j1 j2 i0 i1 i2 Hw0;refine cm_ HC1.out ?_;rintro e w1 ⟨rfl,hb⟩;have B0:=bt_ A0 hb;have P0:=hk_ R0 hb;have P1:=hk_ R1 hb;have P2:=hk_ R2 hb;clear hb HC1 R0 R1 R2 A0;obtain⟨j0,j1,j2⟩:=three_cells P0.out;obtain⟨i0,i1,i2⟩:=three_cells P1.out;go_wp2_with fail;refine cm_ (HR.out w1 B0.out) ?_;rintro e w9 ⟨hb,hh⟩;have k9:=hk_ P2 hb;have D9:=bt_ B0 hb;clear hb j0 j1 j2 i0 i1 i2 HR;rcases hh with rfl|⟨E,F,u,rfl,e1,e2,e3⟩
 ·go_wp2_with (refine wpList_store_row rfl 32 (.tmp 4) (.tmp 18) rfl (w.heap.size+1+1) _ rfl rfl 32 _ k9.out (by kernel_rfl) rfl (by simp[Value.oneCell']) ?_)
  exact bodyPost_ret (results_ct rfl _ _ (w.heap.size+1+1) 32 _ (0,0) _ rfl (setRow_heap _ _ _ _ _ _ k9.out) Tryz.underlying32 rfl (by kernel_rfl)) rfl ⟨below_setRow D9.out (by omega) _,.inl rfl⟩
 ·have E1:=hd_ e1;have E2:=hd_ (e2.setRow (cs' := #[.slice u.a0 n u.c0,.slice u.a1 E.length u.c1,.slice u.a2 F.length u.c2]) (by rw[HN.out];exact e1) (by rw[HN.out];exact hp0'.out) k9.out nils3);have E3:=hd_ e3;clear e1 e2 e3
  go_wp2_with (refine wpList_store_row rfl 32 (.tmp 4) (.tmp 18) rfl (w.heap.size+1+1) _ rfl rfl 32 _ k9.out (by kernel_rfl) rfl (by simp[Value.oneCell']) ?_)
  refine bodyPost_ret (results_ct rfl _ _ (w.heap.size+1+1) 32 _ (0,0) _ rfl (setRow_heap _ _ _ _ _ _ k9.out) Tryz.underlying32 rfl (by kernel_rfl)) rfl ?_;unfold JnE tmV temV;rw[HN.out];exact⟨below_setRow D9.out (by omega) _,.inr ⟨E,F,u,rfl,E1.out,E2.out,E3.out⟩⟩
theorem Meet_any(w:World)(s t:TLoc)(ps:List Int)(C M D N:List (List Int))(hs:TemT w s ps C M)(ht:TemT w t ps D N)(P:PsR ps)(R:TemOk ps.length C M)(U:TemOk ps.length D N)(L:Laid w):
  Calls Tryz.prog 16 #[tmV s ps.length C.length M.length,tmV t ps.length D.length N.length] w fun e w'=>JnE w w' ps (fun y=>Sp (vfs C) y∧Sp (vfs D) y) e:=by
 obtain⟨hp0,hp6⟩:=P.len;have hp0':=hd_ hp0;have hsp:Rd w s.a0 (ints ps):=hs.p;have hsc:RdM w s.a1 C:=hs.c;have htc:RdM w t.a1 D:=ht.c;have HW:=hd_ (fun W (hW:Below w.heap.size w W)=>inter_any_lat W s.a1 t.a1 s.c1 t.c1 ps.length C D (hsc.below hW nr_) (htc.below hW nr_) R.latC U.latC hs.lc ht.lc hp0 hp6 (L.below hW));have HF:=hd_ (fun W (hW:Below w.heap.size w W) a c Bs (hB:RdM W a Bs) (RB:LatR ps.length Bs)=>fromCommas_any W s.a0 a s.c0 c ps Bs (hsp.below hW nr_) P hB (RB.code (by omega)) (L.below hW));have HC:=hd_ (fun W g (hW:Below w.heap.size w W) hg=>refCheck_ok W g s t ps C M D N (hs.below hW nr_) (ht.below hW nr_) P R U (L.below hW) hg);have HCs:=hd_ (fun W=>commas_any W s ps.length C.length M.length);have HCt:=hd_ (fun W=>commas_any W t ps.length D.length N.length);clear hs ht P R U L hp0 hp6 hsc htc hsp;unfold tmV temV at HCs HCt ⊢;unfold LatE latV at HW;unfold latV at HCs HCt;obtain⟨T,hT⟩:∃ T,(fun y=>Sp (vfs C) y∧Sp (vfs D) y)=T:=⟨_,rfl⟩;rw[hT] at HW ⊢;clear hT;obtain⟨n,hn⟩:∃ n,ps.length=n:=⟨_,rfl⟩;rw[hn] at HW HCs HCt HF HC hp0' ⊢;have HN:=hd_ hn;clear hn;generalize C.length=m1 at *;generalize M.length=m2 at *;generalize D.length=k1 at *;generalize N.length=k2 at *;generalize s.a0=sa0 at *;generalize s.a1=sa1 at *;generalize s.a2=sa2 at *;generalize s.c0=sc0 at *;generalize s.c1=sc1 at *;generalize s.c2=sc2 at *;generalize t.a0=ta0 at *;generalize t.a1=ta1 at *;generalize t.a2=ta2 at *;generalize t.c0=tc0 at *;generalize t.c1=tc1 at *;generalize t.c2=tc2 at *;obtain⟨w0,hw0⟩:∃ w0,((((w.alloc (.cells #[.slice sa0 n sc0,.slice sa1 m1 sc1,.slice sa2 m2 sc2] 32)).alloc (.cells #[.slice ta0 n tc0,.slice ta1 k1 tc1,.slice ta2 k2 tc2] 32)).alloc (.cells #[.slice none 0 0,.slice none 0 0,.slice none 0 0] 32)).alloc (.cells #[.slice sa0 n sc0,.slice sa1 m1 sc1,.slice sa2 m2 sc2,.slice ta0 n tc0,.slice ta1 k1 tc1,.slice ta2 k2 tc2] 32))=w0:=⟨_,rfl⟩;have K0:w0.heap[w.heap.size]?=some (.cells #[.slice sa0 n sc0,.slice sa1 m1 sc1,.slice sa2 m2 sc2] 32 (0,0)):=by rw[← hw0];exact heap_old (heap_old (heap_old (heap_at w _ _ _ rfl) _) _) _
 have K1:w0.heap[w.heap.size+1]?=some (.cells #[.slice ta0 n tc0,.slice ta1 k1 tc1,.slice ta2 k2 tc2] 32 (0,0)):=by rw[← hw0];exact heap_old (heap_old (heap_at _ _ _ _ (by simp)) _) _
 have K2:w0.heap[w.heap.size+1+1]?=some (.cells #[.slice none 0 0,.slice none 0 0,.slice none 0 0] 32 (0,0)):=by rw[← hw0];exact heap_old (heap_at _ _ _ _ (by simp)) _
 have K3:w0.heap[w.heap.size+1+1+1]?=some (.cells #[.slice sa0 n sc0,.slice sa1 m1 sc1,.slice sa2 m2 sc2,.slice ta0 n tc0,.slice ta1 k1 tc1,.slice ta2 k2 tc2] 32 (0,0)):=by rw[← hw0];exact heap_at _ _ _ _ (by simp)
 have A0:Hid (Below w.heap.size w w0):=by rw[← hw0];exact((((Below.refl _ w).alloc nr_ _).alloc (by simp) _).alloc (by simp;omega) _).alloc (by simp;omega) _
 obtain⟨x0,hx0⟩:∃ x0,((w.alloc (.cells #[.slice sa0 n sc0,.slice sa1 m1 sc1,.slice sa2 m2 sc2] 32)).alloc (.cells #[.slice ta0 n tc0,.slice ta1 k1 tc1,.slice ta2 k2 tc2] 32)).alloc (.cells #[.slice none 0 0,.slice none 0 0,.slice none 0 0] 32)=x0:=⟨_,rfl⟩;have X0:x0.heap[w.heap.size]?=some (.cells #[.slice sa0 n sc0,.slice sa1 m1 sc1,.slice sa2 m2 sc2] 32 (0,0)):=by rw[← hx0];exact heap_old (heap_old (heap_at w _ _ _ rfl) _) _
 have X1:x0.heap[w.heap.size+1]?=some (.cells #[.slice ta0 n tc0,.slice ta1 k1 tc1,.slice ta2 k2 tc2] 32 (0,0)):=by rw[← hx0];exact heap_old (heap_at _ _ _ _ (by simp)) _
 obtain⟨j0,j1,j2⟩:=three_cells X0;obtain⟨i0,i1,i2⟩:=three_cells X1;rw[← hx0] at j0 j1 j2 i0 i1 i2;have R0:=hd_ K0;have R1:=hd_ K1;have R2:=hd_ K2;have HC1:=hd_ (HC.out w0 _ A0.out K3);have Hw0:=hd_ hw0;clear K0 K1 K2 K3 hw0 HC X0 X1 hx0;go_enter Tryz.func16,Tryz.ntmps16;go_wp2_with fail;rw[Hw0.out];clear j0 j1 j2 i0 i1 i2 Hw0;refine cm_ HC1.out ?_;rintro e w1 ⟨rfl,hb⟩;have B0:=bt_ A0 hb;have P0:=hk_ R0 hb;have P1:=hk_ R1 hb;have P2:=hk_ R2 hb;clear hb HC1 R0 R1 R2 A0
 go_upto_region 4 with fail
 go_cut [7,8] from 9 (fun l z wx=>∃ g q,l = .pointer (some ⟨g,0,none⟩)∧z = .int .i64 q∧Hid (SmR w wx n g q T #[.slice sa0 n sc0,.slice sa1 m1 sc1,.slice sa2 m2 sc2] #[.slice ta0 n tc0,.slice ta1 k1 tc1,.slice ta2 k2 tc2] #[.slice none 0 0,.slice none 0 0,.slice none 0 0]))
 case first =>
  obtain⟨j0,j1,j2⟩:=three_cells P0.out;obtain⟨i0,i1,i2⟩:=three_cells P1.out;have hnon:Nonempty (NWm w1):=⟨⟨w1,Below.refl _ _⟩⟩;have q1:=NWm.cell j0;have q2:=NWm.cell j1;have q3:=NWm.cell j2;have q4:=NWm.cell i0;have q5:=NWm.cell i1;have q6:=NWm.cell i2;have I:Hid (Below w1.heap.size w1 w1.drew):=(Below.refl _ _).drew;clear j0 j1 j2 i0 i1 i2;go_wp2_with fail;refine RW.wp_region_tree 9 (.rd 1 0 (.rd 1 2 (.two 1 8 (.two 3 8 (.two 4 8 (.rd 2 5 (.rd 2 6 (.rd 2 7 (.mv 8 (.mv 9 (.mv 10 .nil)))))) (.mv 4 (.rd 2 5 (.rd 2 6 (.rd 2 7 (.mv 9 (.mv 10 .nil))))))) (.mv 3 (.mv 4 (.rd 2 5 (.rd 2 6 (.rd 2 7 (.mv 9 (.mv 10 .nil)))))))) (.mv 1 (.mv 3 (.mv 4 (.rd 2 5 (.rd 2 6 (.rd 2 7 (.mv 9 (.mv 10 .nil))))))))))) (fun w'=>∃ p:NWm w1,w'=p.w) (by kernel_rfl) (by kernel_rfl) ?_ ?_
  ·exact⟨⟨_,I.out⟩,rfl⟩
  iterate 2 (refine RW.walkT_read ?_;simp only[dsc_,dz_,tsc_,tz_];go_big_quiet_step (fail);refine wq_ ?_)
  clear hnon q1 q2 q3 q4 q5 q6;obtain⟨wd,hwd⟩:∃ wd:World,{ heap:=w1.heap,tape:=w1.tape,drawn:=w1.drawn+1,os:=w1.os,output:=w1.output }=wd:=⟨_,rfl⟩;have J:Hid (Below w1.heap.size w1 wd):=by rw[← hwd];exact⟨rfl,rfl,rfl,Nat.le_refl _,fun _ _=>rfl⟩
  rw[hwd];clear hwd I;refine RW.walkT_two ?_ ?_
  ·skip
   simp only[dsc_,dz_,tsc_,tz_];go_wp2_with fail;refine cm_ (HCs.out _) ?_;rintro e y1 ⟨rfl,hb⟩;have I1:=bt_ J hb;clear hb;go_wp2_with fail;refine⟨⟨⟨_,I1.out⟩,rfl⟩,?_⟩;refine RW.walkT_two ?_ ?_
   ·skip
    simp only[dsc_,dz_,tsc_,tz_];go_wp2_with fail;refine cm_ (HCt.out _) ?_;rintro e y2 ⟨rfl,hb⟩;have I2:=bt_ I1 hb;clear hb;go_wp2_with fail;refine⟨⟨⟨_,I2.out⟩,rfl⟩,?_⟩;refine RW.walkT_two ?_ ?_
    ·skip
     simp only[dsc_,dz_,tsc_,tz_];go_wp2_with fail;refine cm_ (HW.out _ (bu_ B0 I2.out)) ?_;rintro e y3 ⟨hb,Bs,b1,b2,b3,hh⟩;have I3:=bt_ I2 hb;have H3:=hd_ b3;clear hb b1 b3;rcases hh with⟨RB,a9,c9,K9,rfl,hbl⟩|⟨_,rfl⟩
     ·skip
      have HB9:=hd_ hbl;have HR9:=hd_ RB;clear hbl RB;go_wp2_with fail;refine⟨⟨⟨_,I3.out⟩,rfl⟩,?_⟩;iterate 3 (refine RW.walkT_any ?_;simp only[dsc_,dz_,tsc_,tz_];go_big_quiet_step (fail);refine wq_ ?_)
      refine RW.walkT_move ?_;simp only[dsc_,dz_,tsc_,tz_];have I4:=hd_ (I3.out.alloc I3.out.size (.cells #[.int .i64 0,.slice none 0 0] 67));have G4:=hd_ (heap_at y3 #[.int .i64 0,.slice none 0 0] 67 _ rfl);have Z4:Hid (w1.heap.size≤y3.heap.size):=I3.out.size;have Y4:Hid (y3.heap.size<(y3.alloc (.cells #[.int .i64 0,.slice none 0 0] 67)).heap.size):=by show _<_;rw[World.size_alloc];omega
      have hba4:Hid (Below y3.heap.size y3 (y3.alloc (.cells #[.int .i64 0,.slice none 0 0] 67))):=(Below.refl _ y3).alloc nr_ _;go_wp2_with fail;generalize y3.alloc (.cells #[.int .i64 0,.slice none 0 0] 67)=y4 at *;refine⟨⟨⟨_,I4.out⟩,rfl⟩,?_⟩;refine RW.walkT_move ?_;simp only[dsc_,dz_,tsc_,tz_]
      go_wp2_with (refine wpList_store_row rfl 67 (.tmp 7) (.tmp 23) rfl (y3.heap.size) _ rfl rfl 67 _ G4.out (by kernel_rfl) rfl (by simp[Value.oneCell']) ?_)
      refine RW.walkT_move ?_;simp only[dsc_,dz_,tsc_,tz_];go_wp2_with fail;simp only[RW.walkT];go_wp2_with fail
      go_meet
      exact⟨_,0,rfl,rfl,smr_ok B0.out I4.out Z4.out P0.out P1.out P2.out G4.out ((HB9.out.rdm rfl b2).below (below_setRow hba4.out nr_ _) nr_) HB9.out.capt HR9.out H3.out⟩
     ·skip
      go_wp2_with fail;refine⟨⟨⟨_,I3.out⟩,rfl⟩,?_⟩;iterate 3 (refine RW.walkT_any ?_;simp only[dsc_,dz_,tsc_,tz_];go_big_quiet_step (fail);refine wq_ ?_)
      refine RW.walkT_move ?_;simp only[dsc_,dz_,tsc_,tz_];have I5:=hd_ (I3.out.alloc I3.out.size (.cells #[.int .i64 0,.slice none 0 0] 67));have G5:=hd_ (heap_at y3 #[.int .i64 0,.slice none 0 0] 67 _ rfl);have Z5:Hid (w1.heap.size≤y3.heap.size):=I3.out.size;have Y5:Hid (y3.heap.size<(y3.alloc (.cells #[.int .i64 0,.slice none 0 0] 67)).heap.size):=by show _<_;rw[World.size_alloc];omega
      have hba5:Hid (Below y3.heap.size y3 (y3.alloc (.cells #[.int .i64 0,.slice none 0 0] 67))):=(Below.refl _ y3).alloc nr_ _;go_wp2_with fail;generalize y3.alloc (.cells #[.int .i64 0,.slice none 0 0] 67)=y5 at *;refine⟨⟨⟨_,I5.out⟩,rfl⟩,?_⟩;refine RW.walkT_move ?_;simp only[dsc_,dz_,tsc_,tz_]
      go_wp2_with (refine wpList_store_row rfl 67 (.tmp 7) (.tmp 23) rfl (y3.heap.size) _ rfl rfl 67 _ G5.out (by kernel_rfl) rfl (by simp[Value.oneCell']) ?_)
      refine RW.walkT_move ?_;simp only[dsc_,dz_,tsc_,tz_];go_wp2_with fail;simp only[RW.walkT];go_wp2_with fail
      go_meet
      exact⟨_,4,rfl,rfl,smr_err B0.out I5.out Z5.out P0.out P1.out P2.out _⟩
    ·skip
     simp only[dsc_,dz_,tsc_,tz_];have I6:=hd_ (I2.out.alloc I2.out.size (.cells #[.int .i64 0,.slice none 0 0] 67));have G6:=hd_ (heap_at y2 #[.int .i64 0,.slice none 0 0] 67 _ rfl);have Z6:Hid (w1.heap.size≤y2.heap.size):=I2.out.size;have Y6:Hid (y2.heap.size<(y2.alloc (.cells #[.int .i64 0,.slice none 0 0] 67)).heap.size):=by show _<_;rw[World.size_alloc];omega
     have hba6:Hid (Below y2.heap.size y2 (y2.alloc (.cells #[.int .i64 0,.slice none 0 0] 67))):=(Below.refl _ y2).alloc nr_ _;go_wp2_with fail;generalize y2.alloc (.cells #[.int .i64 0,.slice none 0 0] 67)=y6 at *;refine⟨⟨⟨_,I6.out⟩,rfl⟩,?_⟩;refine RW.walkT_move ?_;simp only[dsc_,dz_,tsc_,tz_];go_wp2_with fail;refine cm_ (HW.out _ (bu_ B0 I6.out)) ?_;rintro e y7 ⟨hb,Bs,b1,b2,b3,hh⟩;have I7:=bt_ I6 hb;have G7:=hk_ G6 hb;have V7:=hd_ (show y2.heap.size<y6.heap.size from (Array.getElem?_eq_some_iff.1 G6.out).1);have H3:=hd_ b3;clear hb b1 b3;rcases hh with⟨RB,a9,c9,K9,rfl,hbl⟩|⟨_,rfl⟩
     ·skip
      have HB9:=hd_ hbl;have HR9:=hd_ RB;clear hbl RB;go_wp2_with fail;refine⟨⟨⟨_,I7.out⟩,rfl⟩,?_⟩;iterate 3 (refine RW.walkT_any ?_;simp only[dsc_,dz_,tsc_,tz_];go_big_quiet_step (fail);refine wq_ ?_)
      refine RW.walkT_move ?_;simp only[dsc_,dz_,tsc_,tz_]
      go_wp2_with (refine wpList_store_row rfl 67 (.tmp 7) (.tmp 23) rfl (y2.heap.size) _ rfl rfl 67 _ G7.out (by kernel_rfl) rfl (by simp[Value.oneCell']) ?_)
      refine RW.walkT_move ?_;simp only[dsc_,dz_,tsc_,tz_];go_wp2_with fail;simp only[RW.walkT];go_wp2_with fail
      go_meet
      exact⟨_,0,rfl,rfl,smr_ok B0.out I7.out Z6.out P0.out P1.out P2.out G7.out ((HB9.out.setR (Nat.lt_of_lt_of_le V7.out nr_) _).rdm rfl b2) HB9.out.capt HR9.out H3.out⟩
     ·skip
      go_wp2_with fail;refine⟨⟨⟨_,I7.out⟩,rfl⟩,?_⟩;iterate 3 (refine RW.walkT_any ?_;simp only[dsc_,dz_,tsc_,tz_];go_big_quiet_step (fail);refine wq_ ?_)
      refine RW.walkT_move ?_;simp only[dsc_,dz_,tsc_,tz_]
      go_wp2_with (refine wpList_store_row rfl 67 (.tmp 7) (.tmp 23) rfl (y2.heap.size) _ rfl rfl 67 _ G7.out (by kernel_rfl) rfl (by simp[Value.oneCell']) ?_)
      refine RW.walkT_move ?_;simp only[dsc_,dz_,tsc_,tz_];go_wp2_with fail;simp only[RW.walkT];go_wp2_with fail
      go_meet
      exact⟨_,4,rfl,rfl,smr_err B0.out I7.out Z6.out P0.out P1.out P2.out _⟩
   ·skip
    simp only[dsc_,dz_,tsc_,tz_];have I8:=hd_ (I1.out.alloc I1.out.size (.cells #[.int .i64 0,.slice none 0 0] 67));have G8:=hd_ (heap_at y1 #[.int .i64 0,.slice none 0 0] 67 _ rfl);have Z8:Hid (w1.heap.size≤y1.heap.size):=I1.out.size;have Y8:Hid (y1.heap.size<(y1.alloc (.cells #[.int .i64 0,.slice none 0 0] 67)).heap.size):=by show _<_;rw[World.size_alloc];omega
    have hba8:Hid (Below y1.heap.size y1 (y1.alloc (.cells #[.int .i64 0,.slice none 0 0] 67))):=(Below.refl _ y1).alloc nr_ _;go_wp2_with fail;generalize y1.alloc (.cells #[.int .i64 0,.slice none 0 0] 67)=y8 at *;refine⟨⟨⟨_,I8.out⟩,rfl⟩,?_⟩;refine RW.walkT_move ?_;simp only[dsc_,dz_,tsc_,tz_];go_wp2_with fail;refine cm_ (HCt.out _) ?_;rintro e y9 ⟨rfl,hb⟩;have I9:=bt_ I8 hb;have G9:=hk_ G8 hb;clear hb;go_wp2_with fail;refine⟨⟨⟨_,I9.out⟩,rfl⟩,?_⟩;refine RW.walkT_move ?_;simp only[dsc_,dz_,tsc_,tz_];go_wp2_with fail;refine cm_ (HW.out _ (bu_ B0 I9.out)) ?_;rintro e y10 ⟨hb,Bs,b1,b2,b3,hh⟩;have I10:=bt_ I9 hb;have G10:=hk_ G9 hb;have V10:=hd_ (show y1.heap.size<y9.heap.size from (Array.getElem?_eq_some_iff.1 G9.out).1);have H3:=hd_ b3;clear hb b1 b3;rcases hh with⟨RB,a9,c9,K9,rfl,hbl⟩|⟨_,rfl⟩
    ·skip
     have HB9:=hd_ hbl;have HR9:=hd_ RB;clear hbl RB;go_wp2_with fail;refine⟨⟨⟨_,I10.out⟩,rfl⟩,?_⟩;iterate 3 (refine RW.walkT_any ?_;simp only[dsc_,dz_,tsc_,tz_];go_big_quiet_step (fail);refine wq_ ?_)
     refine RW.walkT_move ?_;simp only[dsc_,dz_,tsc_,tz_]
     go_wp2_with (refine wpList_store_row rfl 67 (.tmp 7) (.tmp 23) rfl (y1.heap.size) _ rfl rfl 67 _ G10.out (by kernel_rfl) rfl (by simp[Value.oneCell']) ?_)
     refine RW.walkT_move ?_;simp only[dsc_,dz_,tsc_,tz_];go_wp2_with fail;simp only[RW.walkT];go_wp2_with fail
     go_meet
     exact⟨_,0,rfl,rfl,smr_ok B0.out I10.out Z8.out P0.out P1.out P2.out G10.out ((HB9.out.setR (Nat.lt_of_lt_of_le V10.out nr_) _).rdm rfl b2) HB9.out.capt HR9.out H3.out⟩
    ·skip
     go_wp2_with fail;refine⟨⟨⟨_,I10.out⟩,rfl⟩,?_⟩;iterate 3 (refine RW.walkT_any ?_;simp only[dsc_,dz_,tsc_,tz_];go_big_quiet_step (fail);refine wq_ ?_)
     refine RW.walkT_move ?_;simp only[dsc_,dz_,tsc_,tz_]
     go_wp2_with (refine wpList_store_row rfl 67 (.tmp 7) (.tmp 23) rfl (y1.heap.size) _ rfl rfl 67 _ G10.out (by kernel_rfl) rfl (by simp[Value.oneCell']) ?_)
     refine RW.walkT_move ?_;simp only[dsc_,dz_,tsc_,tz_];go_wp2_with fail;simp only[RW.walkT];go_wp2_with fail
     go_meet
     exact⟨_,4,rfl,rfl,smr_err B0.out I10.out Z8.out P0.out P1.out P2.out _⟩
  ·skip
   simp only[dsc_,dz_,tsc_,tz_];have I11:=hd_ (J.out.alloc J.out.size (.cells #[.int .i64 0,.slice none 0 0] 67));have G11:=hd_ (heap_at wd #[.int .i64 0,.slice none 0 0] 67 _ rfl);have Z11:Hid (w1.heap.size≤wd.heap.size):=J.out.size;have Y11:Hid (wd.heap.size<(wd.alloc (.cells #[.int .i64 0,.slice none 0 0] 67)).heap.size):=by show _<_;rw[World.size_alloc];omega
   have hba11:Hid (Below wd.heap.size wd (wd.alloc (.cells #[.int .i64 0,.slice none 0 0] 67))):=(Below.refl _ wd).alloc nr_ _;go_wp2_with fail;generalize wd.alloc (.cells #[.int .i64 0,.slice none 0 0] 67)=y11 at *;refine⟨⟨⟨_,I11.out⟩,rfl⟩,?_⟩;refine RW.walkT_move ?_;simp only[dsc_,dz_,tsc_,tz_];go_wp2_with fail;refine cm_ (HCs.out _) ?_;rintro e y12 ⟨rfl,hb⟩;have I12:=bt_ I11 hb;have G12:=hk_ G11 hb;clear hb;go_wp2_with fail;refine⟨⟨⟨_,I12.out⟩,rfl⟩,?_⟩;refine RW.walkT_move ?_;simp only[dsc_,dz_,tsc_,tz_];go_wp2_with fail;refine cm_ (HCt.out _) ?_;rintro e y13 ⟨rfl,hb⟩;have I13:=bt_ I12 hb;have G13:=hk_ G12 hb;clear hb;go_wp2_with fail;refine⟨⟨⟨_,I13.out⟩,rfl⟩,?_⟩;refine RW.walkT_move ?_;simp only[dsc_,dz_,tsc_,tz_];go_wp2_with fail;refine cm_ (HW.out _ (bu_ B0 I13.out)) ?_;rintro e y14 ⟨hb,Bs,b1,b2,b3,hh⟩;have I14:=bt_ I13 hb;have G14:=hk_ G13 hb;have V14:=hd_ (show wd.heap.size<y13.heap.size from (Array.getElem?_eq_some_iff.1 G13.out).1);have H3:=hd_ b3;clear hb b1 b3;rcases hh with⟨RB,a9,c9,K9,rfl,hbl⟩|⟨_,rfl⟩
   ·skip
    have HB9:=hd_ hbl;have HR9:=hd_ RB;clear hbl RB;go_wp2_with fail;refine⟨⟨⟨_,I14.out⟩,rfl⟩,?_⟩;iterate 3 (refine RW.walkT_any ?_;simp only[dsc_,dz_,tsc_,tz_];go_big_quiet_step (fail);refine wq_ ?_)
    refine RW.walkT_move ?_;simp only[dsc_,dz_,tsc_,tz_]
    go_wp2_with (refine wpList_store_row rfl 67 (.tmp 7) (.tmp 23) rfl (wd.heap.size) _ rfl rfl 67 _ G14.out (by kernel_rfl) rfl (by simp[Value.oneCell']) ?_)
    refine RW.walkT_move ?_;simp only[dsc_,dz_,tsc_,tz_];go_wp2_with fail;simp only[RW.walkT];go_wp2_with fail
    go_meet
    exact⟨_,0,rfl,rfl,smr_ok B0.out I14.out Z11.out P0.out P1.out P2.out G14.out ((HB9.out.setR (Nat.lt_of_lt_of_le V14.out nr_) _).rdm rfl b2) HB9.out.capt HR9.out H3.out⟩
   ·skip
    go_wp2_with fail;refine⟨⟨⟨_,I14.out⟩,rfl⟩,?_⟩;iterate 3 (refine RW.walkT_any ?_;simp only[dsc_,dz_,tsc_,tz_];go_big_quiet_step (fail);refine wq_ ?_)
    refine RW.walkT_move ?_;simp only[dsc_,dz_,tsc_,tz_]
    go_wp2_with (refine wpList_store_row rfl 67 (.tmp 7) (.tmp 23) rfl (wd.heap.size) _ rfl rfl 67 _ G14.out (by kernel_rfl) rfl (by simp[Value.oneCell']) ?_)
    refine RW.walkT_move ?_;simp only[dsc_,dz_,tsc_,tz_];go_wp2_with fail;simp only[RW.walkT];go_wp2_with fail
    go_meet
    exact⟨_,4,rfl,rfl,smr_err B0.out I14.out Z11.out P0.out P1.out P2.out _⟩
 case rest =>
  obtain⟨g,q,rfl,rfl,S⟩:=hcut;have k2:=hd_ S.out.k2;have D0:=hd_ S.out.b;rcases S.out.r with rfl|⟨rfl,Bs,a,c,hg,hr,hc,RB,hT⟩
  ·clear S HF HW HCs HCt B0 P0 P1 P2
   go_wp2_with (refine wpList_store_row rfl 32 (.tmp 4) (.tmp 27) rfl (w.heap.size+1+1) _ rfl rfl 32 _ k2.out (by kernel_rfl) rfl (by simp[Value.oneCell']) ?_)
   exact bodyPost_ret (results_ct rfl _ _ (w.heap.size+1+1) 32 _ (0,0) _ rfl (setRow_heap _ _ _ _ _ _ k2.out) Tryz.underlying32 rfl (by kernel_rfl)) rfl ⟨below_setRow D0.out (by omega) _,.inl rfl⟩
  ·obtain⟨j0,j1,j2⟩:=three_cells S.out.k0;obtain⟨i0,i1,-,-⟩:=obj_two hg;have HFc:=hd_ (HF.out wc D0.out a c Bs hr RB);have HT:=hd_ hT;clear S HF HW HCs HCt B0 P0 P1 P2 hg hr hc RB hT;go_wp2_with fail;refine cm_ HFc.out ?_;rintro e w9 h9;obtain⟨hb,hh⟩:=fc_jn h9 HT.out;have k9:=hk_ k2 hb;have D9:=bt_ D0 hb;clear h9 hb HFc HT k2 D0 j0 j1 j2 i0 i1;unfold tmV temV at hh;rcases hh with rfl|⟨E,F,u,rfl,e1,e2,e3⟩
   ·go_wp2_with (refine wpList_store_row rfl 32 (.tmp 4) (.tmp 34) rfl (w.heap.size+1+1) _ rfl rfl 32 _ k9.out (by kernel_rfl) rfl (by simp[Value.oneCell']) ?_)
    exact bodyPost_ret (results_ct rfl _ _ (w.heap.size+1+1) 32 _ (0,0) _ rfl (setRow_heap _ _ _ _ _ _ k9.out) Tryz.underlying32 rfl (by kernel_rfl)) rfl ⟨below_setRow D9.out (by omega) _,.inl rfl⟩
   ·have E1:=hd_ e1;have E2:=hd_ (e2.setRow (cs' := #[.slice u.a0 ps.length u.c0,.slice u.a1 E.length u.c1,.slice u.a2 F.length u.c2]) e1 (by rw[HN.out];exact hp0'.out) k9.out nils3);have E3:=hd_ e3;clear e1 e2 e3
    go_wp2_with (refine wpList_store_row rfl 32 (.tmp 4) (.tmp 34) rfl (w.heap.size+1+1) _ rfl rfl 32 _ k9.out (by kernel_rfl) rfl (by simp[Value.oneCell']) ?_)
    exact bodyPost_ret (results_ct rfl _ _ (w.heap.size+1+1) 32 _ (0,0) _ rfl (setRow_heap _ _ _ _ _ _ k9.out) Tryz.underlying32 rfl (by kernel_rfl)) rfl ⟨below_setRow D9.out (by omega) _,.inr ⟨E,F,u,rfl,E1.out,E2.out,E3.out⟩⟩
theorem below_same{w:World}{g:Nat}{cs:Array Value}{t:TypeId}{fr:Nat×Nat}(hg:w.heap[g]?=some (.cells cs t fr)):Below w.heap.size w (w.setRow g cs) :=
 ⟨rfl,rfl,rfl,by simp,fun i _=>by
  by_cases e:i=g
  ·subst e;rw[setRow_heap _ _ _ _ _ _ hg,hg]
  ·exact setRow_other w g i cs e⟩
def L8R (w':World) (ps:List Int) (A B:List (List Int)) (t:TLoc) (n m k:Nat) (u:TLoc) (n' m' k':Nat):Prop :=
 ∃ J MJ U MU,n=ps.length∧m=J.length∧k=MJ.length∧n'=ps.length∧m'=U.length∧k'=MU.length∧TemOk ps.length J MJ∧TemOk ps.length U MU∧TemT w' t ps J MJ∧TemT w' u ps U MU∧JoiR ps.length A B J∧MeeR A B U
def L8E (w w':World) (ps:List Int) (A B:List (List Int)) (e:Ending):Prop :=
 Below w.heap.size w w'∧∃ t n m k u n' m' k' z,e = .returned (.tuple #[tmV t n m k,tmV u n' m' k',.bool z])∧(z=true→L8R w' ps A B t n m k u n' m' k')
theorem jn_shape{w w':World}{ps:List Int}{T:Vc→Prop}{e:Ending}(h:JnE w w' ps T e):Below w.heap.size w w'∧∃ (t:TLoc) (n m k:Nat) (z:Int),e = .returned (.tuple #[tmV t n m k,.int .i64 z])∧(z=4∨z=0∧∃ D N,n=ps.length∧m=D.length∧k=N.length∧TemOk ps.length D N∧TemT w' t ps D N∧∀ y,Sp (vfs D) y↔Perp ps.length (Perp ps.length T) y):=by
 obtain⟨hb,rfl|⟨D,N,t,rfl,h1,h2,h3⟩⟩:=h
 ·exact⟨hb,⟨none,0,none,0,none,0⟩,0,0,0,4,rfl,.inl rfl⟩
 ·exact⟨hb,t,_,_,_,0,rfl,.inr ⟨rfl,D,N,rfl,rfl,rfl,h1,h2,h3⟩⟩
structure SixW (g1 g2:Nat) (x0 x1 x2 y0 y1 y2:Value) where
 w:World
 a0:w.cell? ⟨g1,0,none⟩=some x0
 a1:w.cell? ⟨g1,1,none⟩=some x1
 a2:w.cell? ⟨g1,2,none⟩=some x2
 b0:w.cell? ⟨g2,0,none⟩=some y0
 b1:w.cell? ⟨g2,1,none⟩=some y1
 b2:w.cell? ⟨g2,2,none⟩=some y2
theorem results_cct{P:Program}{fn:Func}{p q y:Tmp}{ty:TypeId}(h:fn.results = #[.cell p ty,.cell q ty,.tmp y])(tmps:Array Value)(w:World)(g g2:Nat)(t:TypeId)(cs cs2:Array Value)(fr:Nat×Nat)(d:TypeDesc)
  (hp:tmps.getD p undef = .pointer (some ⟨g,0,none⟩)) (hg:w.heap[g]?=some (.cells cs t fr)) (hp2:tmps.getD q undef = .pointer (some ⟨g2,0,none⟩)) (hg2:w.heap[g2]?=some (.cells cs2 t fr))
  (hu:P.underlying ty=some d) (hd:(match d with | .struct _ | .array _ _=>true | _=>false)=true) (hi:(P.info? ty).map (·.size)=some cs.size) (hi2:(P.info? ty).map (·.size)=some cs2.size) :
  (results fn tmps).run P w = .ok (.tuple #[.agg cs,.agg cs2,tmps.getD y undef]) w:=by
 have hp':tmps[p]?.getD undef = .pointer (some ⟨g,0,none⟩):=by simpa using hp
 have hp2':tmps[q]?.getD undef = .pointer (some ⟨g2,0,none⟩):=by simpa using hp2
 simp[results,h,hp',hp2',asAddr,run_loadVar_row w g t ty cs fr d hg hu hd hi,run_loadVar_row w g2 t ty cs2 fr d hg2 hu hd hi2]
theorem lattice08_any(w:World)(s t:TLoc)(ps:List Int)(C M D N:List (List Int))(hs:TemT w s ps C M)(ht:TemT w t ps D N)(P:PsR ps)(R:TemOk ps.length C M)(U:TemOk ps.length D N)(L:Laid w):
  Calls Tryz.prog 8 #[tmV s ps.length C.length M.length,tmV t ps.length D.length N.length] w fun e w'=>L8E w w' ps C D e:=by
 have hp0:=hd_ P.len.1;have HJ:=hd_ (fun W (hW:Below w.heap.size w W)=>Join_any W s t ps C M D N (hs.below hW nr_) (ht.below hW nr_) P R U (L.below hW));have HM:=hd_ (fun W (hW:Below w.heap.size w W)=>Meet_any W s t ps C M D N (hs.below hW nr_) (ht.below hW nr_) P R U (L.below hW));have HI:=hd_ (closed_iff (inter_closed R.closed U.closed));clear hs ht P R U L;unfold tmV temV at HJ HM ⊢;generalize C.length=m1 at *;generalize M.length=m2 at *;generalize D.length=k1 at *;generalize N.length=k2 at *;generalize s.a0=sa0 at *;generalize s.a1=sa1 at *;generalize s.a2=sa2 at *;generalize s.c0=sc0 at *;generalize s.c1=sc1 at *;generalize s.c2=sc2 at *;generalize t.a0=ta0 at *;generalize t.a1=ta1 at *;generalize t.a2=ta2 at *;generalize t.c0=tc0 at *;generalize t.c1=tc1 at *;generalize t.c2=tc2 at *;obtain⟨nn,hnn⟩:∃ nn,ps.length=nn:=⟨_,rfl⟩;have HN:=hd_ hnn;rw[hnn] at HJ HM ⊢;clear hnn;obtain⟨w1,hw1⟩:∃ w1,((((w.alloc (.cells #[.slice sa0 nn sc0,.slice sa1 m1 sc1,.slice sa2 m2 sc2] 32)).alloc (.cells #[.slice ta0 nn tc0,.slice ta1 k1 tc1,.slice ta2 k2 tc2] 32)).alloc (.cells #[.slice none 0 0,.slice none 0 0,.slice none 0 0] 32)).alloc (.cells #[.slice none 0 0,.slice none 0 0,.slice none 0 0] 32))=w1:=⟨_,rfl⟩;have K0:w1.heap[w.heap.size]?=some (.cells #[.slice sa0 nn sc0,.slice sa1 m1 sc1,.slice sa2 m2 sc2] 32 (0,0)):=by rw[← hw1];exact heap_old (heap_old (heap_old (heap_at w _ _ _ rfl) _) _) _
 have K1:w1.heap[w.heap.size+1]?=some (.cells #[.slice ta0 nn tc0,.slice ta1 k1 tc1,.slice ta2 k2 tc2] 32 (0,0)):=by rw[← hw1];exact heap_old (heap_old (heap_at _ _ _ _ (by simp)) _) _
 have K2:w1.heap[w.heap.size+1+1]?=some (.cells #[.slice none 0 0,.slice none 0 0,.slice none 0 0] 32 (0,0)):=by rw[← hw1];exact heap_old (heap_at _ _ _ _ (by simp)) _
 have K3:w1.heap[w.heap.size+1+1+1]?=some (.cells #[.slice none 0 0,.slice none 0 0,.slice none 0 0] 32 (0,0)):=by rw[← hw1];exact heap_at _ _ _ _ (by simp)
 have B0:Hid (Below w.heap.size w w1):=by rw[← hw1];exact((((Below.refl _ w).alloc nr_ _).alloc (by simp) _).alloc (by simp;omega) _).alloc (by simp;omega) _
 obtain⟨j0,j1,j2⟩:=three_cells K0;obtain⟨i0,i1,i2⟩:=three_cells K1;rw[← hw1] at j0 j1 j2 i0 i1 i2;have P0:=hd_ K0;have P1:=hd_ K1;have P2:=hd_ K2;have P3:=hd_ K3;have Hw1:=hd_ hw1;clear K0 K1 K2 K3 hw1;go_enter Tryz.func8,Tryz.ntmps8;go_wp2_with fail;rw[Hw1.out];clear j0 j1 j2 i0 i1 i2 Hw1;refine cm_ (HJ.out w1 B0.out) ?_;rintro e w2 h2;obtain⟨hb,t1,n1,a1,b1,z1,rfl,hz1⟩:=jn_shape h2;unfold tmV temV;have Q0:=hk_ P0 hb;have Q1:=hk_ P1 hb;have Q2:=hk_ P2 hb;have Q3:=hk_ P3 hb;have D2:=bt_ B0 hb;have Z1:Hid (z1=4∨z1=0∧∃ E F,n1=ps.length∧a1=E.length∧b1=F.length∧TemOk ps.length E F∧TemT (w2.setRow (w.heap.size+1+1) #[.slice t1.a0 n1 t1.c0,.slice t1.a1 a1 t1.c1,.slice t1.a2 b1 t1.c2]) t1 ps E F∧JoiR ps.length C D E):=by
  rcases hz1 with h|⟨h,E,F,e1,e2,e3,e4,e5,e6⟩
  ·exact .inl h
  ·exact .inr ⟨h,E,F,e1,e2,e3,e4,e5.setRow e4 hp0.out Q2.out nils3,e6⟩
 have R0:Hid ((w2.setRow (w.heap.size+1+1) #[.slice t1.a0 n1 t1.c0,.slice t1.a1 a1 t1.c1,.slice t1.a2 b1 t1.c2]).heap[w.heap.size]?=some (.cells #[.slice sa0 nn sc0,.slice sa1 m1 sc1,.slice sa2 m2 sc2] 32 (0,0))):=(setRow_other w2 _ _ _ (by omega)).trans Q0.out;have R1:Hid ((w2.setRow (w.heap.size+1+1) #[.slice t1.a0 n1 t1.c0,.slice t1.a1 a1 t1.c1,.slice t1.a2 b1 t1.c2]).heap[w.heap.size+1]?=some (.cells #[.slice ta0 nn tc0,.slice ta1 k1 tc1,.slice ta2 k2 tc2] 32 (0,0))):=(setRow_other w2 _ _ _ (by omega)).trans Q1.out;have R2:Hid ((w2.setRow (w.heap.size+1+1) #[.slice t1.a0 n1 t1.c0,.slice t1.a1 a1 t1.c1,.slice t1.a2 b1 t1.c2]).heap[w.heap.size+1+1]?=some (.cells #[.slice t1.a0 n1 t1.c0,.slice t1.a1 a1 t1.c1,.slice t1.a2 b1 t1.c2] 32 (0,0))):=setRow_heap _ _ _ _ _ _ Q2.out;have R3:Hid ((w2.setRow (w.heap.size+1+1) #[.slice t1.a0 n1 t1.c0,.slice t1.a1 a1 t1.c1,.slice t1.a2 b1 t1.c2]).heap[w.heap.size+1+1+1]?=some (.cells #[.slice none 0 0,.slice none 0 0,.slice none 0 0] 32 (0,0))):=(setRow_other w2 _ _ _ (by omega)).trans Q3.out;have E2:Hid (Below w.heap.size w (w2.setRow (w.heap.size+1+1) #[.slice t1.a0 n1 t1.c0,.slice t1.a1 a1 t1.c1,.slice t1.a2 b1 t1.c2])):=below_setRow D2.out (by omega) _;clear h2 hb hz1 P0 P1 P2 P3 B0 HJ Q0 Q1 Q3 D2;obtain⟨j0,j1,j2⟩:=three_cells R0.out;obtain⟨i0,i1,i2⟩:=three_cells R1.out
 go_wp2_with (refine wpList_store_row rfl 32 (.tmp 4) (.tmp 13) rfl (w.heap.size+1+1) _ rfl rfl 32 _ Q2.out (by kernel_rfl) rfl (by simp[Value.oneCell']) ?_)
 generalize w2.setRow (w.heap.size+1+1) #[.slice t1.a0 n1 t1.c0,.slice t1.a1 a1 t1.c1,.slice t1.a2 b1 t1.c2]=w3 at *;refine cm_ (HM.out w3 E2.out) ?_;rintro e w4 h4;obtain⟨hb,t2,n2,a2,b2,z2,rfl,hz2⟩:=jn_shape h4;unfold tmV temV;have Q3:=hk_ R3 hb;have P2:=hk_ R2 hb;have D4:=bt_ E2 hb;have Y1:Hid (z1=4∨z1=0∧∃ E F,n1=ps.length∧a1=E.length∧b1=F.length∧TemOk ps.length E F∧TemT (w4.setRow (w.heap.size+1+1+1) #[.slice t2.a0 n2 t2.c0,.slice t2.a1 a2 t2.c1,.slice t2.a2 b2 t2.c2]) t1 ps E F∧JoiR ps.length C D E):=by
  rcases Z1.out with h|⟨h,E,F,e1,e2,e3,e4,e5,e6⟩
  ·exact .inl h
  ·exact .inr ⟨h,E,F,e1,e2,e3,e4,(e5.below hb nr_).setRow e4 hp0.out Q3.out nils3,e6⟩
 have Y2:Hid (z2=4∨z2=0∧∃ E F,n2=ps.length∧a2=E.length∧b2=F.length∧TemOk ps.length E F∧TemT (w4.setRow (w.heap.size+1+1+1) #[.slice t2.a0 n2 t2.c0,.slice t2.a1 a2 t2.c1,.slice t2.a2 b2 t2.c2]) t2 ps E F∧MeeR C D E):=by
  rcases hz2 with h|⟨h,E,F,e1,e2,e3,e4,e5,e6⟩
  ·exact .inl h
  ·exact .inr ⟨h,E,F,e1,e2,e3,e4,e5.setRow e4 hp0.out Q3.out nils3,fun y=>(e6 y).trans (HI.out y)⟩
 have R2:Hid ((w4.setRow (w.heap.size+1+1+1) #[.slice t2.a0 n2 t2.c0,.slice t2.a1 a2 t2.c1,.slice t2.a2 b2 t2.c2]).heap[w.heap.size+1+1]?=some (.cells #[.slice t1.a0 n1 t1.c0,.slice t1.a1 a1 t1.c1,.slice t1.a2 b1 t1.c2] 32 (0,0))):=(setRow_other w4 _ _ _ (by omega)).trans P2.out;have R3:Hid ((w4.setRow (w.heap.size+1+1+1) #[.slice t2.a0 n2 t2.c0,.slice t2.a1 a2 t2.c1,.slice t2.a2 b2 t2.c2]).heap[w.heap.size+1+1+1]?=some (.cells #[.slice t2.a0 n2 t2.c0,.slice t2.a1 a2 t2.c1,.slice t2.a2 b2 t2.c2] 32 (0,0))):=setRow_heap _ _ _ _ _ _ Q3.out;have E4:Hid (Below w.heap.size w (w4.setRow (w.heap.size+1+1+1) #[.slice t2.a0 n2 t2.c0,.slice t2.a1 a2 t2.c1,.slice t2.a2 b2 t2.c2])):=below_setRow D4.out (by omega) _;clear h4 hb hz2 R0 R1 E2 HM P2 D4 Z1 j0 j1 j2 i0 i1 i2 HI Q2
 go_wp2_with (refine wpList_store_row rfl 32 (.tmp 5) (.tmp 19) rfl (w.heap.size+1+1+1) _ rfl rfl 32 _ Q3.out (by kernel_rfl) rfl (by simp[Value.oneCell']) ?_)
 generalize w4.setRow (w.heap.size+1+1+1) #[.slice t2.a0 n2 t2.c0,.slice t2.a1 a2 t2.c1,.slice t2.a2 b2 t2.c2]=w5 at *;have hc1:z1=4∨z1=0:=by
  rcases Y1.out with h|⟨h,_⟩
  ·exact .inl h
  ·exact .inr h
 have hc2:z2=4∨z2=0:=by
  rcases Y2.out with h|⟨h,_⟩
  ·exact .inl h
  ·exact .inr h
 obtain⟨j0,j1,j2⟩:=three_cells R2.out;obtain⟨i0,i1,i2⟩:=three_cells R3.out;have n6:Nonempty (SixW (w.heap.size+1+1) (w.heap.size+1+1+1) (.slice t1.a0 n1 t1.c0) (.slice t1.a1 a1 t1.c1) (.slice t1.a2 b1 t1.c2) (.slice t2.a0 n2 t2.c0) (.slice t2.a1 a2 t2.c1) (.slice t2.a2 b2 t2.c2)):=⟨⟨w5,j0,j1,j2,i0,i1,i2⟩⟩;have q0:∀ p:SixW (w.heap.size+1+1) (w.heap.size+1+1+1) (.slice t1.a0 n1 t1.c0) (.slice t1.a1 a1 t1.c1) (.slice t1.a2 b1 t1.c2) (.slice t2.a0 n2 t2.c0) (.slice t2.a1 a2 t2.c1) (.slice t2.a2 b2 t2.c2),p.w.cell? ⟨w.heap.size+1+1,0,none⟩=some (.slice t1.a0 n1 t1.c0):=fun p=>p.a0
 have q1:∀ p:SixW (w.heap.size+1+1) (w.heap.size+1+1+1) (.slice t1.a0 n1 t1.c0) (.slice t1.a1 a1 t1.c1) (.slice t1.a2 b1 t1.c2) (.slice t2.a0 n2 t2.c0) (.slice t2.a1 a2 t2.c1) (.slice t2.a2 b2 t2.c2),p.w.cell? ⟨w.heap.size+1+1,1,none⟩=some (.slice t1.a1 a1 t1.c1):=fun p=>p.a1
 have q2:∀ p:SixW (w.heap.size+1+1) (w.heap.size+1+1+1) (.slice t1.a0 n1 t1.c0) (.slice t1.a1 a1 t1.c1) (.slice t1.a2 b1 t1.c2) (.slice t2.a0 n2 t2.c0) (.slice t2.a1 a2 t2.c1) (.slice t2.a2 b2 t2.c2),p.w.cell? ⟨w.heap.size+1+1,2,none⟩=some (.slice t1.a2 b1 t1.c2):=fun p=>p.a2
 have q3:∀ p:SixW (w.heap.size+1+1) (w.heap.size+1+1+1) (.slice t1.a0 n1 t1.c0) (.slice t1.a1 a1 t1.c1) (.slice t1.a2 b1 t1.c2) (.slice t2.a0 n2 t2.c0) (.slice t2.a1 a2 t2.c1) (.slice t2.a2 b2 t2.c2),p.w.cell? ⟨w.heap.size+1+1+1,0,none⟩=some (.slice t2.a0 n2 t2.c0):=fun p=>p.b0
 have q4:∀ p:SixW (w.heap.size+1+1) (w.heap.size+1+1+1) (.slice t1.a0 n1 t1.c0) (.slice t1.a1 a1 t1.c1) (.slice t1.a2 b1 t1.c2) (.slice t2.a0 n2 t2.c0) (.slice t2.a1 a2 t2.c1) (.slice t2.a2 b2 t2.c2),p.w.cell? ⟨w.heap.size+1+1+1,1,none⟩=some (.slice t2.a1 a2 t2.c1):=fun p=>p.b1
 have q5:∀ p:SixW (w.heap.size+1+1) (w.heap.size+1+1+1) (.slice t1.a0 n1 t1.c0) (.slice t1.a1 a1 t1.c1) (.slice t1.a2 b1 t1.c2) (.slice t2.a0 n2 t2.c0) (.slice t2.a1 a2 t2.c1) (.slice t2.a2 b2 t2.c2),p.w.cell? ⟨w.heap.size+1+1+1,2,none⟩=some (.slice t2.a2 b2 t2.c2):=fun p=>p.b2
 obtain⟨wd,hwd⟩:∃ wd:World,{ heap:=w5.heap,tape:=w5.tape,drawn:=w5.drawn+1,os:=w5.os,output:=w5.output }=wd:=⟨_,rfl⟩;have J:Hid (Below w5.heap.size w5 wd):=by rw[← hwd];exact⟨rfl,rfl,rfl,Nat.le_refl _,fun _ _=>rfl⟩
 have S2:=hk_ R2 J.out;have S3:=hk_ R3 J.out;have HW:=hd_ hwd;have J3:Hid (Below wd.heap.size wd (wd.setRow (w.heap.size+1+1) #[.slice t1.a0 n1 t1.c0,.slice t1.a1 a1 t1.c1,.slice t1.a2 b1 t1.c2])):=below_same S2.out;have S22:=hk_ S2 J3.out;have S23:=hk_ S3 J3.out;have J4:Hid (Below (wd.setRow (w.heap.size+1+1) #[.slice t1.a0 n1 t1.c0,.slice t1.a1 a1 t1.c1,.slice t1.a2 b1 t1.c2]).heap.size (wd.setRow (w.heap.size+1+1) #[.slice t1.a0 n1 t1.c0,.slice t1.a1 a1 t1.c1,.slice t1.a2 b1 t1.c2]) ((wd.setRow (w.heap.size+1+1) #[.slice t1.a0 n1 t1.c0,.slice t1.a1 a1 t1.c1,.slice t1.a2 b1 t1.c2]).setRow (w.heap.size+1+1+1) #[.slice t2.a0 n2 t2.c0,.slice t2.a1 a2 t2.c1,.slice t2.a2 b2 t2.c2])):=below_same S23.out;have S32:=hk_ S22 J4.out;have S33:=hk_ S23 J4.out;have J5:Hid (Below w5.heap.size w5 ((wd.setRow (w.heap.size+1+1) #[.slice t1.a0 n1 t1.c0,.slice t1.a1 a1 t1.c1,.slice t1.a2 b1 t1.c2]).setRow (w.heap.size+1+1+1) #[.slice t2.a0 n2 t2.c0,.slice t2.a1 a2 t2.c1,.slice t2.a2 b2 t2.c2])):=(bu_ J J3.out).trans (J4.out.mono (Nat.le_trans J.out.size J3.out.size));clear j0 j1 j2 i0 i1 i2 hwd;rcases hc1 with rfl|rfl
 ·rcases hc2 with rfl | rfl
  ·refine RW.wp_region_readers 9 [(1,0),(1,1),(2,2),(2,3),(2,4),(2,5),(2,6),(2,7),(0,8),(0,9),(0,10)] (fun w'=>∃ p:SixW (w.heap.size+1+1) (w.heap.size+1+1+1) (.slice t1.a0 n1 t1.c0) (.slice t1.a1 a1 t1.c1) (.slice t1.a2 b1 t1.c2) (.slice t2.a0 n2 t2.c0) (.slice t2.a1 a2 t2.c1) (.slice t2.a2 b2 t2.c2),w'=p.w) (by kernel_rfl) (by kernel_rfl) ?_ ?_
   ·obtain⟨e0,e1,e2⟩:=three_cells S2.out;obtain⟨e3,e4,e5⟩:=three_cells S3.out;exact⟨⟨_,e0,e1,e2,e3,e4,e5⟩,HW.out⟩
   iterate 8 ((first | refine RW.walkR_any ?_ | refine RW.walkR_read ?_);simp only[dsc_,dz_,tsc_,tz_];go_big_quiet_step (fail);refine wq_ ?_)
   clear n6 q0 q1 q2 q3 q4 q5;rw[HW.out];refine wm_ rfl ?_
   go_wp2_with (refine wpList_store_row rfl 32 (.tmp 4) (.tmp 21) rfl (w.heap.size+1+1) _ rfl rfl 32 _ S2.out (by kernel_rfl) rfl (by simp[Value.oneCell']) ?_)
   obtain⟨e0,e1,e2⟩:=three_cells S22.out;obtain⟨e3,e4,e5⟩:=three_cells S23.out;refine⟨⟨⟨_,e0,e1,e2,e3,e4,e5⟩,rfl⟩,?_⟩;clear e0 e1 e2 e3 e4 e5;refine wm_ rfl ?_
   go_wp2_with (refine wpList_store_row rfl 32 (.tmp 5) (.tmp 22) rfl (w.heap.size+1+1+1) _ rfl rfl 32 _ S23.out (by kernel_rfl) rfl (by simp[Value.oneCell']) ?_)
   refine wm_ rfl ?_;go_wp2_with fail;simp only[RW.walkR];go_wp2_with fail;refine bodyPost_ret (results_cct rfl _ _ (w.heap.size+1+1) (w.heap.size+1+1+1) 32 _ _ (0,0) _ rfl S32.out rfl S33.out Tryz.underlying32 rfl (by kernel_rfl) (by kernel_rfl)) rfl ⟨E4.out.trans (J5.out.mono E4.out.size),t1,n1,a1,b1,t2,n2,a2,b2,false,rfl,fun hz=>?_⟩;cases hz
  ·refine RW.wp_region_readers 9 [(1,0),(1,1),(2,2),(2,3),(2,4),(2,5),(2,6),(2,7),(0,8),(0,9),(0,10)] (fun w'=>∃ p:SixW (w.heap.size+1+1) (w.heap.size+1+1+1) (.slice t1.a0 n1 t1.c0) (.slice t1.a1 a1 t1.c1) (.slice t1.a2 b1 t1.c2) (.slice t2.a0 n2 t2.c0) (.slice t2.a1 a2 t2.c1) (.slice t2.a2 b2 t2.c2),w'=p.w) (by kernel_rfl) (by kernel_rfl) ?_ ?_
   ·obtain⟨e0,e1,e2⟩:=three_cells S2.out;obtain⟨e3,e4,e5⟩:=three_cells S3.out;exact⟨⟨_,e0,e1,e2,e3,e4,e5⟩,HW.out⟩
   iterate 8 ((first | refine RW.walkR_any ?_ | refine RW.walkR_read ?_);simp only[dsc_,dz_,tsc_,tz_];go_big_quiet_step (fail);refine wq_ ?_)
   clear n6 q0 q1 q2 q3 q4 q5;rw[HW.out];refine wm_ rfl ?_
   go_wp2_with (refine wpList_store_row rfl 32 (.tmp 4) (.tmp 21) rfl (w.heap.size+1+1) _ rfl rfl 32 _ S2.out (by kernel_rfl) rfl (by simp[Value.oneCell']) ?_)
   obtain⟨e0,e1,e2⟩:=three_cells S22.out;obtain⟨e3,e4,e5⟩:=three_cells S23.out;refine⟨⟨⟨_,e0,e1,e2,e3,e4,e5⟩,rfl⟩,?_⟩;clear e0 e1 e2 e3 e4 e5;refine wm_ rfl ?_
   go_wp2_with (refine wpList_store_row rfl 32 (.tmp 5) (.tmp 22) rfl (w.heap.size+1+1+1) _ rfl rfl 32 _ S23.out (by kernel_rfl) rfl (by simp[Value.oneCell']) ?_)
   refine wm_ rfl ?_;go_wp2_with fail;simp only[RW.walkR];go_wp2_with fail;refine bodyPost_ret (results_cct rfl _ _ (w.heap.size+1+1) (w.heap.size+1+1+1) 32 _ _ (0,0) _ rfl S32.out rfl S33.out Tryz.underlying32 rfl (by kernel_rfl) (by kernel_rfl)) rfl ⟨E4.out.trans (J5.out.mono E4.out.size),t1,n1,a1,b1,t2,n2,a2,b2,false,rfl,fun hz=>?_⟩;cases hz
 ·rcases hc2 with rfl | rfl
  ·refine RW.wp_region_readers 9 [(1,0),(1,1),(2,2),(2,3),(2,4),(2,5),(2,6),(2,7),(0,8),(0,9),(0,10)] (fun w'=>∃ p:SixW (w.heap.size+1+1) (w.heap.size+1+1+1) (.slice t1.a0 n1 t1.c0) (.slice t1.a1 a1 t1.c1) (.slice t1.a2 b1 t1.c2) (.slice t2.a0 n2 t2.c0) (.slice t2.a1 a2 t2.c1) (.slice t2.a2 b2 t2.c2),w'=p.w) (by kernel_rfl) (by kernel_rfl) ?_ ?_
   ·obtain⟨e0,e1,e2⟩:=three_cells S2.out;obtain⟨e3,e4,e5⟩:=three_cells S3.out;exact⟨⟨_,e0,e1,e2,e3,e4,e5⟩,HW.out⟩
   iterate 8 ((first | refine RW.walkR_any ?_ | refine RW.walkR_read ?_);simp only[dsc_,dz_,tsc_,tz_];go_big_quiet_step (fail);refine wq_ ?_)
   clear n6 q0 q1 q2 q3 q4 q5;rw[HW.out];refine wm_ rfl ?_
   go_wp2_with (refine wpList_store_row rfl 32 (.tmp 4) (.tmp 21) rfl (w.heap.size+1+1) _ rfl rfl 32 _ S2.out (by kernel_rfl) rfl (by simp[Value.oneCell']) ?_)
   obtain⟨e0,e1,e2⟩:=three_cells S22.out;obtain⟨e3,e4,e5⟩:=three_cells S23.out;refine⟨⟨⟨_,e0,e1,e2,e3,e4,e5⟩,rfl⟩,?_⟩;clear e0 e1 e2 e3 e4 e5;refine wm_ rfl ?_
   go_wp2_with (refine wpList_store_row rfl 32 (.tmp 5) (.tmp 22) rfl (w.heap.size+1+1+1) _ rfl rfl 32 _ S23.out (by kernel_rfl) rfl (by simp[Value.oneCell']) ?_)
   refine wm_ rfl ?_;go_wp2_with fail;simp only[RW.walkR];go_wp2_with fail;refine bodyPost_ret (results_cct rfl _ _ (w.heap.size+1+1) (w.heap.size+1+1+1) 32 _ _ (0,0) _ rfl S32.out rfl S33.out Tryz.underlying32 rfl (by kernel_rfl) (by kernel_rfl)) rfl ⟨E4.out.trans (J5.out.mono E4.out.size),t1,n1,a1,b1,t2,n2,a2,b2,false,rfl,fun hz=>?_⟩;cases hz
  ·refine RW.wp_region_readers 9 [(1,0),(1,1),(2,2),(2,3),(2,4),(2,5),(2,6),(2,7),(0,8),(0,9),(0,10)] (fun w'=>∃ p:SixW (w.heap.size+1+1) (w.heap.size+1+1+1) (.slice t1.a0 n1 t1.c0) (.slice t1.a1 a1 t1.c1) (.slice t1.a2 b1 t1.c2) (.slice t2.a0 n2 t2.c0) (.slice t2.a1 a2 t2.c1) (.slice t2.a2 b2 t2.c2),w'=p.w) (by kernel_rfl) (by kernel_rfl) ?_ ?_
   ·obtain⟨e0,e1,e2⟩:=three_cells S2.out;obtain⟨e3,e4,e5⟩:=three_cells S3.out;exact⟨⟨_,e0,e1,e2,e3,e4,e5⟩,HW.out⟩
   iterate 8 ((first | refine RW.walkR_any ?_ | refine RW.walkR_read ?_);simp only[dsc_,dz_,tsc_,tz_];go_big_quiet_step (fail);refine wq_ ?_)
   clear n6 q0 q1 q2 q3 q4 q5;rw[HW.out];refine wm_ rfl ?_
   go_wp2_with (refine wpList_store_row rfl 32 (.tmp 4) (.tmp 21) rfl (w.heap.size+1+1) _ rfl rfl 32 _ S2.out (by kernel_rfl) rfl (by simp[Value.oneCell']) ?_)
   obtain⟨e0,e1,e2⟩:=three_cells S22.out;obtain⟨e3,e4,e5⟩:=three_cells S23.out;refine⟨⟨⟨_,e0,e1,e2,e3,e4,e5⟩,rfl⟩,?_⟩;clear e0 e1 e2 e3 e4 e5;refine wm_ rfl ?_
   go_wp2_with (refine wpList_store_row rfl 32 (.tmp 5) (.tmp 22) rfl (w.heap.size+1+1+1) _ rfl rfl 32 _ S23.out (by kernel_rfl) rfl (by simp[Value.oneCell']) ?_)
   refine wm_ rfl ?_;go_wp2_with fail;simp only[RW.walkR];go_wp2_with fail;refine bodyPost_ret (results_cct rfl _ _ (w.heap.size+1+1) (w.heap.size+1+1+1) 32 _ _ (0,0) _ rfl S32.out rfl S33.out Tryz.underlying32 rfl (by kernel_rfl) (by kernel_rfl)) rfl ⟨E4.out.trans (J5.out.mono E4.out.size),t1,n1,a1,b1,t2,n2,a2,b2,true,rfl,fun hz=>?_⟩;rcases Y1.out with h|⟨_,E,F,e1,e2,e3,e4,e5,e6⟩
   ·simp at h
   ·rcases Y2.out with h | ⟨_,E',F',f1,f2,f3,f4,f5,f6⟩
    ·simp at h
    ·exact⟨E,F,E',F',e1,e2,e3,f1,f2,f3,e4,f4,e5.below J5.out nr_,f5.below J5.out nr_,e6,f6⟩
theorem Same18_any(w:World)(s t:TLoc)(ps qs:List Int)(C M D N:List (List Int))(hs:TemT w s ps C M)(ht:TemT w t qs D N)(F:FewM ps C M):
  Gives Tryz.prog 10 #[tmV s ps.length C.length M.length,tmV t qs.length D.length N.length] w (.bool (samB ps qs C M D N)):=by
 unfold Gives;have H1:=hd_ (fun W (hW:Below w.heap.size w W)=>same18_any W s t ps qs C M D N (hs.below hW nr_) (ht.below hW nr_) F);clear hs ht F;unfold tmV temV at H1 ⊢;generalize samB ps qs C M D N=z at *;generalize ps.length=n at *;generalize qs.length=n' at *;generalize C.length=m1 at *;generalize M.length=m2 at *;generalize D.length=k1 at *;generalize N.length=k2 at *;generalize s.a0=sa0 at *;generalize s.a1=sa1 at *;generalize s.a2=sa2 at *;generalize s.c0=sc0 at *;generalize s.c1=sc1 at *;generalize s.c2=sc2 at *;generalize t.a0=ta0 at *;generalize t.a1=ta1 at *;generalize t.a2=ta2 at *;generalize t.c0=tc0 at *;generalize t.c1=tc1 at *;generalize t.c2=tc2 at *;obtain⟨w1,hw1⟩:∃ w1,((w.alloc (.cells #[.slice sa0 n sc0,.slice sa1 m1 sc1,.slice sa2 m2 sc2] 32)).alloc (.cells #[.slice ta0 n' tc0,.slice ta1 k1 tc1,.slice ta2 k2 tc2] 32))=w1:=⟨_,rfl⟩;have K0:w1.heap[w.heap.size]?=some (.cells #[.slice sa0 n sc0,.slice sa1 m1 sc1,.slice sa2 m2 sc2] 32 (0,0)):=by rw[← hw1];exact heap_old (heap_at w _ _ _ rfl) _
 have K1:w1.heap[w.heap.size+1]?=some (.cells #[.slice ta0 n' tc0,.slice ta1 k1 tc1,.slice ta2 k2 tc2] 32 (0,0)):=by rw[← hw1];exact heap_at _ _ _ _ (by simp)
 have B0:Hid (Below w.heap.size w w1):=by rw[← hw1];exact((Below.refl _ w).alloc nr_ _).alloc (by simp) _
 obtain⟨j0,j1,j2⟩:=three_cells K0;obtain⟨i0,i1,i2⟩:=three_cells K1;rw[← hw1] at j0 j1 j2 i0 i1 i2;have Hw1:=hd_ hw1;clear K0 K1 hw1;go_enter Tryz.func10,Tryz.ntmps10;go_wp2_with fail;rw[Hw1.out];clear j0 j1 j2 i0 i1 i2 Hw1;refine cm_ (H1.out w1 B0.out) ?_;rintro e w2 ⟨rfl,hb⟩;have B2:=bt_ B0 hb;clear hb H1 B0;go_wp2_with fail;go_ret;exact⟨rfl,B2.out⟩
theorem PlnR.ann{n:Nat}{R:List (List Int)}(h:PlnR n R)(Bs:List (List Int))(b1:IsHnf Bs)(_b2:Rect n Bs)(b3:∀ y,Sp (vfs Bs) y↔Perp n (Sp (vfs R)) y):∀ i,i<Bs.length→∀ j,(ent Bs i j).natAbs≤1000000000 :=
 plan_ann h.n4 h.s b1 b3
def MkE (w w':World) (ps:List Int) (e:Ending):Prop :=
 Below w.heap.size w w'∧∃ C M s,e = .returned (.tuple #[tmV s ps.length C.length M.length,.int .i64 0])∧TemOk ps.length C M∧TemT w' s ps C M
theorem build18_any(w:World)(a0 a:Option Addr)(c0 c:Nat)(v:Bool)(ps:List Int)(R:List (List Int))(hp:Rd w a0 (ints ps))(P:PsR ps)(hr:RdM w a R)(H:PlnR ps.length R)(L:Laid w):
  Calls Tryz.prog 30 #[.slice a0 ps.length c0,.slice a R.length c,.bool v] w fun e w'=>MkE w w' ps e:=by
 obtain⟨hp0,hp6⟩:=P.len;have hl:=H.l;have HP:=hd_ (fun W (hW:Below w.heap.size w W)=>primeCheck_any W a0 c0 ps (hp.below hW nr_) P.i (by omega));rw[P.c] at HP;have HOf:=hd_ (fun W (hW:Below w.heap.size w W)=>Calls.mono (latof_any W a c ps.length R (hr.below hW nr_) (by omega) (fun r hr=>by have:=H.r r hr;omega) hp0 (L.below hW)) (R':=fun e w'=>LatK W w' ps.length (Sp (vfs R)) e) (fun e w' h=>(of_lat h H.code).k H.of));have HS:=hd_ (fun W (hW:Below w.heap.size w W) a c Bs (hB:RdM W a Bs) (RB:LatR ps.length Bs) (hc:Bs.length≤c) (q3:∀ y,Sp (vfs Bs) y↔Sp (vfs R) y)=>Calls.mono (sat_any W a c ps.length Bs hB RB hc hp0 hp6 (L.below hW)) (R':=fun e w'=>LatK W w' ps.length (Perp ps.length (Perp ps.length (Sp (vfs Bs)))) e) (fun e w' h=>h.k fun Ss b1 b2 b3=>H.sat RB.h RB.r q3 Ss b1 b2 fun y=>(b3 y).trans (perp_congr (perp_congr q3) y)));have HA:=hd_ (fun W (hW:Below w.heap.size w W) a c Bs (hB:RdM W a Bs) (RB:LatR ps.length Bs) (hc:Bs.length≤c) (q3:∀ y,Sp (vfs Bs) y↔Sp (vfs R) y)=>Calls.mono (ann_any W a c ps.length Bs hB RB hc hp0 hp6 (L.below hW)) (R':=fun e w'=>LatK W w' ps.length (Perp ps.length (Sp (vfs Bs))) e) (fun e w' h=>h.k fun Ss b1 b2 b3=>H.ann Ss b1 b2 fun y=>(b3 y).trans (perp_congr q3 y)));have HT:=hd_ (fun Bs S A (RB:LatR ps.length Bs)=>@fr_tem ps.length Bs S A RB.r);have HRp:=hd_ hp;have hp0':=hd_ hp0;clear hp P hr H L hp6 hl hp0;unfold LatK latV at HOf HS HA;unfold MkE;obtain⟨n,hn⟩:∃ n,ps.length=n:=⟨_,rfl⟩;have HN:=hd_ hn;rw[hn] at HP HOf HS HA HT hp0' ⊢;clear hn;have K0:=hd_ (heap_at w #[.slice none 0 0,.slice none 0 0,.slice none 0 0] 32 _ rfl);have B0:=hd_ ((Below.refl w.heap.size w).alloc nr_ (.cells #[.slice none 0 0,.slice none 0 0,.slice none 0 0] 32));go_enter Tryz.func30,Tryz.ntmps30;go_wp2_with fail;generalize w.alloc (.cells #[.slice none 0 0,.slice none 0 0,.slice none 0 0] 32)=w0 at *;refine Calls.mono (HP.out w0 B0.out) ?_;rintro e w1 ⟨rfl,hb⟩;have K1:=hk_ K0 hb;have B1:=bt_ B0 hb;clear hb HP K0 B0;go_wp2_with fail;refine Calls.mono (HOf.out w1 B1.out) ?_;rintro e w2 ⟨hb,Bs,a2,c2,K2b,rfl,RB,q3,hbl2⟩;have hr2:=hbl2.rdm rfl RB.r;have hc2:=hbl2.capt;have K2:=hd_ (heap_old (hj_ K1 hb) (.cells #[.int .i64 n,.slice a2 Bs.length c2] 67));have J2:=hd_ (heap_at w2 #[.int .i64 n,.slice a2 Bs.length c2] 67 _ rfl);have D2:=bt_ B1 hb;have B2:=hd_ (D2.out.alloc D2.out.size (.cells #[.int .i64 n,.slice a2 Bs.length c2] 67));have R2:=hd_ (hr2.below ((Below.refl _ w2).alloc nr_ (.cells #[.int .i64 n,.slice a2 Bs.length c2] 67)) nr_);have RB2:=hd_ RB;have Q3:=hd_ q3;have C2:=hd_ hc2;clear hb HOf RB q3 hr2 hc2 hbl2 D2 B1 K1;obtain⟨j0,j1,-,-⟩:=obj_two J2.out;go_wp2_with fail;generalize w2.alloc (.cells #[.int .i64 n,.slice a2 Bs.length c2] 67)=w3 at *;refine Calls.mono (HS.out w3 B2.out a2 c2 Bs R2.out RB2.out C2.out Q3.out) ?_;rintro e w4 ⟨hb,Ss,a4,c4,K4b,rfl,RS,s3,hbl4⟩;have hr4:=hbl4.rdm rfl RS.r;have hc4:=hbl4.capt;have T44:=hd_ hr4;have Vw:Hid (w.heap.size<w4.heap.size):=(Array.getElem?_eq_some_iff.1 (hj_ K2 hb)).1;have hba:Below w4.heap.size w4 (w4.alloc (.cells #[.int .i64 n,.slice a4 Ss.length c4] 67)):=(Below.refl _ w4).alloc nr_ _;have K4:=hd_ (heap_old (hj_ K2 hb) (.cells #[.int .i64 n,.slice a4 Ss.length c4] 67));have J4:=hd_ (heap_old (hj_ J2 hb) (.cells #[.int .i64 n,.slice a4 Ss.length c4] 67));have I4:=hd_ (heap_at w4 #[.int .i64 n,.slice a4 Ss.length c4] 67 _ rfl);have D4:=bt_ B2 hb;have B4:=hd_ (D4.out.alloc D4.out.size (.cells #[.int .i64 n,.slice a4 Ss.length c4] 67));have R4:=hd_ ((R2.out.below hb nr_).below hba nr_);have T4:=hd_ (hr4.below hba nr_);have RS4:=hd_ RS;have S3:=hd_ s3;have C4:=hd_ hc4;clear hb HS RS s3 hr4 hc4 hbl4 D4 B2 K2 J2 R2 hba j0 j1;obtain⟨j0,j1,-,-⟩:=obj_two J4.out;have V5:Hid (w4.heap.size<(w4.alloc (.cells #[.int .i64 n,.slice a4 Ss.length c4] 67)).heap.size):=by show _<_;rw[World.size_alloc];omega
 have F5:Hid (Below w4.heap.size w4 (w4.alloc (.cells #[.int .i64 n,.slice a4 Ss.length c4] 67))):=(Below.refl _ w4).alloc nr_ _;go_wp2_with fail;generalize w4.alloc (.cells #[.int .i64 n,.slice a4 Ss.length c4] 67)=w5 at *;refine cm_ (HA.out w5 B4.out a2 c2 Bs R4.out RB2.out C2.out Q3.out) ?_;rintro e w6 ⟨hb,As,a6,c6,K6b,rfl,RA,t3,hbl6⟩;have hr6:=hbl6.rdm rfl RA.r;have hc6:=hbl6.capt;have HB6:=hd_ hbl6;have F6:=hd_ hb;have hba:Below w6.heap.size w6 (w6.alloc (.cells #[.int .i64 n,.slice a6 As.length c6] 67)):=(Below.refl _ w6).alloc nr_ _;have K6:=hd_ (heap_old (hj_ K4 hb) (.cells #[.int .i64 n,.slice a6 As.length c6] 67));have I6:=hd_ (heap_old (hj_ I4 hb) (.cells #[.int .i64 n,.slice a6 As.length c6] 67));have H6:=hd_ (heap_at w6 #[.int .i64 n,.slice a6 As.length c6] 67 _ rfl);have D6:=bt_ B4 hb;have B6:=hd_ (D6.out.alloc D6.out.size (.cells #[.int .i64 n,.slice a6 As.length c6] 67));have T6:=hd_ ((T4.out.below hb nr_).below hba nr_);have U6:=hd_ (hr6.below hba nr_);have TT:=hd_ (HT.out Bs Ss As RB2.out RS4.out RA S3.out t3);have C6:=hd_ hc6;have F7:=hd_ hba;have F47:Hid (Below w4.heap.size w4 (w6.alloc (.cells #[.int .i64 n,.slice a6 As.length c6] 67))):=(bu_ F5 hb).trans (hba.mono (Nat.le_trans F5.out.size hb.size));have hw4:=(Array.getElem?_eq_some_iff.1 K6.out).1;have Hne:Hid (w.heap.size<w4.heap.size∧w4.heap.size<w6.heap.size):=⟨Vw.out,by have:=V5.out;have:=hb.size;omega⟩;obtain⟨i0,i1,-,-⟩:=obj_two I6.out;obtain⟨g0,g1,-,-⟩:=obj_two H6.out;have PR:=hd_ (HRp.out.below B6.out nr_);clear hb HA RA t3 hr6 hc6 hbl6 D6 B4 K4 J4 I4 R4 T4 hba j0 j1 HT hw4;cases v with
 | false =>
  have TM:=hd_ ((show TemT _ ⟨a0,c0,a4,c4,a6,c6⟩ ps Ss As from ⟨PR.out,T6.out,U6.out,C4.out,C6.out⟩).setRow (cs' := #[.slice a0 n c0,.slice a4 Ss.length c4,.slice a6 As.length c6]) (by rw[HN.out];exact TT.out.1) (by rw[HN.out];exact hp0'.out) K6.out nils3);clear T44 HB6 F6 F7 F47 V5 F5
  go_wp2_with (refine wpList_store_row rfl 32 (.tmp 6) (.tmp 56) rfl w.heap.size _ rfl rfl 32 _ K6.out (by kernel_rfl) rfl (by simp[Value.oneCell']) ?_)
  exact bodyPost_ret (results_ct rfl _ _ w.heap.size 32 _ (0,0) _ rfl (setRow_heap _ _ _ _ _ _ K6.out) Tryz.underlying32 rfl (by kernel_rfl)) rfl ⟨below_setRow B6.out nr_ _,Ss,As,⟨a0,c0,a4,c4,a6,c6⟩,rfl,TT.out.1,TM.out⟩
 | true =>
  have U66:=hd_ ((HB6.out.setR V5.out #[.int .i64 n,.slice a6 As.length c6]).rdm rfl TT.out.2.rc);have BB:=hd_ B6.out;obtain⟨w7,hw7⟩:∃ w7,w6.alloc (.cells #[.int .i64 n,.slice a6 As.length c6] 67)=w7:=⟨_,rfl⟩;rw[hw7] at I6 H6 K6 F7 F47 BB i0 i1 g0 g1;have I7:Hid ((w7.setRow w4.heap.size #[.int .i64 n,.slice a6 As.length c6]).heap[w4.heap.size]?=some (.cells #[.int .i64 n,.slice a6 As.length c6] 67 (0,0))):=setRow_heap _ _ _ _ _ _ I6.out;have H7:Hid ((w7.setRow w4.heap.size #[.int .i64 n,.slice a6 As.length c6]).heap[w6.heap.size]?=some (.cells #[.int .i64 n,.slice a6 As.length c6] 67 (0,0))):=(setRow_other w7 _ _ _ (by have:=Hne.out;omega)).trans H6.out;have K7:Hid ((w7.setRow w4.heap.size #[.int .i64 n,.slice a6 As.length c6]).heap[w.heap.size]?=some (.cells #[.slice none 0 0,.slice none 0 0,.slice none 0 0] 32 (0,0))):=(setRow_other w7 _ _ _ (by have:=Hne.out;omega)).trans K6.out;have I8:Hid (((w7.setRow w4.heap.size #[.int .i64 n,.slice a6 As.length c6]).setRow w6.heap.size #[.int .i64 n,.slice a4 Ss.length c4]).heap[w4.heap.size]?=some (.cells #[.int .i64 n,.slice a6 As.length c6] 67 (0,0))):=(setRow_other _ _ _ _ (by have:=Hne.out;omega)).trans I7.out;have H8:Hid (((w7.setRow w4.heap.size #[.int .i64 n,.slice a6 As.length c6]).setRow w6.heap.size #[.int .i64 n,.slice a4 Ss.length c4]).heap[w6.heap.size]?=some (.cells #[.int .i64 n,.slice a4 Ss.length c4] 67 (0,0))):=setRow_heap _ _ _ _ _ _ H7.out;have K8:Hid (((w7.setRow w4.heap.size #[.int .i64 n,.slice a6 As.length c6]).setRow w6.heap.size #[.int .i64 n,.slice a4 Ss.length c4]).heap[w.heap.size]?=some (.cells #[.slice none 0 0,.slice none 0 0,.slice none 0 0] 32 (0,0))):=(setRow_other _ _ _ _ (by have:=Hne.out;omega)).trans K7.out;have E8:Hid (Below w.heap.size w ((w7.setRow w4.heap.size #[.int .i64 n,.slice a6 As.length c6]).setRow w6.heap.size #[.int .i64 n,.slice a4 Ss.length c4])):=below_setRow (below_setRow BB.out (Nat.le_of_lt Hne.out.1) _) (by have:=Hne.out;omega) _;have E48:Hid (Below w4.heap.size w4 ((w7.setRow w4.heap.size #[.int .i64 n,.slice a6 As.length c6]).setRow w6.heap.size #[.int .i64 n,.slice a4 Ss.length c4])):=below_setRow (below_setRow F47.out nr_ _) (by have:=Hne.out;omega) _;have hI6:w6.heap[w4.heap.size]?=some (.cells #[.int .i64 n,.slice a4 Ss.length c4] 67 (0,0)):=(F7.out.block _ (by have:=Hne.out;omega)).symm.trans I6.out;have E68:Hid (Below (w6.setRow w4.heap.size #[.int .i64 n,.slice a6 As.length c6]).heap.size (w6.setRow w4.heap.size #[.int .i64 n,.slice a6 As.length c6]) ((w7.setRow w4.heap.size #[.int .i64 n,.slice a6 As.length c6]).setRow w6.heap.size #[.int .i64 n,.slice a4 Ss.length c4])):=by
   refine⟨F7.out.os,F7.out.tape,F7.out.output,by simpa using F7.out.size,fun i hi=>?_⟩;have hi2:i<w6.heap.size:=by simpa using hi
   by_cases e:i=w4.heap.size
   ·subst e;rw[I8.out,setRow_heap _ _ _ _ _ _ hI6]
   ·rw[setRow_other _ _ _ _ (by omega),setRow_other w7 _ _ _ e,setRow_other w6 _ _ _ e];exact F7.out.block i hi2
  have TM:=hd_ ((show TemT _ ⟨a0,c0,a6,c6,a4,c4⟩ ps As Ss from ⟨HRp.out.below E8.out nr_,U66.out.below E68.out nr_,T44.out.below E48.out nr_,C6.out,C4.out⟩).setRow (cs' := #[.slice a0 n c0,.slice a6 As.length c6,.slice a4 Ss.length c4]) (by rw[HN.out];exact TT.out.2) (by rw[HN.out];exact hp0'.out) K8.out nils3);obtain⟨l0,l1,-,-⟩:=obj_two I8.out;obtain⟨l2,l3,-,-⟩:=obj_two H8.out;clear T44 HB6 F6 F7 F47 V5 F5 U66 hI6 E48 E68 T6 U6 PR BB B6
  go_wp2_with (first | (refine wpList_store_row rfl 67 (.tmp 11) (.tmp 49) rfl w4.heap.size _ rfl rfl 67 _ I6.out (by kernel_rfl) rfl (by simp[Value.oneCell']) ?_) | (refine wpList_store_row rfl 67 (.tmp 12) (.tmp 50) rfl w6.heap.size _ rfl rfl 67 _ H7.out (by kernel_rfl) rfl (by simp[Value.oneCell']) ?_) | (refine wpList_store_row rfl 32 (.tmp 6) (.tmp 56) rfl w.heap.size _ rfl rfl 32 _ K8.out (by kernel_rfl) rfl (by simp[Value.oneCell']) ?_))
  exact bodyPost_ret (results_ct rfl _ _ w.heap.size 32 _ (0,0) _ rfl (setRow_heap _ _ _ _ _ _ K8.out) Tryz.underlying32 rfl (by kernel_rfl)) rfl ⟨below_setRow E8.out nr_ _,As,Ss,⟨a0,c0,a6,c6,a4,c4⟩,rfl,TT.out.2,TM.out⟩
theorem primes12_any(w:World)(n:Nat)(hn:n<256):
  Calls Tryz.prog 28 #[.int .u8 n] w fun e w'=>∃ g,e = .returned (.slice (some ⟨g,0,none⟩) (plL (n%10)).length (plL (n%10)).length)∧Rd w' (some ⟨g,0,none⟩) (ints (plL (n%10)))∧Below w.heap.size w w':=by
 have htm:Int.tmod (n:Int) 10=((n%10:Nat):Int):=by rw[Int.tmod_eq_emod_of_nonneg (by omega)];omega
 have hk:n%10<10:=Nat.mod_lt _ (by decide);have h1:IntKind.i64.wrap (n:Int)=n:=iw_ _ (by omega);generalize n%10=k at *;clear hn;go_enter Tryz.func28,Tryz.ntmps28;have hk':(0:Int)≤k∧(k:Int)<10:=⟨by omega,by omega⟩;go_wp2_with fail;go_ret;clear hk';have h10:k=0∨k=1∨k=2∨k=3∨k=4∨k=5∨k=6∨k=7∨k=8∨k=9:=by omega
 rcases h10 with rfl|rfl|rfl|rfl|rfl|rfl|rfl|rfl|rfl|rfl
 all_goals
  refine⟨_,rfl,?_,?_⟩
  ·refine rd_ints (t:=3) ?_
   repeat (first | exact heap_at _ _ _ _ (by simp) | refine heap_old ?_ _)
  ·repeat (first | exact Below.refl _ _ | refine Below.alloc ?_ (by simp;try omega) _)
def ivL (n:Nat) (X:Nat→Int):List Int:=(List.range n).map fun j=>Int.tmod (X j) 10
theorem ivL_length(n:Nat)(X:Nat→Int):(ivL n X).length=n:=by simp[ivL]
theorem ivL_succ(n:Nat)(X:Nat→Int):ivL (n+1) X=ivL n X++[Int.tmod (X n) 10]:=by
 unfold ivL;rw[List.range_succ,List.map_append];rfl
theorem ivL_nine(n:Nat)(X:Nat→Int):∀ x∈ivL n X,x.natAbs≤9:=fun x hx=>by
 obtain⟨j,_,rfl⟩:=List.mem_map.1 hx;have:=Int.natAbs_tmod (X j) 10
 have h2:(X j).natAbs%10<10:=Nat.mod_lt _ (by decide);have h3:(10:Int).natAbs=10:=rfl;rw[h3] at this;omega
theorem interval12_any(w:World)(a:Option Addr)(c n:Nat)(X:Nat→Int)(hn:n≤4)(hX:∀ j,j<4 → -128≤X j∧X j≤127):
  Calls Tryz.prog 29 #[.slice a n c,.agg #[.int .i8 (X 0),.int .i8 (X 1),.int .i8 (X 2),.int .i8 (X 3)]] w fun e w'=>∃ a' c',e = .returned (.slice a' n c')∧w'.ownsRow w.heap.size 3 1 (.slice a' n c') n (ints (ivL n X))∧Below w.heap.size w w':=by
 have K0:=hd_ (heap_at w #[.int .i8 (X 0),.int .i8 (X 1),.int .i8 (X 2),.int .i8 (X 3)] 64 _ rfl);have B0:=hd_ ((Below.refl w.heap.size w).alloc nr_ (.cells #[.int .i8 (X 0),.int .i8 (X 1),.int .i8 (X 2),.int .i8 (X 3)] 64));have S0:Hid (w.heap.size<(w.alloc (.cells #[.int .i8 (X 0),.int .i8 (X 1),.int .i8 (X 2),.int .i8 (X 3)] 64)).heap.size):=by show _<_;rw[World.size_alloc];omega
 have HC:Hid (∀ W,Below (w.alloc (.cells #[.int .i8 (X 0),.int .i8 (X 1),.int .i8 (X 2),.int .i8 (X 3)] 64)).heap.size (w.alloc (.cells #[.int .i8 (X 0),.int .i8 (X 1),.int .i8 (X 2),.int .i8 (X 3)] 64)) W→∀ j,j<4→W.cell? ⟨w.heap.size,j,none⟩=some (.int .i8 (X j))):=fun W hW j hj=>by
  obtain⟨c0,c1,c2,c3⟩:=four_lat (hj_ K0 hW);rcases(show j=0∨j=1∨j=2∨j=3 by omega) with rfl|rfl|rfl|rfl<;>assumption
 have HX:=hd_ hX;have HV:=hd_ (fun t=>ivL_succ t X);have H0:Hid (ints (ivL 0 X)=[]):=rfl;clear hX;go_enter Tryz.func29,Tryz.ntmps29;go_wp2_with fail;generalize w.alloc (.cells #[.int .i8 (X 0),.int .i8 (X 1),.int .i8 (X 2),.int .i8 (X 3)] 64)=w0 at *
 go_loopw [5,6] (fun o z wr=>∃ (t:Nat) (a3:Option Addr) (c3:Nat),t≤n∧z = .int .i64 t∧o = .slice a3 t c3∧Hid (wr.ownsRow w0.heap.size 3 1 (.slice a3 t c3) t (ints (ivL t X)))∧Hid (Below w0.heap.size w0 wr)) (fun _ z _=>n-(intOf z).toNat)
 case atStart=>exact⟨0,none,0,Nat.zero_le _,rfl,rfl,by rw[H0.out];exact World.ownsRow_nil _ _ _ _,Below.refl _ _⟩
 case round =>
  obtain⟨t,a3,c3,ht,rfl,rfl,P,D⟩:=hrel
  by_cases hlt:t<n
  ·have hlt':(t:Int)<n:=by omega
   have hltt:decide (t<n)=true:=decide_eq_true hlt;have hl4:(t:Int)<4:=by omega
   have hl4':t<4:=by omega
   have kc:=HC.out wr D.out t hl4';have hx:=HX.out t hl4';have hP:=P.out;have hv:=hd_ (HV.out t);have HI:=hd_ hlt;generalize X t=x at *;have e1:IntKind.i64.wrap x=x:=iw_ _ (by omega);have e2 : -9≤Int.tmod x 10∧Int.tmod x 10≤9:=by
    have:=Int.natAbs_tmod x 10
    have h2:x.natAbs%10<10:=Nat.mod_lt _ (by decide);have h3:(10:Int).natAbs=10:=rfl;rw[h3] at this;omega
   clear hx
   go_wp2_with (at_builtin;refine wpList_append_new rfl (.tmp 17) (.tmp 23) 54 rfl elRow _ 1 [.int .i64 (Int.tmod x 10)] rfl rfl hP D.out.size rfl ?c1 (by omega) (by omega) ?_)
   case c1=>first | rfl | (intro u hu;obtain rfl:=List.mem_singleton.1 hu;rfl)
   intro v' w2 hown2 hg2 _;obtain⟨a4,c4,rfl⟩:=own_form hown2;have B2:Hid (Below w0.heap.size w0 w2):=((D.out.alloc D.out.size _)).grown hg2 (Nat.le_trans D.out.size (by simp)) (fun kk hk=>(P.out.lt kk hk).1);have O2:Hid (w2.ownsRow w0.heap.size 3 1 (.slice a4 (t+1) c4) (t+1) (ints (ivL (t+1) X))):=by
    show World.ownsRow ..
    rw[hv.out,ints_append];exact hown2
   clear hown2 hg2 P D hP kc;go_wp2
   go_roundw
   case rel=>exact⟨t+1,a4,c4,HI.out,by go_num,rfl,O2,B2⟩
   case measure=>simp[intOf];omega
  ·have hltt:decide (t<n)=false:=decide_eq_false hlt;have hlt':¬ (t:Int)<n:=by omega
   obtain rfl:n=t:=by omega
   go_wp2_with fail;go_ret;exact⟨a3,c3,rfl,own_lower P.out (Nat.le_of_lt S0.out),B0.out.trans (D.out.mono (Nat.le_of_lt S0.out))⟩
def plR (n m:Nat) (X:Nat→Nat→Int):List (List Int):=(List.range m).map fun i=>ivL n (X i)
theorem plR_length(n m:Nat)(X:Nat→Nat→Int):(plR n m X).length=m:=by simp[plR]
theorem plR_pln{n m:Nat}(X:Nat→Nat→Int)(h0:0<n)(h4:n≤4)(hm:m≤3):PlnR n (plR n m X) :=
 ⟨h0,h4,by rw[plR_length];exact hm,fun r hr=>by
  obtain⟨i,_,rfl⟩:=List.mem_map.1 hr;exact ivL_length _ _,fun r hr x hx=>by
  obtain⟨i,_,rfl⟩:=List.mem_map.1 hr;exact ivL_nine _ _ x hx⟩
theorem plR_ent(n m:Nat)(X:Nat→Nat→Int)(i:Nat)(hi:i<m)(j:Nat):ent (plR n m X) i j=(ivL n (X i)).getD j 0:=by
 unfold ent plR;rw[List.getD_eq_getElem?_getD (l:=(List.range m).map _),List.getElem?_map,List.getElem?_range hi];rfl
def MakE (w w':World) (ps:List Int) (e:Ending):Prop :=
 Below w.heap.size w w'∧∃ C M s,e = .returned (tmV s ps.length C.length M.length)∧TemOk ps.length C M∧TemT w' s ps C M
theorem make18_any(w:World)(k:Nat)(ra:Option Addr)(m rc:Nat)(v:Bool)(X:Nat→Nat→Int)(hk:k<256)(hm:m≤3)(hM:PlM w ra m X)(hX:∀ i j,-128≤X i j∧X i j≤127)(L:Laid w):
  Calls Tryz.prog 14 #[.agg #[.int .u8 k,.slice ra m rc,.bool v]] w fun e w'=>MakE w w' (plL (k%10)) e:=by
 have hq:=plL_ok (k%10) (Nat.mod_lt _ (by decide));have PP:=hd_ (plL_ps (Nat.mod_lt k (by decide:10 > 0)));have HP:=hd_ (fun W=>primes12_any W k hk);have HI:=hd_ (fun W a c i=>interval12_any W a c (plL (k%10)).length (X i) hq.2.1 (fun j _=>hX i j));have HB:=hd_ (fun W a0 a c0 c (hp:Rd W a0 (ints (plL (k%10)))) (hr:RdM W a (plR (plL (k%10)).length m X)) (hb:Below w.heap.size w W)=>build18_any W a0 a c0 c v (plL (k%10)) (plR (plL (k%10)).length m X) hp PP.out hr (plR_pln X hq.2.2.1 hq.2.1 hm) (L.below hb));have HE:=hd_ (fun i (hi:i<m) j=>(plR_ent (plL (k%10)).length m X i hi j).symm);have HRr:=hd_ (plR_pln X hq.2.2.1 hq.2.1 hm).r;have HRl:=hd_ (plR_length (plL (k%10)).length m X);have Hiv:=hd_ (fun i=>ivL_length (plL (k%10)).length (X i));have Hn0:=hd_ hq.2.2.1;rw[plR_length] at HB;generalize plR (plL (k%10)).length m X=R at *;generalize plL (k%10)=ps at *;have HM:=hd_ hM;clear hq PP hX L hM hk;unfold MkE at HB;unfold MakE;obtain⟨n,hn⟩:∃ n,ps.length=n:=⟨_,rfl⟩;have HN:=hd_ hn;rw[hn] at HP HI HE HRr Hiv Hn0 HB ⊢;clear hn;unfold tmV temV at HB ⊢;have K0:=heap_at w #[.int .u8 k,.slice ra m rc,.bool v] 24 _ rfl;have e1:(w.alloc (.cells #[.int .u8 k,.slice ra m rc,.bool v] 24)).heap.size=w.heap.size+1:=by simp
 have N1:=hd_ (heap_at (w.alloc (.cells #[.int .u8 k,.slice ra m rc,.bool v] 24)) #[.slice none 0 0,.slice none 0 0,.slice none 0 0] 32 _ e1);have N0:=hd_ (heap_old K0 (.cells #[.slice none 0 0,.slice none 0 0,.slice none 0 0] 32));have B0:=hd_ (((Below.refl w.heap.size w).alloc nr_ (.cells #[.int .u8 k,.slice ra m rc,.bool v] 24)).alloc (by rw[e1];omega) (.cells #[.slice none 0 0,.slice none 0 0,.slice none 0 0] 32));have S0:Hid (w.heap.size+2≤((w.alloc (.cells #[.int .u8 k,.slice ra m rc,.bool v] 24)).alloc (.cells #[.slice none 0 0,.slice none 0 0,.slice none 0 0] 32)).heap.size):=by show _≤_;simp
 clear K0 e1;obtain⟨j0,j1,j2⟩:=three_cells N0.out;go_enter Tryz.func14,Tryz.ntmps14;go_wp2_with fail;generalize (w.alloc (.cells #[.int .u8 k,.slice ra m rc,.bool v] 24)).alloc (.cells #[.slice none 0 0,.slice none 0 0,.slice none 0 0] 32)=w0 at *;refine cm_ (HP.out w0) ?_;rintro e wp ⟨g,rfl,hp,hb⟩;have HPp:=hd_ hp;have P0:=hk_ N0 hb;have P1:=hk_ N1 hb;have B1:=bt_ B0 hb;have S1:Hid (w.heap.size+2≤wp.heap.size):=Nat.le_trans S0.out hb.size;have SS:Hid (w.heap.size+2≤wp.heap.size):=S1;clear hp hb N0 N1 B0 S0 HP j0 j1 j2;go_wp2_with fail
 go_loopw [4,5] (fun o z wr=>∃ (t:Nat) (a2:Option Addr) (c2:Nat) (K:Nat→Nat×Nat×Nat),t≤m∧z = .int .i64 t∧o = .slice a2 t c2∧Hid (BldR wr wp.heap.size a2 c2 t n K (ent R))∧Hid (Below w.heap.size w wr)∧Hid (Below wp.heap.size wp wr)) (fun _ z _=>m-(intOf z).toNat)
 case atStart=>exact⟨0,none,0,fun _=>(0,0,0),Nat.zero_le _,rfl,rfl,BldR.nil _ _ _ _ _,B1,Below.refl _ _⟩
 case round =>
  clear B1;obtain⟨t,a2,d2,K2,ht,rfl,rfl,O,D,F⟩:=hrel;have N0:=hk_ P0 F.out;have N1:=hk_ P1 F.out;have S0:Hid (wp.heap.size≤wr.heap.size):=F.out.size;clear P0 P1;obtain⟨j0,j1,j2⟩:=three_cells N0.out
  by_cases hlt:t<m
  ·have hlt':(t:Int)<m:=by omega
   have hl3:(t:Int)<3:=by omega
   have hltt:decide (t<m)=true:=decide_eq_true hlt;obtain⟨b,off,rfl,hbl,hcc⟩:=(HM.out.below D.out nr_).resolve_left (by omega);have k0:wr.cell? ⟨b,off+t*4,none⟩=some (.int .i8 (X t 0)):=hcc t hlt 0 (by omega);have k1:=hcc t hlt 1 (by omega);have k2:=hcc t hlt 2 (by omega);have k3:=hcc t hlt 3 (by omega);clear hcc;go_wp2_with fail;refine cm_ (HI.out wr _ _ t) ?_;rintro e w1 ⟨a3,c3,rfl,hown,hb⟩;have D1:=bt_ D hb;have F1:=bt_ F hb;have S1:Hid (wp.heap.size≤w1.heap.size):=Nat.le_trans S0.out hb.size;have O1:=hd_ (O.out.below hb nr_);obtain⟨g3,rfl,q1,q2,q3⟩:=own_rowI hown Hn0.out (Hiv.out t);have Hne1:Hid (∀ i,i<t→(K2 i).1≠g3):=fun i hi e=>by have:=(O.out.row i hi).lt;omega
   have Hne2:Hid ((Value.slice a2 t d2).ownBlock≠some g3):=fun e=>by have:=(O.out.size e).2;omega
   have HBg:Hid (wp.heap.size≤g3):=Nat.le_trans S0.out q1;have Q2:=hd_ q2;have Q3:=hd_ q3;have hO1:=O1.out.own;clear hown q1 q2 q3 hb N0 N1 S0 O D F k0 k1 k2 k3 j0 j1 j2
   go_wp2_with (at_builtin;refine append_new_at rfl (.tmp 22) (.tmp 30) 30 rfl elMx _ 1 [.slice (some ⟨g3,0,none⟩) n c3] rfl rfl hO1 S1.out rfl ?c1 (by omega) (by omega) ?_)
   case c1=>first | rfl | (intro u hu;obtain rfl:=List.mem_singleton.1 hu;rfl)
   intro v' w3 hown3 hg3 hs3;obtain⟨a4,c4,rfl⟩:=own_form hown3;have D3:Hid (Below w.heap.size w w3):=((D1.out.alloc D1.out.size _)).grown hg3 (Nat.le_trans D1.out.size (by simp)) (fun kk hk=>by have:=(O1.out.size hk).1;have:=SS.out;omega);have F3:Hid (Below wp.heap.size wp w3):=((F1.out.alloc F1.out.size _)).grown hg3 (Nat.le_trans F1.out.size (by simp)) (fun kk hk=>by have:=(O1.out.size hk).1;have:=SS.out;omega);have O3:=hd_ (O1.out.push Q3.out HBg.out Q2.out Hne1.out Hne2.out _ hown3 hg3 hs3);clear hown3 hg3 hs3 O1 D1 F1 hO1 Hne1 Hne2 HBg Q2 Q3 S1;go_wp2_with fail
   go_roundw
   case rel =>
    refine⟨t+1,a4,c4,_,by omega,by go_num,rfl,O3.out.congr fun i hi2 j _=>?_,D3,F3⟩
    by_cases e1:i=t
    ·rw[e1,if_pos rfl];exact HE.out t hlt j
    ·rw[if_neg e1]
   case measure=>simp[intOf];omega
  ·have hlt':¬ (t:Int)<m:=by omega
   have hltt:decide (t<m)=false:=decide_eq_false hlt;obtain rfl:m=t:=by omega
   go_wp2_with fail;have RR:=(O.out.below (Below.refl _ wr) nr_).rdm HRl.out HRr.out;refine cm_ (HB.out wr _ a2 _ d2 (HPp.out.below F.out nr_) RR D.out) ?_;rintro e w3 ⟨hb,C,M,s,rfl,hT,hM3⟩;obtain⟨ht0,ht1,ht2⟩:=three_cells N0.out;have D3:=bt_ D hb;have P1:=hk_ N1 hb;have Q1:=hd_ (heap_old P1.out (.cells #[.slice none 0 0,.slice none 0 0,.slice none 0 0] 32));have G1:=hd_ (heap_at w3 #[.slice none 0 0,.slice none 0 0,.slice none 0 0] 32 _ rfl);have D4:=hd_ (D3.out.alloc D3.out.size (.cells #[.slice none 0 0,.slice none 0 0,.slice none 0 0] 32));have hne:Hid (w.heap.size+1<w3.heap.size):=by have:=SS.out;have:=F.out.size;have:=hb.size;show _<_;omega
   have M4:=hd_ (hM3.below ((Below.refl _ w3).alloc nr_ (.cells #[.slice none 0 0,.slice none 0 0,.slice none 0 0] 32)) nr_);have HT:=hd_ hT;obtain⟨w4,hw4⟩:∃ w4,w3.alloc (.cells #[.slice none 0 0,.slice none 0 0,.slice none 0 0] 32)=w4:=⟨_,rfl⟩;rw[hw4] at Q1 G1 D4 M4;have hTT:TemOk ps.length C M:=by rw[HN.out];exact hT
   have M5:=hd_ (M4.out.setRow (cs' := #[.slice s.a0 n s.c0,.slice s.a1 C.length s.c1,.slice s.a2 M.length s.c2]) hTT (by rw[HN.out];exact Hn0.out) G1.out nils3);have G2:Hid ((w4.setRow w3.heap.size #[.slice s.a0 n s.c0,.slice s.a1 C.length s.c1,.slice s.a2 M.length s.c2]).heap[w3.heap.size]?=some (.cells #[.slice s.a0 n s.c0,.slice s.a1 C.length s.c1,.slice s.a2 M.length s.c2] 32 (0,0))):=setRow_heap _ _ _ _ _ _ G1.out;have Q2:Hid ((w4.setRow w3.heap.size #[.slice s.a0 n s.c0,.slice s.a1 C.length s.c1,.slice s.a2 M.length s.c2]).heap[w.heap.size+1]?=some (.cells #[.slice none 0 0,.slice none 0 0,.slice none 0 0] 32 (0,0))):=(setRow_other _ _ _ _ (by have:=hne.out;omega)).trans Q1.out;have D5:Hid (Below w.heap.size w (w4.setRow w3.heap.size #[.slice s.a0 n s.c0,.slice s.a1 C.length s.c1,.slice s.a2 M.length s.c2])):=below_setRow D4.out (by have:=hne.out;omega) _;have M6:=hd_ (M5.out.setRow (cs' := #[.slice s.a0 n s.c0,.slice s.a1 C.length s.c1,.slice s.a2 M.length s.c2]) hTT (by rw[HN.out];exact Hn0.out) Q2.out nils3);clear hb hM3 D3 P1 N0 N1 HB RR O F D ht0 ht1 ht2 Q1 D4 M4 M5
   go_wp2_with (first | (skip;refine wpList_store_row rfl 32 (.tmp 6) (.tmp 38) rfl w3.heap.size _ rfl rfl 32 _ G1.out (by kernel_rfl) rfl (by simp[Value.oneCell']) ?_) | (refine wpList_store_row rfl 32 (.tmp 6) (.tmp 38) rfl w3.heap.size _ rfl rfl 32 _ G1.out (by kernel_rfl) rfl (by simp[Value.oneCell']) ?_) | (refine wpList_load_row rfl 32 (.tmp 6) rfl w3.heap.size rfl 32 _ (0,0) _ G2.out Tryz.underlying32 rfl (by kernel_rfl) ?_) | (refine wpList_store_row rfl 32 (.tmp 2) (.tmp 40) rfl (w.heap.size+1) _ rfl rfl 32 _ Q2.out (by kernel_rfl) rfl (by simp[Value.oneCell']) ?_))
   exact bodyPost_ret (results_cell_row rfl _ _ (w.heap.size+1) 32 _ (0,0) _ rfl (setRow_heap _ _ _ _ _ _ Q2.out) Tryz.underlying32 rfl (by kernel_rfl)) rfl ⟨below_setRow D5.out (by omega) _,C,M,s,rfl,HT.out,M6.out⟩
end Go.Proofs.YtepicfdhphiiaaaGreatDoor

namespace Go.Proofs.YtepicfdhphiiaaaGreatDoor
open Go.ChangeShapes Go.WideShapes Go.ChangeAt Go.RowKit Go.Joins
theorem cellsA4:Tryz.prog.cellsOf 64=4:=by kernel_rfl
theorem cellsPln:Tryz.prog.cellsOf 24=3:=by kernel_rfl
theorem cellsSl4:Tryz.prog.cellsOf 22=1:=by kernel_rfl
theorem cellsBo:Tryz.prog.cellsOf 4=1:=by kernel_rfl
section
variable {H:Type} {enc:TypeId×Value→H} {W:World}
theorem open_arr4{base fuel:Nat}{sp:Nat→Bool}{held:Bool}{cs:List Value}{x:DataW H×List MemPlace}(h:DataW.trod enc Tryz.prog W base sp held fuel 64 cs=some x):
  ∃ f:Nat→Int,cs=[.int .i8 (f 0),.int .i8 (f 1),.int .i8 (f 2),.int .i8 (f 3)]∧∀ k,-128≤f k∧f k≤127:=by
 obtain⟨xs,m,_,_,hl,hn,hel⟩:=DataW.trod_array Tryz.underlying64 h;rw[cellsA4] at hl
 match cs,hl,xs,hn with
 | [c0,c1,c2,c3],_,[x0,x1,x2,x3],_ =>
  have e0:=hel 0 (by decide);have e1:=hel 1 (by decide);have e2:=hel 2 (by decide);have e3:=hel 3 (by decide);simp only[cellsI8,Nat.reduceMul,List.drop_zero,List.drop_succ_cons,List.take_succ_cons,List.take_zero,List.getElem?_cons_zero,List.getElem?_cons_succ] at e0 e1 e2 e3;obtain⟨a0,q0,_,w0⟩:=DataW.trod_int Tryz.underlying63 e0;obtain⟨a1,q1,_,w1⟩:=DataW.trod_int Tryz.underlying63 e1;obtain⟨a2,q2,_,w2⟩:=DataW.trod_int Tryz.underlying63 e2;obtain⟨a3,q3,_,w3⟩:=DataW.trod_int Tryz.underlying63 e3;have b0:=bounds_i8 w0;have b1:=bounds_i8 w1;have b2:=bounds_i8 w2;have b3:=bounds_i8 w3;simp only[List.cons.injEq,and_true] at q0 q1 q2 q3;refine⟨four a0 a1 a2 a3 0,by rw[q0,q1,q2,q3];rfl,fun k=>?_⟩
  match k with
  | 0=>exact b0
  | 1=>exact b1
  | 2=>exact b2
  | 3=>exact b3
  | k+4=>exact⟨by show (-128:Int)≤0;decide,by show (0:Int)≤127;decide⟩
theorem open_plan{r:Reach}{b0:Nat}{v:Value}{d:DataW H}{p:List MemPlace}(hv:Value.okWide Tryz.prog W r b0 24 v)(h:DataW.Trod enc Tryz.prog W 0 (fun _=>true) true 24 v d p):
  ∃ (k:Nat) (a:Option Addr) (m c:Nat) (b:Bool) (X:Nat→Nat→Int),v = .agg #[.int .u8 k,.slice a m c,.bool b]∧k<256∧PlM W a m X∧∀ i j,-128≤X i j∧X i j≤127:=by
 obtain⟨cs,rfl,hsz⟩:=okWide_struct Tryz.underlying24 hv;obtain⟨fuel,hf⟩:=h;rw[cellsPln] at hsz;obtain⟨y0,y1,y2,n,hx,_,h0,h1,h2⟩:=Go.Deep.trod_struct3 Tryz.underlying24 hf;obtain⟨l⟩:=cs;have hl:l.length=3:=by simpa using hsz
 match l,hl with
 | [c0,c1,c2],_ =>
  simp only[Value.cells,List.drop_zero,List.drop_succ_cons,cellsU8,cellsSl4,cellsBo,List.take_succ_cons,List.take_zero] at h0 h1 h2;obtain⟨k,hk,_,wk⟩:=DataW.trod_int Tryz.underlying5 h0;have bk:=bounds_u8 wk;obtain⟨b,hb,_⟩:=DataW.trod_bool Tryz.underlying4 h2;have hs:∃ a len cap,c1 = .slice a len cap:=by
   rcases DataW.trod_slice Tryz.underlying22 h1 with⟨hcs,_⟩|⟨a,len,cap,_,_,_,_,hcs,_⟩
   ·simp only[List.cons.injEq,and_true] at hcs;exact⟨_,_,_,hcs⟩
   ·simp only[List.cons.injEq,and_true] at hcs;exact⟨_,_,_,hcs⟩
  have hT:DataW.Trod enc Tryz.prog W 0 (fun _=>true) true 22 c1 y1.1 y1.2:=by
   obtain⟨a,len,cap,rfl⟩:=hs;exact⟨n,h1⟩
  obtain⟨a,c,css,rfl,hr,hq,-⟩:=open_slice_of Tryz.underlying22 cellsA4 (by decide) (Q:=fun cs=>∃ f:Nat→Int,cs=[.int .i8 (f 0),.int .i8 (f 1),.int .i8 (f 2),.int .i8 (f 3)]∧∀ k,-128≤f k∧f k≤127) (fun _ _ _ hh=>open_arr4 hh) hT hs;obtain⟨fs,rfl,hfs⟩:=choose_list css hq;simp only[List.cons.injEq,and_true] at hk hb;have hX:∀ i j,-128≤(fs.getD i (fun _=>0)) j∧(fs.getD i (fun _=>0)) j≤127:=fun i j=>by
   rcases Nat.lt_or_ge i fs.length with h|h
   ·rw[List.getD_eq_getElem?_getD,List.getElem?_eq_getElem h];exact hfs _ (List.getElem_mem h) j
   ·rw[List.getD_eq_getElem?_getD,List.getElem?_eq_none h];exact⟨by show (-128:Int)≤0;decide,by show (0:Int)≤127;decide⟩
  refine⟨k.toNat,a,fs.length,c,b,fun i j=>(fs.getD i (fun _=>0)) j,?_,by omega,?_,hX⟩
  ·rw[hk,hb,List.length_map,show ((k.toNat:Nat):Int)=k by omega]
  ·rcases hr with h | ⟨g,off,e,hg,hc⟩
   ·exact .inl (by simpa using congrArg List.length h)
   ·refine .inr ⟨g,off,e,hg,fun i hi j hj=>?_⟩
    show _=some (Value.int IntKind.i8 (fs.getD i (fun _=>0) j))
    rw[hc i (by rw[List.length_map];exact hi) j hj,List.getElem_map,List.getD_eq_getElem?_getD (l:=fs),List.getElem?_eq_getElem hi];rcases(show j=0∨j=1∨j=2∨j=3 by omega) with rfl|rfl|rfl|rfl<;>rfl
end
end Go.Proofs.YtepicfdhphiiaaaGreatDoor

namespace Go.Proofs.YtepicfdhphiiaaaGreatDoor
open Go.RowKit
def partTo (s:ByteArray) (from_:Nat) (c:UInt8):Nat→Nat
 | 0=>0
 | k+1=>partTo s from_ c k+if (lb s).getD ((from_+k)%s.size) 0=c then 1 else 0
end Go.Proofs.YtepicfdhphiiaaaGreatDoor
