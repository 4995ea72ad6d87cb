/- Lemmas for the laws of this seat, part 3. -/
import Derived.StillTail
import Derived.Lib.QuietBelow
import Derived.BigQuiet
import Derived.Maps.AppendAt
import Derived.RangeFuncNested
import Derived.RangeFuncBound
import Derived.RangeFuncCalls
import Derived.RangeFuncLeaves
import Derived.Shelf.Abstract
import Derived.Shelf.RegionOpen
import Derived.OwnWalkIn
import Derived.TacticsInMore
import Derived.LoopNIn
import Derived.LoopIn
import Derived.Laws.BitsLemmas
import Derived.Laws.Bits64
import Derived.OrdersIn
import Derived.RegionIn
import Derived.BigRegionIn
import Derived.WalkMore
import Derived.Scope
import Derived.Great.BuildSlice
import Derived.Laws.StructEq
import Derived.Lib.Join
import Derived.Shelf.Strings.OnBuilder
import Derived.Lib.SmallJoins
import Derived.ProofKit
import Derived.OpenShut
import Derived.ShutString
import Derived.ChangeOld
import Derived.Test.YtbielfplgbammaaGreatDoorWl2
set_option maxRecDepth 100000
set_option maxHeartbeats 16000000
namespace Go.Proofs.YtbielfplgbammaaGreatDoor.RY
open Go Go.Sort Go.Proofs.YtbielfplgbammaaGreatDoor
section
variable {P:Program} {ops:Array Oper} {md:Region.Mode} {C:World→Prop}
def Zcv:Op→Bool
 | .move _ | .assign _ | .load _ _ | .fieldAddr _ _ _ | .indexAddr _ _ _ | .extract _ _ | .binOp _ _ _ _ _ | .convert _ _ _=>true
 | .call c=>match c.callee with
  | .builtin .min | .builtin .max | .builtin .len=>true
  | _=>false
 | _=>false
theorem value_no_enter{s:Sem Value}{w w':World}{f:FuncId}{args:Array Value}(h:(do pure (Next.value (← s)):Sem Next).run P w = .ok (.enter f args) w'):False:=by
 simp only[Sem.run_bind,Sem.run_pure] at h;cases hs:s.run P w with
 | ok v w1=>rw[hs] at h;simp[Result.andThen] at h
 | halt x w1=>rw[hs] at h;simp[Result.andThen] at h
theorem Zu9{o:Oper}{a:Act}{w w':World}{f:FuncId}{args:Array Value}(ho:Zcv o.op=true)(h:(execOp a.eval o).run P w = .ok (.enter f args) w'):False:=by
 have cases5:(∃ x,o.op = .move x)∨(∃ x,o.op = .assign x)∨(∃ t x,o.op = .load t x)∨(∃ t x k,o.op = .fieldAddr t x k)∨(∃ t x y,o.op = .indexAddr t x y)∨(∃ x k,o.op = .extract x k)∨(∃ b t x y r,o.op = .binOp b t x y r)∨(∃ s d x,o.op = .convert s d x)∨(∃ c,o.op = .call c):=by
  cases hop:o.op<;>rw[hop] at ho<;>first | (simp[Zcv] at ho;done) | simp
 rcases cases5 with⟨x,hop⟩|⟨x,hop⟩|⟨t,x,hop⟩|⟨t,x,k,hop⟩|⟨t,x,y,hop⟩|⟨x,k,hop⟩|⟨b,t,x,y,r,hop⟩|⟨s,d,x,hop⟩|⟨c,hop⟩
 ·rw[BigFrame.run_move x hop] at h;cases h
 ·rw[BigFrame.run_assign x hop] at h;cases h
 ·unfold execOp at h;rw[hop] at h;exact value_no_enter h
 ·unfold execOp at h;rw[hop] at h;exact value_no_enter h
 ·unfold execOp at h;rw[hop] at h;exact value_no_enter h
 ·unfold execOp at h;rw[hop] at h;exact value_no_enter h
 ·unfold execOp at h;rw[hop] at h;exact value_no_enter h
 ·unfold execOp at h;rw[hop] at h;exact value_no_enter h
 ·rw[hop] at ho;unfold execOp at h;rw[hop] at h;unfold Zcv at ho;simp only at ho h;unfold resolve at h;cases hc:c.callee with
  | value x=>rw[hc] at ho;cases ho
  | invoke x y=>rw[hc] at ho;cases ho
  | builtin b =>
   rw[hc] at ho h;simp only[Sem.run_bind,Sem.run_pure,Result.andThen_ok,invoke] at h;cases b<;>first | (simp at ho;done) | (unfold builtin at h;exact value_no_enter h)
theorem Zh2{o:Oper}{a:Act}{w:World}{v:Value}(ho:Zcv o.op=true)(h:o.quietAt P a C w v){K:Act→World→Prop}(hk:K (a.put o.dst v) w):o.wp P a w K (fun _ _ _=>False):=by
 unfold Oper.quietAt at h;unfold Oper.wp;have hne:=@Zu9 P o a w;generalize (execOp a.eval o).run P w=r at *
 cases r with
 | ok n w' =>
  cases n<;>simp only[Oper.quietUpon] at h<;>simp only[Oper.upon]
  case value u=>obtain⟨rfl,rfl⟩:=h;exact hk
  case skip=>obtain⟨rfl,rfl⟩:=h;exact hk
  case enter f args=>exact(hne ho rfl).elim
 | halt x w'=>simp only[Oper.quietUpon] at h
def Zjp (C:World→Prop) (s:Nat) (listed:Array Bool) (w:World):Prop:=listed.getD s false=true∨C w
def Qat (P:Program) (md:Region.Mode) (ops:Array Oper) (C:World→Prop) (s:Nat) (Q:Act→World→Prop):Nat→Array Bool→Act→World→Prop
 | 0,listed,a,w=>Region.ready md ops listed=[]∧Q a w
 | f+1,listed,a,w=>Region.ready md ops listed≠[]∧∀ i∈Region.ready md ops listed,
   wpOp P ops (fun _ _ _=>False) i (fun a' w'=>Zjp C s (listed.setIfInBounds i true) w'∧Qat P md ops C s Q f (listed.setIfInBounds i true) a' w') a w
theorem Zrj{o:Oper}{a:Act}{w:World}{K:Act→World→Prop}{Q':Exit→Act→World→Prop}(h:o.wp P a w K (fun _ _ _=>False)):o.wp P a w K Q':=by
 unfold Oper.wp at *
 generalize (execOp a.eval o).run P w=r at *
 cases r with
 | ok n w' =>
  cases n<;>simp only[Oper.upon] at h ⊢ <;>
   first
    | exact h
    | exact cm_ h (fun e w'' he=>by cases e<;>first | exact he | exact he.elim | (obtain⟨_,_,hf⟩:=he;exact hf.elim))
    | exact Rows.mono h (fun _ _ he=>he)
 | halt x w'=>cases x<;>simp only[Oper.upon] at h<;>exact h.elim
theorem Zmo{i:Nat}{a:Act}{w:World}{K K':Act→World→Prop}{Q':Exit→Act→World→Prop}(hk:∀ a w,K a w→K' a w)(h:wpOp P ops (fun _ _ _=>False) i K a w):wpOp P ops Q' i K' a w:=by
 unfold wpOp at *
 split
 ·rename_i ho;simp only[ho] at h;exact hk _ _ h
 ·rename_i o ho
  simp only[ho] at h;split
  ·rename_i hw
   simp only[hw,if_true] at h;rcases h with h|⟨_,_,_,hf⟩
   ·exact .inl (Oper.wp_mono hk (Zrj h))
   ·exact hf.elim
  ·rename_i hw;simp only[hw] at h;exact hk _ _ h
theorem wpOp_strong{i:Nat}{a:Act}{w:World}{K:Act→World→Prop}{Q':Exit→Act→World→Prop}(hq:∀ e a w,Q' e a w→e = .normal)(h:wpOp P ops Q' i K a w):wpOp P ops (fun _ _ _=>False) i K a w:=by
 have hout:¬ LetsOut Q':=fun ⟨a,w,h⟩=>by have:=hq _ _ _ h;cases this
 unfold wpOp at *
 split
 ·rename_i ho;simp only[ho] at h;exact h
 ·rename_i o ho
  simp only[ho] at h;split
  ·rename_i hw
   simp only[hw,if_true] at h;rcases h with h|⟨_,h⟩
   ·left;unfold Oper.wp at *
    generalize (execOp a.eval o).run P w=r at *
    cases r with
    | ok n w' =>
     cases n<;>simp only[Oper.upon] at h ⊢ <;>
      first
       | exact h
       | exact cm_ h (fun e w'' he=>by cases e<;>first | exact he | (have:=hq _ _ _ he;cases this) | exact absurd he hout)
       | exact Rows.mono h (fun _ _ he=>he)
    | halt x w'=>cases x<;>simp only[Oper.upon] at h<;>first | exact h.elim | (have:=hq _ _ _ h;cases this)
   ·exact absurd h hout
  ·rename_i hw;simp only[hw] at h;exact h
theorem Zpg{s:Nat}{Q:Act→World→Prop}{Q':Exit→Act→World→Prop}(hQ:∀ a w,Q a w→Q' .normal a w):
  ∀ (f:Nat) (listed:Array Bool) (a:Act) (w:World),Qat P md ops C s Q f listed a w→wpAny P md ops Q' f listed a w
 | 0,_,_,_,h=>⟨h.1,hQ _ _ h.2⟩
 | f+1,_,_,_,h=>⟨fun h0=>absurd h0 h.1,fun i hi=>Zmo (fun a' w' h'=>Zpg hQ f _ a' w' h'.2) (h.2 i hi)⟩
structure RInv (md:Region.Mode) (ops:Array Oper) (listed:Array Bool):Prop where
 size:listed.size=ops.size
 closed:∀ j oj,ops[j]?=some oj→listed.getD j false=true→∀ e∈oj.after,Region.binds md e=true→listed.getD e.on false=true
theorem RInv.set{i:Nat}{listed:Array Bool}(inv:RInv md ops listed)(hi:i∈Region.ready md ops listed):RInv md ops (listed.setIfInBounds i true):=by
 obtain⟨_,oi,hoi,hall⟩:=mem_ready.1 hi;refine⟨by simp[inv.size],fun j oj hj hl e he hb=>?_⟩
 by_cases hij:i=j
 ·subst hij;have:oj=oi:=Option.some.inj (hj.symm.trans hoi)
  subst this;exact getD_set_true (hall e he hb)
 ·rw[getD_set_ne false hij] at hl;exact getD_set_true (inv.closed j oj hj hl e he hb)
def reachB (md:Region.Mode) (ops:Array Oper):Nat→Nat→Nat→Bool
 | 0,_,_=>false
 | f+1,s,i=>match ops[s]? with
  | some o=>o.after.any fun e=>Region.binds md e&&(e.on==i||reachB md ops f e.on i)
  | none=>false
theorem reach_listed{listed:Array Bool}(inv:RInv md ops listed):∀ (f s i:Nat),reachB md ops f s i=true→listed.getD s false=true→listed.getD i false=true
 | 0,_,_,h,_=>by cases h
 | f+1,s,i,h,hs=>by
  unfold reachB at h;split at h
  ·rename_i o ho
   obtain⟨e,he,hb⟩:=Array.any_eq_true'.1 h;simp only[Bool.and_eq_true,Bool.or_eq_true,beq_iff_eq] at hb;have hl:=inv.closed s o ho hs e he hb.1;rcases hb.2 with h2|h2
   ·rw[← h2];exact hl
   ·exact reach_listed inv f e.on i h2 hl
  ·cases h
def Zax (P:Program) (ops:Array Oper) (md:Region.Mode) (C:World→Prop) (s i:Nat) (o:Oper) (v:Value) (a:Act):Prop :=
 (reachB md ops 4 s i=true∧YieldsIn P ops C o v a)∨YieldsIn P ops (fun _=>True) o v a
theorem Zax.of_same{s i:Nat}{o:Oper}{v:Value}{a a':Act}(hy:Zax P ops md C s i o v a)(he:execOp a'.eval o=execOp a.eval o)
  (hw:Region.wanted o (yielded ops a'.tmps)=Region.wanted o (yielded ops a.tmps)):Zax P ops md C s i o v a' :=
 hy.imp (fun ⟨h1,h2⟩=>⟨h1,h2.of_same he hw⟩) (fun h=>h.of_same he hw)
theorem Zol{s i:Nat}{o:Oper}{v:Value}{a:Act}{w:World}{listed:Array Bool}(hi:ops[i]?=some o)(hne:Zcv o.op=true)(inv:RInv md ops listed)(hr:i∈Region.ready md ops listed)(hs:Zjp C s listed w)
  (hy:Zax P ops md C s i o v a) {K:Act→World→Prop} (hk:K (a.put o.dst v) w):wpOp P ops (fun _ _ _=>False) i K a w:=by
 have key:∀ D:World→Prop,D w→YieldsIn P ops D o v a→wpOp P ops (fun _ _ _=>False) i K a w:=fun D hD h=>by
  unfold wpOp;simp only[hi];rcases h with⟨h1,h2⟩|⟨h1,rfl⟩
  ·simp only[h1,if_true];exact .inl (Zh2 hne (h2 w hD) hk)
  ·simp only[h1,Bool.false_eq_true,if_false];exact hk
 rcases hy with⟨hw,h⟩|h
 ·refine key C ?_ h;rcases hs with hs|hs
  ·have:=reach_listed inv 4 s i hw hs
   rw[getD_both (mem_ready.1 hr).1] at this;cases this
  ·exact hs
 ·exact key _ trivial h
theorem Zum{j:Nat}{oi oj:Oper}{v:Value}(hj:ops[j]?=some oj)(hap:oi.apart ops oj=true)
  (hsi:∀ cs b,oi.op ≠ .select cs b) (hsj:∀ cs b,oj.op ≠ .select cs b) {s i:Nat} {K:Act→World→Prop} {a:Act} {w:World}
  (hy:Zax P ops md C s i oi v a) (h:wpOp P ops (fun _ _ _=>False) j K (a.put oi.dst v) w) :
  wpOp P ops (fun _ _ _=>False) j (fun a' w'=>Zax P ops md C s i oi v a'∧K (a'.put oi.dst v) w') a w:=by
 obtain⟨h1,h2,h3⟩:=Oper.apart_spec hap;have keep:∀ (a:Act),Zax P ops md C s i oi v a→∀ u,Zax P ops md C s i oi v (a.put oj.dst u):=fun a hy u =>
  hy.of_same (execOp_put oi hsi a oj.dst u h3) (wanted_put oi a oj.dst u h3)
 have keepd:∀ d,Zax P ops md C s i oi v ({ a with defers:=d::a.defers }:Act):=fun d=>hy.of_same rfl rfl
 unfold wpOp at *
 simp only[hj] at *
 rw[wanted_put oj a oi.dst v h1] at h;split
 ·rename_i hw
  simp only[hw,if_true] at h;left;rcases h with h|⟨_,_,_,hf⟩
  ·unfold Oper.wp at *
   rw[execOp_put oj hsj a oi.dst v h1] at h;generalize (execOp a.eval oj).run P w=r at *
   cases r with
   | ok n w' =>
    cases n<;>simp only[Oper.upon] at h ⊢
    case value u=>exact⟨keep a hy u,by rw[← Act.put_comm a v u h2];exact h⟩
    case skip=>exact⟨keep a hy undef,by rw[← Act.put_comm a v undef h2];exact h⟩
    case defer d =>
     refine⟨keep _ (keepd d) undef,?_⟩;rw[Act.put_defers] at h;rw[← Act.put_comm _ v undef h2];exact h
    case enter f args =>
     exact cm_ h (fun e w'' he=>by
      cases e
      case returned u=>exact⟨keep a hy u,by rw[← Act.put_comm a v u h2];exact he⟩
      case panicked c=>exact he
      case outgrown=>obtain⟨_,_,hf⟩:=he;exact hf.elim)
    case row row args=>exact Rows.mono h (fun u w'' he=>⟨keep a hy u,by rw[← Act.put_comm a v u h2];exact he⟩)
    all_goals exact h
   | halt x w'=>cases x<;>simp only[Oper.upon] at h<;>exact h.elim
  ·exact hf.elim
 ·rename_i hw
  simp only[hw] at h;exact⟨keep a hy _,by rw[← Act.put_comm a v undef h2];exact h⟩
theorem Zrb{s i:Nat}{oi:Oper}{v:Value}{Q:Act→World→Prop}(hi:ops[i]?=some oi)(his:i≠s)(hne:Zcv oi.op=true)(hsel:∀ (j:Nat) (o:Oper) cs b,ops[j]?=some o→o.op ≠ .select cs b):
  ∀ (f:Nat) (listed:Array Bool) (a:Act) (w:World),RInv md ops listed →
   (∀ j oj,ops[j]?=some oj→j≠i→listed.getD j true=false→(∀ e∈oj.after,Region.binds md e=true→e.on≠i)→oi.apart ops oj=true) →
   i∈Region.ready md ops listed→Zax P ops md C s i oi v a→Zjp C s listed w →
   Qat P md ops C s Q f (listed.setIfInBounds i true) (a.put oi.dst v) w→Qat P md ops C s Q (f+1) listed a w:=by
 intro f
 induction f with
 | zero =>
  intro listed a w inv _ hr hy hs H;refine⟨fun h=>(by rw[h] at hr;cases hr),fun j hj=>?_⟩
  by_cases hji:j=i
  ·subst hji;exact Zol hi hne inv hr hs hy ⟨hs.imp (fun h=>getD_set_true h) id,H⟩
  ·have:=ready_mono hj hji
   rw[H.1] at this;cases this
 | succ f ih =>
  intro listed a w inv hfree hr hy hs H;have hun:=(mem_ready.1 hr).1;refine⟨fun h=>(by rw[h] at hr;cases hr),fun j hj=>?_⟩
  by_cases hji:j=i
  ·subst hji;exact Zol hi hne inv hr hs hy ⟨hs.imp (fun h=>getD_set_true h) id,H⟩
  ·have h1:=H.2 j (ready_mono hj hji);obtain⟨hjun,oj,hoj,hall⟩:=mem_ready.1 hj;have hnot:∀ e∈oj.after,Region.binds md e=true→e.on≠i:=fun e he hb heq=>by
    have h1:=hall e he hb;rw[heq,getD_both hun] at h1;cases h1
   have h2:=Zum hoj (hfree j oj hoj hji hjun hnot) (fun cs b=>hsel i oi cs b hi) (fun cs b=>hsel j oj cs b hoj) hy h1
   have hfree':∀ k ok,ops[k]?=some ok→k≠i→(listed.setIfInBounds j true).getD k true=false →
     (∀ e∈ok.after,Region.binds md e=true→e.on≠i)→oi.apart ops ok=true:=fun k ok hk hki hun hno=>by
    refine hfree k ok hk hki ?_ hno
    by_cases hjk:j=k
    ·subst hjk;exact hjun
    ·rw[getD_set_ne true hjk] at hun;exact hun
   have hr':=ready_mono hr (Ne.symm hji);refine wpOp_mono (fun a' w' h3=>?_) h2
   obtain⟨hy',hs',H'⟩:=h3;have hs2:Zjp C s (listed.setIfInBounds j true) w':=by
    rcases hs' with h|h
    ·rw[Array.setIfInBounds_comm _ _ (Ne.symm hji),getD_set_ne false his] at h;exact .inl h
    ·exact .inr h
   refine⟨hs2,ih (listed.setIfInBounds j true) a' w' (inv.set hj) hfree' hr' hy' hs2 ?_⟩;rw[Array.setIfInBounds_comm _ _ hji];exact H'
def Zzs (md:Region.Mode) (ops:Array Oper) (s:Nat):List (Nat×Nat)→Array Bool→Bool
 | [],listed=>(Region.ready md ops listed).isEmpty
 | (k,i)::l,listed =>
  (if k=0 then decide (Region.ready md ops listed=[i])
  else (Region.ready md ops listed).contains i&&Region.free md ops listed i&&(match ops[i]? with | some o=>Zcv o.op | none=>false)&&decide (i≠s)&&(k==2||reachB md ops 4 s i)) &&
  Zzs md ops s l (listed.setIfInBounds i true)
def walkR (P:Program) (ops:Array Oper) (C:World→Prop) (s:Nat) (Q:Act→World→Prop):List (Nat×Nat)→Bool→Act→World→Prop
 | [],_,a,w=>Q a w
 | (k,i)::l,b,a,w =>
  if k=0 then wpList P ops (fun e a' w'=>e = .normal∧((b||i==s)=true∨C w')∧walkR P ops C s Q l (b||i==s) a' w') (ops[i]?).toList a w
  else if k=2 then wpQuiet P ops (fun _=>True) (fun a'=>walkR P ops C s Q l b a' w) (ops[i]?).toList a
  else wpQuiet P ops C (fun a'=>walkR P ops C s Q l b a' w) (ops[i]?).toList a
theorem qOp_of_list{i:Nat}{o:Oper}{a:Act}{D:World→Prop}{K:Act→Prop}(hi:ops[i]?=some o)(h:wpQuiet P ops D K (ops[i]?).toList a):qOp P ops D i K a:=by
 rw[hi] at h;unfold qOp;simp only[hi];exact h
theorem Zhr{s:Nat}{Q:Act→World→Prop}(hsel:Region.noSelect ops=true):
  ∀ (l:List (Nat×Nat)) (listed:Array Bool) (a:Act) (w:World),RInv md ops listed→Zjp C s listed w→Zzs md ops s l listed=true →
   walkR P ops C s Q l (listed.getD s false) a w→Qat P md ops C s Q l.length listed a w
 | [],listed,a,w,_,_,hB,h=>⟨by simpa [Zzs] using hB,h⟩
 | (k,i)::l,listed,a,w,inv,hs,hB,h=>by
  simp only[Zzs,Bool.and_eq_true] at hB;obtain⟨hB1,hB2⟩:=hB
  by_cases hk:k=0
  ·subst hk;simp only[if_true,decide_eq_true_eq] at hB1;have hr:i∈Region.ready md ops listed:=by rw[hB1];exact List.mem_singleton.2 rfl
   have hgs:(listed.setIfInBounds i true).getD s false=(listed.getD s false||i==s):=by
    by_cases his:i=s
    ·subst his;obtain⟨hun,o,ho,_⟩:=mem_ready.1 hr;have hlt:i<listed.size:=by rw[inv.size];exact(Array.getElem?_eq_some_iff.1 ho).1
     simp[hlt]
    ·rw[getD_set_ne false his];simp[his]
   refine⟨by rw[hB1];simp,fun j hj=>?_⟩
   rw[hB1] at hj;obtain rfl:=List.mem_singleton.1 hj;obtain⟨hun,o,ho,_⟩:=mem_ready.1 hr;simp only[walkR,if_true,ho,Option.toList] at h;have h2:wpOp P ops (fun e a' w'=>e = .normal∧((listed.getD s false||j==s)=true∨C w')∧walkR P ops C s Q l (listed.getD s false||j==s) a' w') j (fun a' w'=>((listed.getD s false||j==s)=true∨C w')∧walkR P ops C s Q l (listed.getD s false||j==s) a' w') a w:=by
    unfold wpOp;simp only[ho];simp only[wpList,true_and] at h;exact h
   have h3:=wpOp_strong (fun e a' w' hq=>hq.1) h2
   refine wpOp_mono (fun a' w' h4=>?_) h3
   have hs2:Zjp C s (listed.setIfInBounds j true) w':=by unfold Zjp;rw[hgs];exact h4.1
   exact⟨hs2,Zhr hsel l _ a' w' (inv.set hr) hs2 hB2 (by rw[hgs];exact h4.2)⟩
  ·rw[if_neg hk] at hB1;simp only[Bool.and_eq_true,decide_eq_true_eq,Bool.or_eq_true,beq_iff_eq] at hB1;obtain⟨⟨⟨⟨hr,hf⟩,hne⟩,his⟩,hw⟩:=hB1;have hr':i∈Region.ready md ops listed:=by simpa using hr
   obtain⟨_,o,ho,_⟩:=mem_ready.1 hr';have hne':Zcv o.op=true:=by rw[ho] at hne;exact hne
   have hgs:(listed.setIfInBounds i true).getD s false=listed.getD s false:=getD_set_ne false his;have hs2:Zjp C s (listed.setIfInBounds i true) w:=by unfold Zjp;rw[hgs];exact hs
   simp only[walkR,if_neg hk] at h;have hread:∃ v,Zax P ops md C s i o v a∧walkR P ops C s Q l (listed.getD s false) (a.put o.dst v) w:=by
    by_cases h2:k=2
    ·rw[if_pos h2] at h;obtain⟨v,hy,hK⟩:=yieldsIn_of_qOp ho (qOp_of_list ho h);exact⟨v,.inr hy,hK⟩
    ·rw[if_neg h2] at h;obtain⟨v,hy,hK⟩:=yieldsIn_of_qOp ho (qOp_of_list ho h);exact⟨v,.inl ⟨hw.resolve_left h2,hy⟩,hK⟩
   obtain⟨v,hy,hK⟩:=hread;exact Zrb ho his hne' (Region.noSelect_spec hsel) l.length listed a w inv (Region.free_spec ho hf) hr' hy hs
    (Zhr hsel l _ _ w (inv.set hr') hs2 hB2 (by rw[hgs];exact hK))
theorem pick_one:∀ (l:List Oper) (i:Nat),(l.toArray[i]?).toList=(l.drop i).take 1
 | [],i=>by simp
 | o::l,0=>by simp
 | o::l,i+1=>by
  have:=pick_one l i
  simpa using this
theorem walkR_read{s i:Nat}{Q:Act→World→Prop}{l:List (Nat×Nat)}{b:Bool}{a:Act}{w:World}{lo:List Oper}(h:wpQuiet P lo.toArray C (fun a'=>walkR P lo.toArray C s Q l b a' w) ((lo.drop i).take 1) a):walkR P lo.toArray C s Q ((1,i)::l) b a w:=by
 simp only[walkR,pick_one];exact h
theorem walkR_any{s i:Nat}{Q:Act→World→Prop}{l:List (Nat×Nat)}{b:Bool}{a:Act}{w:World}{lo:List Oper}(h:wpQuiet P lo.toArray (fun _=>True) (fun a'=>walkR P lo.toArray C s Q l b a' w) ((lo.drop i).take 1) a):walkR P lo.toArray C s Q ((2,i)::l) b a w:=by
 simp only[walkR,pick_one];exact h
theorem walkR_move{s i:Nat}{Q:Act→World→Prop}{l:List (Nat×Nat)}{b:Bool}{a:Act}{w:World}{lo:List Oper}
  (h:wpList P lo.toArray (fun e a' w'=>e = .normal∧((b||i==s)=true∨C w')∧walkR P lo.toArray C s Q l (b||i==s) a' w') ((lo.drop i).take 1) a w):walkR P lo.toArray C s Q ((0,i)::l) b a w:=by
 simp only[walkR,pick_one];exact h
theorem wp_region_readers{id:Nat}{Q:Exit→Act→World→Prop}{a:Act}{w:World}{l:List Oper}(s:Nat)(ord:List (Nat×Nat))(C:World→Prop)(hm:P.follows .mixedOrders=true)
  (hB:(Region.noSelect l.toArray&&decide (ord.length=l.length)&&Zzs .any l.toArray s ord (Array.replicate l.length false))=true)
  (hC:C { w with drawn:=w.drawn+1 }) (h:walkR P l.toArray C s (fun a' w'=>Q .normal a' w') ord false a { w with drawn:=w.drawn+1 }):(Code.region id l.toArray true).wp P Q a w:=by
 simp only[Bool.and_eq_true,decide_eq_true_eq] at hB;obtain⟨⟨hsel,hlen⟩,hord⟩:=hB;refine wp_region_any hm ?_;have inv0:RInv .any l.toArray (Array.replicate l.length false):=⟨by simp,fun j oj _ hl=>(by rw[getD_replicate_false] at hl;cases hl)⟩
 have H:=Zhr (md := .any) hsel ord _ a _ inv0 (.inr hC) hord (by rw[getD_replicate_false];exact h)
 have:=Zpg (Q':=Q) (fun a w h=>h) _ _ _ _ H
 rw[hlen] at this
 simpa using this
end
section
variable {P:Program} {ops:Array Oper} {md:Region.Mode} {C:World→Prop}
inductive Zib where
 | nil:Zib
 | rd:Nat→Nat→Zib→Zib
 | mv:Nat→Zib→Zib
 | two:Nat→Nat→Zib→Zib→Zib
def Zib.len:Zib→Nat
 | .nil=>0
 | .rd _ _ t=>t.len+1
 | .mv _ t=>t.len+1
 | .two _ _ t _=>t.len+1
end
end Go.Proofs.YtbielfplgbammaaGreatDoor.RY

namespace Go.Proofs.YtbielfplgbammaaGreatDoor
open Go.RowKit
def Qu (l:List Rat):Nat:=l.foldl (fun d q=>Nat.lcm d q.den) 1
def Ve (D:Nat) (ps:List Int) (l:List Rat):List (Int×Int) :=
 (ps.zip l).filterMap fun x=>if x.2.num=0 then none else some (x.1,x.2.num*((D/x.2.den:Nat):Int))
theorem Zgk(l:List Rat)(k:Nat)(h:k<l.length):Qu (l.take (k+1))=Nat.lcm (Qu (l.take k)) l[k].den:=by
 unfold Qu;rw[List.take_add_one,List.getElem?_eq_getElem h,List.foldl_append];rfl
theorem Zjh(l:List Rat):∀ k,k≤l.length→0<Qu (l.take k)
 | 0,_=>Nat.one_pos
 | k+1,h=>by
  rw[Zgk l k (by omega)]
  exact Nat.lcm_pos (Zjh l k (by omega)) l[k].den_pos
theorem Zji(l:List Rat)(D:Nat)(hs:∀ q∈l,Sm D q):∀ k,k≤l.length→Qu (l.take k)<10^(1+k*D)
 | 0,_=>by show 1<10^(1+0*D);rw[Nat.zero_mul];decide
 | k+1,h=>by
  rw[Zgk l k (by omega)]
  have h1:=Zji l D hs k (by omega)
  have h2:=(hs _ (List.getElem_mem (show k<l.length by omega))).2
  have h3:=Va h1 h2;have h4:Nat.lcm (Qu (l.take k)) l[k].den≤Qu (l.take k)*l[k].den:=Nat.le_of_dvd (Nat.mul_pos (Zjh l k (by omega)) l[k].den_pos) (Nat.lcm_dvd_mul _ _)
  rw[show 1+(k+1)*D=1+k*D+D by rw[Nat.add_mul];omega]
  omega
theorem Zpp(D:Nat)(ps:List Int)(l:List Rat)(k:Nat)(h1:k<ps.length)(h2:k<l.length):
  Ve D (ps.take (k+1)) (l.take (k+1))=Ve D (ps.take k) (l.take k)++(if l[k].num=0 then [] else [(ps[k],l[k].num*((D/l[k].den:Nat):Int))]):=by
 unfold Ve;have e:∀ n,(ps.take n).zip (l.take n)=(ps.zip l).take n:=fun n=>(List.take_zipWith ..).symm
 rw[e,e,List.take_add_one,List.getElem?_eq_getElem (by rw[List.length_zip];omega),List.filterMap_append]
 congr 1;rw[List.getElem_zip]
 by_cases h:l[k].num=0
 ·rw[if_pos h]
  show List.filterMap _ [(ps[k],l[k])]=[]
  rw[List.filterMap_cons];rw[if_pos h];rfl
 ·rw[if_neg h]
  show List.filterMap _ [(ps[k],l[k])]=_
  rw[List.filterMap_cons];rw[if_neg h];rfl
theorem Zfp(D:Nat)(ps:List Int)(l:List Rat):(Ve D ps l).length≤l.length:=by
 unfold Ve;refine Nat.le_trans (List.length_filterMap_le _ _) ?_;rw[List.length_zip];omega
def Zrg (l:List ByteArray):List Value:=l.map Value.string
theorem Zmu(l:List ByteArray):(Zrg l).length=l.length:=by simp[Zrg]
theorem Zmv(l m:List ByteArray):Zrg (l++m)=Zrg l++Zrg m:=by simp[Zrg]
def Zrt (v1 v2:Value) (d:Nat):Value := .agg #[v1,v2,.string (dec d)]
def Zod (v1 v2:Value) (s:ByteArray):Obj := .cells #[v1,v2,.string s] 146
theorem Zyc:(Tryz.prog.info? 3).map (fun i=>(i.zero,i.size,i.bytes))=some (some (.int .i64 0),1,8):=by kernel_rfl
theorem Qbh:(Tryz.prog.info? 38).map (fun i=>(i.zero,i.size,i.bytes))=some (some (.string ⟨#[]⟩),1,16):=by kernel_rfl
theorem Qi{w:World}{g:Nat}{a b c:Value}{t:TypeId}(h:w.heap[g]?=some (.cells #[a,b,c] t (0,0))):
  w.cell? ⟨g,0,none⟩=some a∧w.cell? ⟨g,1,none⟩=some b∧w.cell? ⟨g,2,none⟩=some c∧(∀ j,w.frozen? ⟨g,j,none⟩=false):=by
 refine⟨by rw[cell_of_row w g 0 _ t (0,0) h];rfl,by rw[cell_of_row w g 1 _ t (0,0) h];rfl,by rw[cell_of_row w g 2 _ t (0,0) h];rfl,fun j=>?_⟩
 simp[World.frozen?,h]
theorem Zcu{w:World}{base n c:Nat}{e:TypeId}{a:Option Addr}{xs:List Value}(h:w.ownsRow base e 1 (.slice a n c) n xs):Rd w a xs:=by
 have hlen:=h.1
 by_cases hn:0<n
 ·obtain⟨g,cap,hv,h1,h2,h3,h4,h5⟩:=Qb h hn;simp only[Value.slice.injEq] at hv;obtain⟨rfl,-,rfl⟩:=hv;refine .inr ⟨g,0,rfl,h2,fun i v hi=>?_⟩
  rw[Nat.zero_add,h4 i (by have:=(List.getElem?_eq_some_iff.1 hi).1;omega)]
  exact hi
 ·exact .inl (List.eq_nil_of_length_eq_zero (by omega))
def Zwk (w:World) (tl:List (Int×Int)) (D:Nat) (e:Ending) (w':World):Prop :=
 ∃ b1 d1 b2 d2,e = .returned (Zrt (.slice b1 tl.length d1) (.slice b2 tl.length d2) D)∧Rd w' b1 (Qw (tl.map Prod.fst))∧Rd w' b2 (Zrg (tl.map fun x=>itx x.2))∧Below w.heap.size w w'
theorem Zfa{w:World}{g:Nat}{cs:Array Value}{t:TypeId}(h:w.heap[g]?=some (.cells cs t (0,0)))(j:Nat)(x:Value):
  (w.setCell ⟨g,j,none⟩ x).heap[g]?=some (.cells (cs.setIfInBounds j x) t (0,0)):=by
 simp[World.setCell,Array.getElem?_modify,h]
theorem Zau{w:World}{g k:Nat}(h:g≠k)(j:Nat)(x:Value):(w.setCell ⟨g,j,none⟩ x).heap[k]?=w.heap[k]?:=by
 simp[World.setCell,Array.getElem?_modify,h]
structure TW (b5 g9:Nat) (v1 v2 v3 x0 x1:Value) (p:Addr) (vp:Value) where
 w:World
 h5:w.heap[b5]?=some (.cells #[v1,v2,v3] 146 (0,0))
 h9:w.heap[g9]?=some (.cells #[x0,x1] 101 (0,0))
 hp:w.cell? p=some vp
section
variable {b5 g9:Nat} {v1 v2 v3 x0 x1:Value} {p:Addr} {vp:Value}
theorem TW.q0(t:TW b5 g9 v1 v2 v3 x0 x1 p vp):t.w.cell? ⟨b5,0,none⟩=some v1:=(Qi t.h5).1
theorem TW.q1(t:TW b5 g9 v1 v2 v3 x0 x1 p vp):t.w.cell? ⟨b5,1,none⟩=some v2:=(Qi t.h5).2.1
theorem TW.q2(t:TW b5 g9 v1 v2 v3 x0 x1 p vp):t.w.cell? ⟨g9,0,none⟩=some x0:=(Ka t.h9).1
end
structure TT (w:World) (s1 s2:Value) (D:Nat) (V1:Value) (n1:Nat) (L1:List Value) (V2:Value) (n2:Nat) (L2:List Value) (wr:World):Prop where
 h4:wr.heap[w.heap.size]?=some (Zod (.slice none 0 0) (.slice none 0 0) ⟨#[]⟩)
 h5:wr.heap[w.heap.size+1]?=some (Zod s1 s2 (dec D))
 o1:wr.ownsRow (w.heap.size+2) 3 1 V1 n1 L1
 o2:wr.ownsRow (w.heap.size+2) 38 1 V2 n2 L2
 ap:∀ k,V1.ownBlock=some k→V2.ownBlock≠some k
 bel:Below w.heap.size w wr
 siz:w.heap.size+2≤wr.heap.size
section
variable {w:World} {s1 s2:Value} {D:Nat} {V1:Value} {n1:Nat} {L1:List Value} {V2:Value} {n2:Nat} {L2:List Value} {wr:World}
theorem TT.next{w':World}(h:TT w s1 s2 D V1 n1 L1 V2 n2 L2 wr)(hb:Below wr.heap.size wr w'):TT w s1 s2 D V1 n1 L1 V2 n2 L2 w' :=
 ⟨(hb.block _ (Array.getElem?_eq_some_iff.1 h.h4).1).trans h.h4,(hb.block _ (Array.getElem?_eq_some_iff.1 h.h5).1).trans h.h5,Vq h.o1 hb nr_,Vq h.o2 hb nr_,h.ap,h.bel.trans (hb.mono h.bel.size),Nat.le_trans h.siz hb.size⟩
theorem TT.grow1{w':World}(h:TT w s1 s2 D V1 n1 L1 V2 n2 L2 wr){V':Value}{n':Nat}{L':List Value}(own:w'.ownsRow (w.heap.size+2) 3 1 V' n' L')(hg:wr.grownBy w' V1.ownBlock)
  (hat:V'.ownBlock=V1.ownBlock∨V'.ownBlock=some wr.heap.size):TT w s1 s2 D V' n' L' V2 n2 L2 w':=by
 have hlow:∀ k,k<w.heap.size+2→w'.heap[k]?=wr.heap[k]?:=fun k hk=>hg.block k (by have:=h.siz;omega) (fun e=>by have:=(World.ownsRow.lt h.o1 k e.symm).1;omega)
 refine⟨(hlow _ (by omega)).trans h.h4,(hlow _ (by omega)).trans h.h5,own,?_,?_,?_,Nat.le_trans h.siz hg.size⟩
 ·refine World.ownsRow.kept h.o2 hg ?_;cases hv:V1.ownBlock with
  | none=>cases hv2:V2.ownBlock<;>simp
  | some k=>exact .inr (h.ap k hv)
 ·intro k hk;rcases hat with e|e
  ·exact h.ap k (by rw[← e];exact hk)
  ·intro h2;have h3:=(World.ownsRow.lt h.o2 k h2).2;rw[e] at hk;injection hk with hk
   omega
 ·exact h.bel.grown hg (by have:=h.siz;omega) (fun k hk=>by have:=(World.ownsRow.lt h.o1 k hk).1;omega)
theorem TT.grow2{w':World}(h:TT w s1 s2 D V1 n1 L1 V2 n2 L2 wr){V':Value}{n':Nat}{L':List Value}(own:w'.ownsRow (w.heap.size+2) 38 1 V' n' L')(hg:wr.grownBy w' V2.ownBlock)
  (hat:V'.ownBlock=V2.ownBlock∨V'.ownBlock=some wr.heap.size):TT w s1 s2 D V1 n1 L1 V' n' L' w':=by
 have hlow:∀ k,k<w.heap.size+2→w'.heap[k]?=wr.heap[k]?:=fun k hk=>hg.block k (by have:=h.siz;omega) (fun e=>by have:=(World.ownsRow.lt h.o2 k e.symm).1;omega)
 refine⟨(hlow _ (by omega)).trans h.h4,(hlow _ (by omega)).trans h.h5,?_,own,?_,?_,Nat.le_trans h.siz hg.size⟩
 ·refine World.ownsRow.kept h.o1 hg ?_;cases hv:V2.ownBlock with
  | none=>cases hv2:V1.ownBlock<;>simp
  | some k=>exact .inr (fun h1=>h.ap k h1 hv)
 ·intro k hk;rcases hat with e|e
  ·rw[e];exact h.ap k hk
  ·rw[e];intro h2;have h3:=(World.ownsRow.lt h.o1 k hk).2;injection h2 with h2
   omega
 ·exact h.bel.grown hg (by have:=h.siz;omega) (fun k hk=>by have:=(World.ownsRow.lt h.o2 k hk).1;omega)
theorem TT.store1(h:TT w s1 s2 D V1 n1 L1 V2 n2 L2 wr)(x:Value):TT w x s2 D V1 n1 L1 V2 n2 L2 (wr.setCell ⟨w.heap.size+1,0,none⟩ x):=by
 refine⟨(Zau (by omega) _ _).trans h.h4,(Zfa h.h5 0 x).trans rfl,?_,?_,h.ap,h.bel.setCell (p:=⟨w.heap.size+1,0,none⟩) (by simp) _,by simpa using h.siz⟩
 ·exact ownsRow_setCell_below h.o1 (by show w.heap.size+1<w.heap.size+2;omega) _
 ·exact ownsRow_setCell_below h.o2 (by show w.heap.size+1<w.heap.size+2;omega) _
theorem TT.store2(h:TT w s1 s2 D V1 n1 L1 V2 n2 L2 wr)(x:Value):TT w s1 x D V1 n1 L1 V2 n2 L2 (wr.setCell ⟨w.heap.size+1,1,none⟩ x):=by
 refine⟨(Zau (by omega) _ _).trans h.h4,(Zfa h.h5 1 x).trans rfl,?_,?_,h.ap,h.bel.setCell (p:=⟨w.heap.size+1,1,none⟩) (by simp) _,by simpa using h.siz⟩
 ·exact ownsRow_setCell_below h.o1 (by show w.heap.size+1<w.heap.size+2;omega) _
 ·exact ownsRow_setCell_below h.o2 (by show w.heap.size+1<w.heap.size+2;omega) _
end
abbrev TS (w:World) (tl:List (Int×Int)) (D:Nat) (b1:Option Addr) (d1:Nat) (b2:Option Addr) (d2:Nat) (wr:World):Prop :=
 TT w (.slice b1 tl.length d1) (.slice b2 tl.length d2) D (.slice b1 tl.length d1) tl.length (Qw (tl.map Prod.fst)) (.slice b2 tl.length d2) tl.length (Zrg (tl.map fun x=>itx x.2)) wr
theorem Zmq(w:World)(a1 a2:Option Addr)(c1 c2:Nat)(ps:List Int)(l:List Rat)(D:Nat)(hp:Rd w a1 (Qw ps))(hr:Rd w a2 (Kg l))(hpl:ps.length=l.length)
  (hs:∀ q∈l,Sm D q) (hl:l.length≤1000) (hD:3+(l.length+2)*D≤900000) (L:Qx w) :
  Calls Tryz.prog 79 #[.slice a1 ps.length c1,.slice a2 l.length c2] w (Zwk w (Ve (Qu l) ps l) (Qu l)):=by
 have HL:=hd_ L;have Hs:=hd_ hs;have Hr:=hd_ hr;have Hp:=hd_ hp;have HD:=hd_ hD;have Hpl:=hd_ hpl;rw[hpl];clear hs hr hp L hD hpl;generalize hn:l.length=n at *
 have Hn:=hd_ hn;clear hn;go_enter Tryz.func79,Tryz.ntmps79
 go_wp2_with fail
 go_loopw [16] (fun i wr=>∃ k:Nat,k≤n∧i = .int .i64 k∧Hid (wr.heap[w.heap.size]?=some (Zod (.slice none 0 0) (.slice none 0 0) ⟨#[]⟩))∧Hid (wr.heap[w.heap.size+1]?=some (Zod (.slice none 0 0) (.slice none 0 0) (dec (Qu (l.take k)))))∧Hid (Below w.heap.size w wr)) (fun i _=>n-(intOf i).toNat)
 case atStart =>
  refine⟨0,Nat.zero_le _,rfl,?_,?_,?_⟩
  ·show _=_
   rw[Go.heap_alloc_old _ _ (by simp)]
   exact Go.heap_alloc_new _ _
  ·show _=_
   have:=Go.heap_alloc_new (w.alloc (Obj.cells #[Value.slice none 0 0,Value.slice none 0 0,Value.string { data := #[] }] 146)) (Obj.cells #[Value.slice none 0 0,Value.slice none 0 0,Value.string { data := #[49] }] 146)
   rw[World.size_alloc] at this;rw[this,show Qu (l.take 0)=1 from rfl,Zcf];rfl
  ·exact((Below.refl w.heap.size w).alloc nr_ _).alloc (by simp) _
 case round =>
  obtain⟨k,hk,rfl,H4,H5,Hb⟩:=hrel
  by_cases hlt:k<n
  ·have hlt':(k:Int)<n:=by omega
   have hkl:k<l.length:=by rw[Hn.out];exact hlt
   obtain⟨b,off,rfl,hb,hcells⟩:=Hr.out.open (by rw[Yy];omega)
   obtain⟨c0,c1⟩:=Zy hcells k (by rw[List.length_map];exact hkl)
   rw[← Hb.out.cell (p:=⟨b,off+k*2,none⟩) hb,Zbd _ k hkl] at c0;rw[← Hb.out.cell (p:=⟨b,off+k*2+1,none⟩) hb,Zbd _ k hkl] at c1;have Hsucc:Hid (Qu (l.take (k+1))=Nat.lcm (Qu (l.take k)) l[k].den):=Zgk l k hkl;have hsm:=Hs.out _ (List.getElem_mem hkl);have htl:=Zji l D Hs.out k (by omega)
   have hkD:k*D≤(n+2)*D:=Nat.mul_le_mul_right _ (by omega)
   have hDD:=HD.out;have hDpos:=hsm.pos;have hD1:1*D≤(n+2)*D:=Nat.mul_le_mul_right _ (by omega)
   have Hlc:Hid (∀ W,Below w.heap.size w W→Kc Tryz.prog 162 #[.string (dec (Qu (l.take k))),.string (dec l[k].den)] W (.string (dec (Nat.lcm (Qu (l.take k)) l[k].den)))):=fun W hW=>by
    have:=Zvo W (Qu (l.take k):Int) (l[k].den:Int) (Qn htl (by omega) (by omega)) (Qn hsm.2 hDpos (by omega)) (HL.out.below hW)
    rw[Ki,Ki,Int.lcm_natCast_natCast] at this;exact this
   clear hcells hsm htl hkD hDD hDpos hD1;generalize l[k]=q at *
   generalize Qu (l.take k)=d at *
   generalize Nat.lcm d q.den=d2 at *
   simp only[qs] at c0 c1;have Hb0:=hd_ (Hb.out.alloc Hb.out.size (.cells #[.string (itx q.num),.string (dec q.den)] 101));have Hwr:=hd_ ((Below.refl wr.heap.size wr).alloc nr_ (.cells #[.string (itx q.num),.string (dec q.den)] 101));have Hnew:Hid ((wr.alloc (.cells #[.string (itx q.num),.string (dec q.den)] 101)).heap[wr.heap.size]?=some (.cells #[.string (itx q.num),.string (dec q.den)] 101 (0,0))):=heap_alloc_new wr _;have H5a:=hd_ ((Hwr.out.block _ (Array.getElem?_eq_some_iff.1 H5.out).1).trans H5.out);have H4a:=hd_ ((Hwr.out.block _ (Array.getElem?_eq_some_iff.1 H4.out).1).trans H4.out);obtain⟨k0,k1,-,-⟩:=Ka Hnew.out;obtain⟨m0,m1,m2,m3⟩:=Qi H5a.out;clear m3
   go_wp2_with fail
   generalize wr.alloc (.cells #[.string (itx q.num),.string (dec q.den)] 101)=W0 at *
   clear c0 c1 k0 k1 m0 m1 m2 Hnew H4 H5 Hwr;refine cm_ (Hlc.out _ Hb0.out) ?_;rintro e w1 ⟨rfl,hb1⟩;have H5b:=hd_ ((hb1.block _ (Array.getElem?_eq_some_iff.1 H5a.out).1).trans H5a.out);have H4b:=hd_ ((hb1.block _ (Array.getElem?_eq_some_iff.1 H4a.out).1).trans H4a.out);have Hb1:=hd_ (Hb0.out.trans (hb1.mono Hb0.out.size));clear hb1 Hlc Hb0 H5a H4a;obtain⟨m0,m1,m2,m3⟩:=Qi H5b.out;have f2:=m3 2;clear m3;go_wp2
   go_roundw
   case rel =>
    refine⟨k+1,by omega,by go_num,?_,?_,?_⟩
    ·show _=_
     rw[Zau (by omega)];exact H4b.out
    ·show _=_
     rw[Zfa H5b.out,Hsucc.out];rfl
    ·exact Hb1.out.setCell (p:=⟨w.heap.size+1,2,none⟩) (by simp) _
   case measure=>simp[intOf];omega
  ·have hlt':¬ (k:Int)<n:=by omega
   have hkn:k=n:=by omega
   subst hkn;rw[show l.take k=l by rw[← Hn.out,List.take_length]] at H5
   have Hts0:Hid (TS w (Ve (Qu l) (ps.take 0) (l.take 0)) (Qu l) none 0 none 0 wr) :=
    ⟨H4.out,H5.out,World.ownsRow_nil ..,World.ownsRow_nil ..,fun k hk=>by simp[Value.ownBlock] at hk,Hb.out,(Array.getElem?_eq_some_iff.1 H5.out).1⟩
   have Htl:=hd_ (fun j hj=>Zji l D Hs.out j hj)
   clear H4 H5 Hb
   go_wp2_with fail
   have hDp:=Zjh l l.length nr_;rw[List.take_length] at hDp;have Hdp:=hd_ hDp;have Hdl:Hid (Qu l<10^(1+k*D)):=by
    show _<_
    have:=Htl.out l.length nr_
    rw[List.take_length,Hn.out] at this;exact this
   clear hDp Htl;have Hw0:=hd_ Hts0.out.bel
   go_loopw [29] (fun i wr=>∃ (j:Nat) (b1:Option Addr) (d1:Nat) (b2:Option Addr) (d2:Nat),j≤k∧i = .int .i64 j∧Hid (TS w (Ve (Qu l) (ps.take j) (l.take j)) (Qu l) b1 d1 b2 d2 wr)) (fun i _=>k-(intOf i).toNat)
   case atStart=>exact⟨0,none,0,none,0,Nat.zero_le _,rfl,Hts0⟩
   case round =>
    obtain⟨j,b1,d1,b2,d2,hj,rfl,Hts⟩:=hrel
    by_cases hlt2:j<k
    ·have hlt2':(j:Int)<k:=by omega
     have hjl:j<l.length:=by rw[Hn.out];exact hlt2
     have hjp:j<ps.length:=by rw[Hpl.out];exact hlt2
     obtain⟨b,off,rfl,hb,hcells⟩:=Hr.out.open (by rw[Yy];omega)
     obtain⟨c0,c1⟩:=Zy hcells j (by rw[List.length_map];exact hjl)
     rw[← Hts.out.bel.cell (p:=⟨b,off+j*2,none⟩) hb,Zbd _ j hjl] at c0;rw[← Hts.out.bel.cell (p:=⟨b,off+j*2+1,none⟩) hb,Zbd _ j hjl] at c1;have Hsucc:=hd_ (Zpp (Qu l) ps l j hjp hjl);have hsm:=Hs.out _ (List.getElem_mem hjl);have hq:=Ztd l[j].num;obtain⟨bp,op,rfl,hbp,hcp⟩:=Hp.out.open (by rw[Qm];omega)
     have Hcp:Hid (w.cell? ⟨bp,op+j,none⟩=some (.int .i64 ps[j])):=hcp j _ (Vl ps j hjp);clear hcells hcp;generalize l[j]=q at *
     simp only[qs] at c0 c1;have Hwr:=hd_ ((Below.refl wr.heap.size wr).alloc nr_ (.cells #[.string (itx q.num),.string (dec q.den)] 101));have Hnew:Hid ((wr.alloc (.cells #[.string (itx q.num),.string (dec q.den)] 101)).heap[wr.heap.size]?=some (.cells #[.string (itx q.num),.string (dec q.den)] 101 (0,0))):=heap_alloc_new wr _;have Hts1:=hd_ (Hts.out.next Hwr.out);have Hlo1:=hd_ (fun k hk=>(World.ownsRow.lt Hts.out.o1 k hk).2)
     have Hlo2:=hd_ (fun k hk=>(World.ownsRow.lt Hts.out.o2 k hk).2)
     have Hmx:=hd_ (Zfp (Qu l) (ps.take j) (l.take j));obtain⟨k0,k1,-,-⟩:=Ka Hnew.out
     by_cases hz:q.num=0
     ·rw[if_pos hz,List.append_nil] at Hsucc;rw[decide_eq_true hz] at hq;clear hz Hnew Hwr Hts hsm;go_wp2
      go_roundw
      case rel=>exact⟨j+1,b1,d1,b2,d2,by omega,by go_num,by rw[Hsucc.out];exact Hts1⟩
      case measure=>simp[intOf];omega
     ·rw[if_neg hz] at Hsucc;rw[decide_eq_false hz] at hq;clear hz;obtain⟨m0,m1,m2,m3⟩:=Qi Hts1.out.h5;clear m3;have hDD:=HD.out;have hDpos:=hsm.pos;have hkD:(k+2)*D=k*D+2*D:=by rw[Nat.add_mul]
      have h10:10^(1+k*D)<10^(1+k*D+1):=Nat.pow_lt_pow_right (by decide) (by omega)
      have hdl:=Hdl.out;have Hdm:Hid (∀ W,Below w.heap.size w W→Kc Tryz.prog 163 #[.string (dec (Qu l)),.string (dec q.den)] W (.tuple #[.string (dec (Qu l/q.den)),.string (itx ((Qu l:Int)%(q.den:Int))),.int .i64 0])):=fun W hW=>by
       have:=Zcc W (Qu l:Int) q.den (Qn hdl (by omega) (by omega)) (Qn hsm.2 hDpos (by omega)) q.den_pos (Qn (D:=1+k*D+1) (show (Qu l+1)<10^(1+k*D+1) by omega) (by omega) (by omega)) (HL.out.below hW)
       rw[Ki,← Int.natCast_ediv,Ki] at this;exact this
      have hdv:Qu l/q.den≤Qu l:=Nat.div_le_self _ _;have hpr:(q.num*((Qu l/q.den:Nat):Int)).natAbs<10^(D+(1+k*D)):=by
       rw[Int.natAbs_mul];exact Va hsm.1 (Nat.lt_of_le_of_lt hdv hdl)
      have Hmu:Hid (∀ W,Below w.heap.size w W→Kc Tryz.prog 14 #[.string (itx q.num),.string (dec (Qu l/q.den))] W (.string (itx (q.num*((Qu l/q.den:Nat):Int))))):=fun W hW=>by
       have:=Za4 W q.num ((Qu l/q.den:Nat):Int) (Qn hsm.1 hDpos (by omega)) (Qn (Nat.lt_of_le_of_lt hdv hdl) (by omega) (by omega)) (Qn hpr (by omega) (by omega)) (HL.out.below hW)
       rw[Ki] at this;exact this
      clear hDD hDpos hkD h10 hdl hdv hpr hsm;generalize hfq:q.num*((Qu l/q.den:Nat):Int)=fq at *
      have Hfq:=hd_ hfq;clear hfq;generalize dec (Qu l/q.den)=sq at *
      go_wp2_with fail
      generalize wr.alloc (.cells #[.string (itx q.num),.string (dec q.den)] 101)=W0 at *
      clear c0 c1 k0 k1 m0 m1 m2;refine cm_ (Hdm.out _ Hts1.out.bel) ?_;rintro e w1 ⟨rfl,hb1⟩;have Hnew1:=hd_ (Kh Hnew.out hb1);have Hts2:=hd_ (Hts1.out.next hb1);clear hb1 Hdm Hts1 Hnew Hwr Hts;obtain⟨k0,k1,-,-⟩:=Ka Hnew1.out;obtain⟨m0,m1,m2,m3⟩:=Qi Hts2.out.h5;have f0:=m3 0;have f1:=m3 1;clear m3
      go_wp2_with fail
      have Hcq:Hid (w1.cell? ⟨bp,op+j,none⟩=some (.int .i64 ps[j])):=(Hts2.out.bel.cell (p:=⟨bp,op+j,none⟩) hbp).trans Hcp.out;generalize ps[j]=pj at *
      refine RY.wp_region_readers 17 [(1,0),(1,1),(1,2),(1,3),(1,4),(1,5),(1,8),(1,9),(1,10),(1,11),(2,12),(0,6),(0,7),(2,16),(0,13),(0,14),(0,15),(0,17),(2,18),(0,19)]
       (fun w'=>∃ p:TW (w.heap.size+1) wr.heap.size (.slice b1 (Ve (Qu l) (ps.take j) (l.take j)).length d1) (.slice b2 (Ve (Qu l) (ps.take j) (l.take j)).length d2) (.string (dec (Qu l))) (.string (itx q.num)) (.string (dec q.den)) ⟨bp,op+j,none⟩ (.int .i64 pj),w'=p.w)
       (by kernel_rfl) (by kernel_rfl) ?_ ?_
      ·exact⟨⟨{ w1 with drawn:=w1.drawn+1 },Hts2.out.h5,Hnew1.out,Hcq.out⟩,rfl⟩
      have q0:=@TW.q0;have q1:=@TW.q1;have q2:=@TW.q2;have q3:=@TW.hp;have hne:Nonempty (TW (w.heap.size+1) wr.heap.size (.slice b1 (Ve (Qu l) (ps.take j) (l.take j)).length d1) (.slice b2 (Ve (Qu l) (ps.take j) (l.take j)).length d2) (.string (dec (Qu l))) (.string (itx q.num)) (.string (dec q.den)) ⟨bp,op+j,none⟩ (.int .i64 pj)):=⟨⟨w1,Hts2.out.h5,Hnew1.out,Hcq.out⟩⟩
      iterate 10 (refine RY.walkR_read ?_;simp only[Qg,dz_,Qd,tz_];go_big_quiet_step (fail);refine wpQuiet_nil ?_)
      refine RY.walkR_any ?_;simp only[Qg,dz_,Qd,tz_]
      go_big_quiet_step (fail)
      refine wpQuiet_nil ?_;clear q0 q1 q2 q3 hne;refine RY.walkR_move ?_;simp only[Qg,dz_,Qd,tz_]
      go_wp2_with fail
      have Hts3:=hd_ (Hts2.out.next (w':=(w1.alloc (Obj.cells #[Value.int IntKind.i64 pj] 3)).drew) ((Below.refl w1.heap.size w1).alloc nr_ _).drew);have Hb13:=hd_ ((((Below.refl w1.heap.size w1).alloc nr_ (Obj.cells #[Value.int IntKind.i64 pj] 3)).drew));have Hnew3:=hd_ (Kh Hnew1.out Hb13.out);have Hone:Hid (∀ jj u,[Value.int IntKind.i64 pj][jj]?=some u→((w1.alloc (Obj.cells #[Value.int IntKind.i64 pj] 3)).drew).cell? ((⟨w1.heap.size,0,none⟩:Addr).add jj)=some u):=fun jj u hj=>cell_one_new w1 _ _ jj u hj
      have hgl:wr.heap.size<w1.heap.size:=(Array.getElem?_eq_some_iff.1 Hnew1.out).1;have Hsz13:Hid (w1.heap.size<((w1.alloc (Obj.cells #[Value.int IntKind.i64 pj] 3)).drew).heap.size):=by show _<_;show w1.heap.size<(w1.alloc _).heap.size;simp
      have Hcq3:Hid (((w1.alloc (Obj.cells #[Value.int IntKind.i64 pj] 3)).drew).cell? ⟨bp,op+j,none⟩=some (.int .i64 pj)):=(Hb13.out.cell (p:=⟨bp,op+j,none⟩) (block_lt_of_cell Hcq.out)).trans Hcq.out;generalize (w1.alloc (Obj.cells #[Value.int IntKind.i64 pj] 3)).drew=w3 at *
      refine⟨⟨⟨w3,Hts3.out.h5,Hnew3.out,Hcq3.out⟩,rfl⟩,?_⟩;refine RY.walkR_move ?_;simp only[Qg,dz_,Qd,tz_];obtain⟨iP,hi,hz0,hz1,hz2⟩:=info_parts Zyc;refine wpList_append_own_at w3 rfl (.tmp 47) (.tmp 52) 31 rfl (w.heap.size+2) 3 iP (.int .i64 0) 1 8 Tryz.underlying31 hi hz0 hz1 hz2 rfl (by decide) _ _ _ rfl Hts3.out.o1 ⟨w1.heap.size,0,none⟩ 1 1 [.int .i64 pj] rfl rfl Hone.out (by simp[Value.oneCell']) (by have:=Hmx.out;rw[List.length_take] at this;unfold maxLen;omega) (by have:=Hmx.out;rw[List.length_take] at this;omega) Hts3.out.siz ?_
      intro v' w4 own4 hg4 hnil4 hat4;have Hts4:=hd_ (Hts3.out.grow1 own4 hg4 hat4);obtain⟨e1,f1c,rfl⟩:=Ky own4;have Hnew4:Hid (w4.heap[wr.heap.size]?=some (.cells #[.string (itx q.num),.string (dec q.den)] 101 (0,0))):=by
       show _=_
       rw[hg4.block _ (Array.getElem?_eq_some_iff.1 Hnew3.out).1 (fun e=>by have:=Hlo1.out _ e.symm;omega)]
       exact Hnew3.out
      have Hcq4:Hid (w4.cell? ⟨bp,op+j,none⟩=some (.int .i64 pj)):=(Hts4.out.bel.cell (p:=⟨bp,op+j,none⟩) hbp).trans Hcp.out;clear own4 hg4 hnil4 hat4
      go_wp2_with fail
      refine⟨⟨⟨w4,Hts4.out.h5,Hnew4.out,Hcq4.out⟩,rfl⟩,?_⟩;refine RY.walkR_any ?_;simp only[Qg,dz_,Qd,tz_]
      go_big_quiet_step (fail)
      refine wpQuiet_nil ?_
      -- the factor
      refine RY.walkR_move ?_;simp only[Qg,dz_,Qd,tz_]
      go_wp2_with fail
      refine cm_ (Hmu.out _ Hts4.out.bel) ?_;rintro e w5 ⟨rfl,hb5⟩;have Hts5:=hd_ (Hts4.out.next hb5);have Hnew5:=hd_ (Kh Hnew4.out hb5);have Hcq5:Hid (w5.cell? ⟨bp,op+j,none⟩=some (.int .i64 pj)):=(Hts5.out.bel.cell (p:=⟨bp,op+j,none⟩) hbp).trans Hcp.out;clear hb5 Hmu
      go_wp2_with fail
      refine⟨⟨⟨w5,Hts5.out.h5,Hnew5.out,Hcq5.out⟩,rfl⟩,?_⟩;refine RY.walkR_move ?_;simp only[Qg,dz_,Qd,tz_]
      go_wp2_with fail
      have Hb56:=hd_ ((Below.refl w5.heap.size w5).alloc nr_ (Obj.cells #[Value.string (itx fq)] 38));have Hts6:=hd_ (Hts5.out.next Hb56.out);have Hnew6:=hd_ (Kh Hnew5.out Hb56.out);have Hone6:Hid (∀ jj u,[Value.string (itx fq)][jj]?=some u→(w5.alloc (Obj.cells #[Value.string (itx fq)] 38)).cell? ((⟨w5.heap.size,0,none⟩:Addr).add jj)=some u):=fun jj u hj=>cell_one_new w5 _ _ jj u hj
      have Hcq6:Hid ((w5.alloc (Obj.cells #[Value.string (itx fq)] 38)).cell? ⟨bp,op+j,none⟩=some (.int .i64 pj)):=(Hts6.out.bel.cell (p:=⟨bp,op+j,none⟩) hbp).trans Hcp.out;generalize w5.alloc (Obj.cells #[Value.string (itx fq)] 38)=w6 at *
      refine⟨⟨⟨w6,Hts6.out.h5,Hnew6.out,Hcq6.out⟩,rfl⟩,?_⟩;refine RY.walkR_move ?_;simp only[Qg,dz_,Qd,tz_];obtain⟨iZ,hiZ,hzZ0,hzZ1,hzZ2⟩:=info_parts Qbh;refine wpList_append_own_at w6 rfl (.tmp 55) (.tmp 60) 144 rfl (w.heap.size+2) 38 iZ (.string ⟨#[]⟩) 1 16 Tryz.underlying144 hiZ hzZ0 hzZ1 hzZ2 rfl (by decide) _ _ _ rfl Hts6.out.o2 ⟨w5.heap.size,0,none⟩ 1 1 [.string (itx fq)] rfl rfl Hone6.out (by simp[Value.oneCell']) (by have:=Hmx.out;rw[List.length_take] at this;unfold maxLen;omega) (by have:=Hmx.out;rw[List.length_take] at this;omega) Hts6.out.siz ?_
      intro v' w7 own7 hg7 hnil7 hat7;have Hts7:=hd_ (Hts6.out.grow2 own7 hg7 hat7);obtain⟨e2,f2c,rfl⟩:=Ky own7;have Hnew7:Hid (w7.heap[wr.heap.size]?=some (.cells #[.string (itx q.num),.string (dec q.den)] 101 (0,0))):=by
       show _=_
       rw[hg7.block _ (Array.getElem?_eq_some_iff.1 Hnew6.out).1 (fun e=>by have:=Hlo2.out _ e.symm;omega)]
       exact Hnew6.out
      have Hcq7:Hid (w7.cell? ⟨bp,op+j,none⟩=some (.int .i64 pj)):=(Hts7.out.bel.cell (p:=⟨bp,op+j,none⟩) hbp).trans Hcp.out;clear own7 hg7 hnil7 hat7
      go_wp2_with fail
      refine⟨⟨⟨w7,Hts7.out.h5,Hnew7.out,Hcq7.out⟩,rfl⟩,?_⟩
      -- the stores
      obtain⟨m0,m1,m2,m3⟩:=Qi Hts7.out.h5;have f0:=m3 0;have f1:=m3 1;clear m3;refine RY.walkR_move ?_;simp only[Qg,dz_,Qd,tz_]
      go_wp2_with fail
      have Hts8:=hd_ (Hts7.out.store1 (Value.slice e1 ((Ve (Qu l) (List.take j ps) (List.take j l)).length+1) f1c));clear m0 m1 m2 f0 f1;generalize w7.setCell { block:=w.heap.size+1,off:=0 } (Value.slice e1 ((Ve (Qu l) (List.take j ps) (List.take j l)).length+1) f1c)=w8 at *
      refine RY.walkR_any ?_;simp only[Qg,dz_,Qd,tz_]
      go_big_quiet_step (fail)
      refine wpQuiet_nil ?_;obtain⟨m0,m1,m2,m3⟩:=Qi Hts8.out.h5;have f0:=m3 0;have f1:=m3 1;clear m3;refine RY.walkR_move ?_;simp only[Qg,dz_,Qd,tz_]
      go_wp2_with fail
      have Hts9:=hd_ (Hts8.out.store2 (Value.slice e2 ((Ve (Qu l) (List.take j ps) (List.take j l)).length+1) f2c));clear m0 m1 m2 f0 f1;generalize w8.setCell { block:=w.heap.size+1,off:=1 } (Value.slice e2 ((Ve (Qu l) (List.take j ps) (List.take j l)).length+1) f2c)=w9 at *
      simp only[RY.walkR];go_wp2
      go_roundw
      case rel =>
       refine⟨j+1,e1,f1c,e2,f2c,by omega,by go_num,?_⟩
       show TS _ _ _ _ _ _ _ _
       rw[Hsucc.out];unfold TS;simp only[List.map_append,List.length_append,List.length_cons,List.length_nil,Zdr,Zmv,List.map_cons,List.map_nil];exact Hts9.out
      case measure=>simp[intOf];omega
    ·have hlt2':¬ (j:Int)<k:=by omega
     have hjk:j=k:=by omega
     subst hjk;have hfull:Ve (Qu l) (ps.take j) (l.take j)=Ve (Qu l) ps l:=by
      rw[show ps.take j=ps by rw[← Hpl.out,List.take_length],show l.take j=l by rw[← Hn.out,List.take_length]]
     rw[hfull] at Hts;clear hfull Hts0 Hdp Hdl Hw0;obtain⟨m0,m1,m2,m3⟩:=Qi Hts.out.h5;clear m3;obtain⟨r0,r1,r2,r3⟩:=Qi Hts.out.h4;have f0:=r3 0;have f1:=r3 1;have f2:=r3 2;clear r3
     go_wp2_with fail
     have h10:=Zfa (Zfa (Zfa Hts.out.h4 0 (Value.slice b1 (Ve (Qu l) ps l).length d1)) 1 (Value.slice b2 (Ve (Qu l) ps l).length d2)) 2 (.string (dec (Qu l)));have o1:=Zcu (ownsRow_setCell_below (ownsRow_setCell_below (ownsRow_setCell_below Hts.out.o1 (a:=⟨w.heap.size,0,none⟩) (by show w.heap.size<w.heap.size+2;omega) (Value.slice b1 (Ve (Qu l) ps l).length d1)) (a:=⟨w.heap.size,1,none⟩) (by show w.heap.size<w.heap.size+2;omega) (Value.slice b2 (Ve (Qu l) ps l).length d2)) (a:=⟨w.heap.size,2,none⟩) (by show w.heap.size<w.heap.size+2;omega) (.string (dec (Qu l))))
     have o2:=Zcu (ownsRow_setCell_below (ownsRow_setCell_below (ownsRow_setCell_below Hts.out.o2 (a:=⟨w.heap.size,0,none⟩) (by show w.heap.size<w.heap.size+2;omega) (Value.slice b1 (Ve (Qu l) ps l).length d1)) (a:=⟨w.heap.size,1,none⟩) (by show w.heap.size<w.heap.size+2;omega) (Value.slice b2 (Ve (Qu l) ps l).length d2)) (a:=⟨w.heap.size,2,none⟩) (by show w.heap.size<w.heap.size+2;omega) (.string (dec (Qu l))))
     have hbl:=((Hts.out.bel.setCell (p:=⟨w.heap.size,0,none⟩) nr_ (Value.slice b1 (Ve (Qu l) ps l).length d1)).setCell (p:=⟨w.heap.size,1,none⟩) nr_ (Value.slice b2 (Ve (Qu l) ps l).length d2)).setCell (p:=⟨w.heap.size,2,none⟩) nr_ (.string (dec (Qu l)));generalize ((wr.setCell { block:=w.heap.size,off:=0 } (Value.slice b1 (Ve (Qu l) ps l).length d1)).setCell { block:=w.heap.size,off:=1 } (Value.slice b2 (Ve (Qu l) ps l).length d2)).setCell { block:=w.heap.size,off:=2 } (Value.string (dec (Qu l)))=w10 at *
     obtain⟨t0,t1,t2,-⟩:=Qi (a:=Value.slice b1 (Ve (Qu l) ps l).length d1) (b:=Value.slice b2 (Ve (Qu l) ps l).length d2) (c := .string (dec (Qu l))) h10;exact bodyPost_ret (v:=Zrt (Value.slice b1 (Ve (Qu l) ps l).length d1) (Value.slice b2 (Ve (Qu l) ps l).length d2) (Qu l)) (by simp[Zrt,results,Tryz.results79,go_sem,t0,t1,t2]) rfl ⟨b1,d1,b2,d2,rfl,o1,o2,hbl⟩
end Go.Proofs.YtbielfplgbammaaGreatDoor

namespace Go.Proofs.YtbielfplgbammaaGreatDoor
open Go.RowKit Go.Shelf
attribute [local go_sem] Oper.semAt_some
abbrev Qe (b1:Option Addr) (d1:Nat) (b2:Option Addr) (d2 m D:Nat):Array Value := #[.slice b1 m d1,.slice b2 m d2,.string (dec D)]
theorem Zue(w:World)(b1 b2:Option Addr)(d1 d2 m D:Nat):
  Calls Tryz.prog 231 #[.agg (Qe b1 d1 b2 d2 m D)] w fun e w' =>
   e = .returned (.func (.func 282) #[] #[.pointer (some ⟨w.heap.size,0,none⟩)])∧w'=w.alloc (.cells (Qe b1 d1 b2 d2 m D) 146):=by
 go_enter Tryz.func231,Tryz.ntmps231;go_wp2;go_ret;exact⟨rfl,rfl⟩
abbrev Qbw (tl:List (Int×Int)) (x:{x // x∈tl}):Array Value := #[.int .i64 x.1.1,.string (itx x.1.2)]
def KT (n₀ Bn:Nat) (W W':World):Prop:=Below n₀ W W'∧W'.heap[Bn]?=W.heap[Bn]?
theorem Qbt{n₀ Bn:Nat}{A B C:World}(h:KT n₀ Bn A B)(k:KT n₀ Bn B C):KT n₀ Bn A C:=⟨h.1.trans k.1,k.2.trans h.2⟩
theorem Qbu{n₀ Bn:Nat}{w:World}(hn:n₀≤w.heap.size)(hB:Bn<w.heap.size)(W:World)(l:Nat)(o o':Obj)(hl:w.heap.size≤l)(h:W.heap[l]?=some o)(h1:o.isCells=false)(h2:o.isWalk=false):KT n₀ Bn W (W.putObj l o') :=
 ⟨belowK_b hn W l o o' hl h h1 h2,World.putObj_heap_other (by omega)⟩
theorem Zmg(n:Nat)(hn:1≤n)(w00 w:World)(h00:Below w00.heap.size w00 w)(Bn:Nat)(b1 b2:Option Addr)(d1 d2 D:Nat)(tl:List (Int×Int))(hl:tl.length≤1000)
  (hB:w.heap[Bn]?=some (.cells (Qe b1 d1 b2 d2 tl.length D) 146 (0,0))) (hr1:Rd w00 b1 (Qw (tl.map Prod.fst))) (hr2:Rd w00 b2 (Zrg (tl.map fun x=>itx x.2))) :
  SeqStopsK Fence.wide n Tryz.prog 282 #[.pointer (some ⟨Bn,0,none⟩)] (Qbw tl) (KT w00.heap.size Bn) (fun xs=>xs=tl.attach) (fun pre=>pre <+: tl.attach) tl.length w:=fun l J Jx W hW hJ hJx hY h0=>by
 have HB:=hd_ ((hW.block _ (Array.getElem?_eq_some_iff.1 hB).1).trans hB);have Hrd1:=hd_ hr1;have Hrd2:=hd_ hr2;have HW:=hd_ (h00.trans (hW.mono h00.size));clear hr1 hr2 hB hW h00;refine callsIn_of_wp Tryz.func282 rfl trivial ?_ rfl;simp only[Tryz.ntmps282,List.size_toArray,List.length_cons,List.length_nil,Nat.reduceAdd,Nat.reduceSub,Array.replicate_succ,Array.replicate_zero,List.push_toArray,List.append_toArray,List.nil_append,List.cons_append];obtain⟨m0,m1,m2,m3⟩:=Qi HB.out;clear m3
 gi_wp2
 gi_loopw [8] (fun p wr=>∃ k:Nat,k≤tl.length∧p = .int .i64 k∧J (tl.attach.take k) wr∧Hid (Below w00.heap.size w00 wr)∧Hid (wr.heap[Bn]?=some (.cells (Qe b1 d1 b2 d2 tl.length D) 146 (0,0))))
  (fun p wr=>tl.length-(intOf p).toNat)
 case atStart=>exact⟨0,Nat.zero_le _,rfl,h0,HW,HB⟩
 case round =>
  obtain⟨k,hk,rfl,hJk,Hb,HBk⟩:=hrel
  by_cases hlt:k<tl.length
  ·have hlt':(k:Int)<tl.length:=by omega
   have hk0:(0:Int)≤k:=by omega
   obtain⟨g1,o1,rfl,hg1,hc1⟩:=Hrd1.out.open (by rw[Qm,List.length_map];omega)
   obtain⟨g2,o2,rfl,hg2,hc2⟩:=Hrd2.out.open (by rw[Zmu,List.length_map];omega)
   have x1:wr.cell? ⟨g1,o1+k,none⟩=some (.int .i64 (tl[k]).1):=by
    rw[Hb.out.cell (p:=⟨g1,o1+k,none⟩) hg1];refine hc1 k _ ?_;rw[Vl _ k (by rw[List.length_map];exact hlt),List.getElem_map]
   have x2:wr.cell? ⟨g2,o2+k,none⟩=some (.string (itx (tl[k]).2)):=by
    rw[Hb.out.cell (p:=⟨g2,o2+k,none⟩) hg2];refine hc2 k _ ?_;simp[Zrg,hlt]
   obtain⟨m0,m1,m2,m3⟩:=Qi HBk.out;clear m3 hc1 hc2;obtain⟨fn,tmps,assign,body,hy,hR⟩:=hY (tl.attach.take k) ⟨tl[k],List.getElem_mem hlt⟩ wr hJk (by rw[List.length_take,List.length_attach];omega)
   dsimp only[Qbw] at hy
   have Hnext:Hid (tl.attach.take k++[⟨tl[k],List.getElem_mem hlt⟩]=tl.attach.take (k+1)):=by
    show _=_
    rw[List.take_add_one,List.getElem?_eq_getElem (by rw[List.length_attach];exact hlt),List.getElem_attach];rfl
   have hn0:(tl.length:Int)≤1000:=by omega
   gi_wp2_with fail
   refine hR.mono ?_;rintro e W3 (⟨rfl,hJ3,hk3⟩|⟨rfl,hJx3⟩)
   ·rw[Hnext.out] at hJ3;have Hb3:=hd_ (Hb.out.trans hk3.1);have HB3:=hd_ (hk3.2.trans HBk.out);clear hk3 x1 x2 m0 m1 m2 hR hy
    gi_wp2
    go_roundw
    case rel=>exact⟨k+1,by omega,by go_num,hJ3,Hb3,HB3⟩
    case measure=>simp[intOf];omega
   ·rw[Hnext.out] at hJx3
    gi_wp2
    refine bodyPost_ret (results_none rfl _ _ _) rfl ?_;exact⟨⟨_,rfl⟩,.inr ⟨tl.attach.take (k+1),List.take_prefix _ _,hJx3⟩⟩
  ·have hlt':¬ (k:Int)<tl.length:=by omega
   have hall:tl.attach.take k=tl.attach:=List.take_of_length_le (by rw[List.length_attach];omega)
   rw[hall] at hJk
   gi_wp2
   go_end0
   exact⟨⟨_,rfl⟩,.inl hJk⟩
end Go.Proofs.YtbielfplgbammaaGreatDoor

namespace Go.Proofs.YtbielfplgbammaaGreatDoor
open Go.RowKit
def Qax (p N a:Nat):Prop:=2^a≤p^N∧p^N<2^(a+1)
def Vm (unit:Nat) (s:Nat×Nat×Nat):Option (Nat×Nat×Nat) :=
 let low:=s.1*s.1/unit
 let high:=s.2.1*s.2.1/unit+1
 if 2*unit≤low then some (low/2,high/2+1,2*s.2.2+1)
 else if 2*unit≤high then none
 else some (low,high,2*s.2.2)
def Ze (p more:Nat):Nat→Option (Nat×Nat×Nat)
 | 0=>some (p*2^(more-p.log2),p*2^(more-p.log2),p.log2)
 | n+1=>(Ze p more n).bind (Vm (2^more))
structure Zuj (p unit N:Nat) (s:Nat×Nat×Nat):Prop where
 lg:Qax p N s.2.2
 lo:s.1*2^s.2.2≤unit*p^N
 hi:unit*p^N≤s.2.1*2^s.2.2
theorem Znq{p unit N:Nat}{s t:Nat×Nat×Nat}(h0:0<unit)(h:Zuj p unit N s)(hs:Vm unit s=some t):Zuj p unit (2*N) t:=by
 obtain⟨l,h',o⟩:=s;obtain⟨⟨g1,g2⟩,lo,hi⟩:=h;simp only at g1 g2 lo hi;simp only[Vm] at hs;have hP:p^(2*N)=p^N*p^N:=by rw[Nat.two_mul,Nat.pow_add]
 have hO:2^(2*o)=2^o*2^o:=by rw[Nat.two_mul,Nat.pow_add]
 have hO1:2^(2*o+1)=2*(2^o*2^o):=by rw[Nat.pow_succ,hO,Nat.mul_comm]
 have hO2:2^(2*o+1+1)=4*(2^o*2^o):=by rw[Nat.pow_succ,hO1];omega
 have hq:=Nat.div_mul_le_self (l*l) unit;have hr:=Nat.lt_div_mul_add (a:=h'*h') h0;generalize hA:l*l/unit=A at *
 generalize hB:h'*h'/unit=B at *
 rw[Nat.pow_succ] at g2;generalize 2^o=T at *
 generalize p^N=P at *
 -- A * (T * T) ≤ unit * (P * P)
 have e1:A*(T*T)≤unit*(P*P):=by
  have h1:A*unit*(T*T)≤(l*l)*(T*T):=Nat.mul_le_mul_right _ hq;have h2:(l*T)*(l*T)≤(unit*P)*(unit*P):=Nat.mul_le_mul lo lo;have h3:unit*(A*(T*T))≤unit*(unit*(P*P)):=by
   calc unit*(A*(T*T))=A*unit*(T*T):=by ac_rfl
    _≤(l*l)*(T*T):=h1
    _=(l*T)*(l*T):=by ac_rfl
    _≤_:=h2
    _=unit*(unit*(P*P)):=by ac_rfl
  exact Nat.le_of_mul_le_mul_left h3 h0
 have e2:unit*(P*P)≤(B+1)*(T*T):=by
  have h1:h'*h'*(T*T)≤((B+1)*unit)*(T*T):=Nat.mul_le_mul_right _ (by rw[Nat.add_mul,Nat.one_mul];omega)
  have h2:(unit*P)*(unit*P)≤(h'*T)*(h'*T):=Nat.mul_le_mul hi hi;have h3:unit*(unit*(P*P))≤unit*((B+1)*(T*T)):=by
   calc unit*(unit*(P*P))=(unit*P)*(unit*P):=by ac_rfl
    _≤_:=h2
    _=h'*h'*(T*T):=by ac_rfl
    _≤_:=h1
    _=unit*((B+1)*(T*T)):=by ac_rfl
  exact Nat.le_of_mul_le_mul_left h3 h0
 have e3:T*T≤P*P:=Nat.mul_le_mul g1 g1;have e4:P*P<4*(T*T):=by
  have:=Nat.mul_lt_mul'' g2 g2
  have h4:T*2*(T*2)=4*(T*T):=by
   calc T*2*(T*2)=(2*2)*(T*T):=by ac_rfl
    _=_:=rfl
  omega
 by_cases hl:2*unit≤A
 ·rw[if_pos hl] at hs;cases hs
  have e5:unit*(2*(T*T))≤unit*(P*P):=by
   calc unit*(2*(T*T))=2*unit*(T*T):=by ac_rfl
    _≤A*(T*T):=Nat.mul_le_mul_right _ hl
    _≤_:=e1
  have e6:2*(T*T)≤P*P:=Nat.le_of_mul_le_mul_left e5 h0;refine⟨⟨?_,?_⟩,?_,?_⟩
  ·simp only;rw[hO1,hP];exact e6
  ·simp only;rw[hO2,hP];exact e4
  ·simp only;rw[hO1,hP];have h5:A/2*2*(T*T)≤A*(T*T):=Nat.mul_le_mul_right _ (by omega)
   rw[Nat.mul_assoc] at h5;exact Nat.le_trans h5 e1
  ·simp only;rw[hO1,hP];have h5:(B+1)*(T*T)≤((B+1)/2+1)*2*(T*T):=Nat.mul_le_mul_right _ (by omega)
   rw[Nat.mul_assoc] at h5;exact Nat.le_trans e2 h5
 ·rw[if_neg hl] at hs
  by_cases hh:2*unit≤B+1
  ·rw[if_pos hh] at hs;cases hs
  ·rw[if_neg hh] at hs;cases hs
   have e7:unit*(P*P)<unit*(2*(T*T)):=by
    have hT:0<T*T:=by
     rcases Nat.eq_zero_or_pos (T*T) with h|h
     ·omega
     ·exact h
    calc unit*(P*P)≤(B+1)*(T*T):=e2
     _<2*unit*(T*T):=Nat.mul_lt_mul_of_pos_right (by omega) hT
     _=unit*(2*(T*T)):=by ac_rfl
   have e8:P*P<2*(T*T):=Nat.lt_of_mul_lt_mul_left e7;refine⟨⟨?_,?_⟩,?_,?_⟩
   ·simp only;rw[hO,hP];exact e3
   ·simp only;rw[hO1,hP];exact e8
   ·simp only;rw[hO,hP];exact e1
   ·simp only;rw[hO,hP];exact e2
theorem Zem(p more:Nat)(hp:0<p)(hm:p.log2≤more):∀ n s,Ze p more n=some s→Zuj p (2^more) (2^n) s
 | 0,s,h=>by
  simp only[Ze,Option.some.injEq] at h;subst h;refine⟨⟨?_,?_⟩,?_,?_⟩
  ·simp only[Nat.pow_zero,Nat.pow_one];exact Nat.log2_self_le (by omega)
  ·simp only[Nat.pow_zero,Nat.pow_one];exact Nat.lt_log2_self
  all_goals
   simp only[Nat.pow_zero,Nat.pow_one];rw[Nat.mul_assoc,← Nat.pow_add,Nat.sub_add_cancel hm,Nat.mul_comm];exact Nat.le_refl _
 | n+1,s,h=>by
  simp only[Ze] at h;obtain⟨t,ht,hs⟩:=Option.bind_eq_some_iff.1 h;have:=Znq (Nat.two_pow_pos more) (Zem p more hp hm n t ht) hs
  rw[Nat.pow_succ,Nat.mul_comm];exact this
theorem Zu5(H b:Nat)(hb:b<4):(H*4) ||| b=H*4+b:=by
 have:=Nat.shiftLeft_add_eq_or_of_lt (b:=b) (i:=2) hb H
 rw[Nat.shiftLeft_eq] at this;exact this.symm
theorem Zpd(H L:Nat)(hH:H<4611686018427387904)(hL:L<18446744073709551616):bits .or .u64 ((H:Int)*4) ((L:Int)/4611686018427387904)=((H*4+L/4611686018427387904:Nat):Int):=by
 have h:=(bits_nat .u64 64 (by decide) (fun n h0 h1=>by rw[IntKind.wrap_u64];omega) (H*4) (L/4611686018427387904) (by omega) (by omega)).2
 rw[Zu5 H _ (by omega)] at h
 simpa using h
theorem Zja(p:Nat)(hp:0<p)(hp2:p≤97):Lib.bitLen p=p.log2+1:=by
 have key:∀ q,q<98→0<q→Lib.bitLen q=q.log2+1:=by decide +kernel
 exact key p (by omega) hp
structure Qa0 (j:Nat) (s:Nat×Nat×Nat):Prop where
 lo:s.1<9223372036854775808
 hi:s.2.1<9223372036854775808
 out:s.2.2+1≤7*2^j
theorem Zen(p:Nat)(hp:2≤p)(hp2:p≤97):∀ j s,Ze p 62 j=some s→Qa0 j s
 | 0,s,h=>by
  simp only[Ze,Option.some.injEq] at h;subst h;have h1:p<2^(p.log2+1):=Nat.lt_log2_self;have h2:p.log2≤6:=by
   have:=(Nat.log2_lt (n:=p) (k:=7) (by omega)).2 (by omega)
   omega
  have h3:p*2^(62-p.log2)<2^(p.log2+1)*2^(62-p.log2):=Nat.mul_lt_mul_of_pos_right h1 (Nat.two_pow_pos _);rw[← Nat.pow_add,show p.log2+1+(62-p.log2)=63 by omega] at h3
  exact⟨h3,h3,by simp;omega⟩
 | j+1,s,h=>by
  simp only[Ze] at h;obtain⟨t,ht,hs⟩:=Option.bind_eq_some_iff.1 h;obtain⟨f1,f2,f3⟩:=Zen p hp hp2 j t ht;obtain⟨l,g,o⟩:=t;simp only at f1 f2 f3;simp only[Vm] at hs;have q1:l*l≤9223372036854775807*9223372036854775807:=Nat.mul_le_mul (by omega) (by omega)
  have q2:g*g≤9223372036854775807*9223372036854775807:=Nat.mul_le_mul (by omega) (by omega)
  have e:2^(j+1)=2*2^j:=by rw[Nat.pow_succ];omega
  rw[show (2:Nat)^62=4611686018427387904 from rfl] at hs
  by_cases h1:2*4611686018427387904≤l*l/4611686018427387904
  ·rw[if_pos h1] at hs;cases hs
   exact⟨by simp only;omega,by simp only;omega,by simp only;omega⟩
  ·rw[if_neg h1] at hs
   by_cases h2:2*4611686018427387904≤g*g/4611686018427387904+1
   ·rw[if_pos h2] at hs;cases hs
   ·rw[if_neg h2] at hs;cases hs
    exact⟨by simp only;omega,by simp only;omega,by simp only;omega⟩
def Zhb (p:Nat):Value:=match Ze p 62 26 with
 | some s => .tuple #[.int .i64 s.2.2,.bool true]
 | none => .tuple #[.int .i64 0,.bool false]
theorem Zvz(w:World)(p:Nat)(hp:2≤p)(hp2:p≤97):Kc Tryz.prog 281 #[.int .i64 p] w (Zhb p):=by
 unfold Kc;have hln:=hd_ (Tryz.bits_Len p w (by omega) (by omega))
 rw[show ((p:Nat):Int).toNat=p from rfl,Zja p (by omega) hp2] at hln
 have hk:p.log2≤6:=by
  have:=(Nat.log2_lt (n:=p) (k:=7) (by omega)).2 (by omega)
  omega
 have hw1:IntKind.i64.wrap (((p.log2+1:Nat):Int)-1)=(p.log2:Int):=by rw[show ((p.log2+1:Nat):Int)-1=(p.log2:Int) by omega];exact iw_ _ (by omega)
 have hw2:IntKind.u64.wrap (p:Int)=p:=IntWalk.u64_in _ (by omega)
 have hw3:IntKind.i64.wrap (62-(p.log2:Int))=((62-p.log2:Nat):Int):=by rw[show 62-(p.log2:Int)=((62-p.log2:Nat):Int) by omega];exact iw_ _ (by omega)
 go_enter Tryz.func281,Tryz.ntmps281
 go_wp2_with fail
 refine cm_ hln.out ?_;rintro e w1 ⟨rfl,rfl⟩;have hw4:IntKind.u64.wrap ((p:Int)*2^(62-p.log2))=((p*2^(62-p.log2):Nat):Int):=by
  have h0:=(Zen p hp hp2 0 _ rfl).lo;simp only at h0;rw[show ((p*2^(62-p.log2):Nat):Int)=(p:Int)*2^(62-p.log2) by simp]
  rw[← show ((p*2^(62-p.log2):Nat):Int)=(p:Int)*2^(62-p.log2) by simp]
  exact IntWalk.u64_in _ (by omega)
 have H0:Hid (Ze p 62 0=some (p*2^(62-p.log2),p*2^(62-p.log2),p.log2)):=rfl;have Hfit:=hd_ (Zen p hp hp2);have Hmul:=hd_ (fun x hx=>Tryz.bits_Mul64 x x hx hx w1)
 clear hln
 go_wp2_with fail
 go_loopw [5,6,7,21] (fun a b c i wr=>∃ (j lo hi o:Nat),j≤26∧Hid (Ze p 62 j=some (lo,hi,o))∧a = .int .u64 lo∧b = .int .u64 hi∧c = .int .i64 o∧i = .int .i64 j∧wr=w1) (fun _ _ _ i _=>26-(intOf i).toNat)
 case atStart=>exact⟨0,_,_,_,by omega,H0,rfl,rfl,rfl,rfl,rfl⟩
 case round =>
  obtain⟨j,lo,hi,o,hj,Hd,rfl,rfl,rfl,rfl,rfl⟩:=hrel
  by_cases hlt:j<26
  ·have hlt':(j:Int)<26:=by omega
   obtain⟨f1,f2,f3⟩:=Hfit.out j _ Hd.out;simp only at f1 f2 f3;have hpw:2^j≤2^26:=Nat.pow_le_pow_right (by decide) (by omega)
   rw[show (2:Nat)^26=67108864 from rfl] at hpw
   have ho:o≤469762048:=by omega
   have q1:lo*lo≤9223372036854775807*9223372036854775807:=Nat.mul_le_mul (by omega) (by omega)
   have q2:hi*hi≤9223372036854775807*9223372036854775807:=Nat.mul_le_mul (by omega) (by omega)
   have hm1:=Hmul.out lo (by omega)
   have hm2:=Hmul.out hi (by omega)
   have Hstep:Hid (Ze p 62 (j+1)=Vm (2^62) (lo,hi,o)):=by
    show _=_
    simp only[Ze,Hd.out,Option.bind_some]
   have hh1:lo*lo/18446744073709551616<4611686018427387904:=by omega
   have hl1:lo*lo%18446744073709551616<18446744073709551616:=Nat.mod_lt _ (by decide)
   have hx1:lo*lo/18446744073709551616*4+lo*lo%18446744073709551616/4611686018427387904=lo*lo/4611686018427387904:=by omega
   have hh2:hi*hi/18446744073709551616<4611686018427387904:=by omega
   have hl2:hi*hi%18446744073709551616<18446744073709551616:=Nat.mod_lt _ (by decide)
   have hx2:hi*hi/18446744073709551616*4+hi*hi%18446744073709551616/4611686018427387904=hi*hi/4611686018427387904:=by omega
   have hb1:=Zpd _ _ hh1 hl1;have hb2:=Zpd _ _ hh2 hl2;rw[hx1] at hb1;rw[hx2] at hb2;have hX1:lo*lo/4611686018427387904≤18446744073709551612:=by omega
   have hX2:hi*hi/4611686018427387904≤18446744073709551612:=by omega
   simp only[Vm] at Hstep;rw[show (2:Nat)^62=4611686018427387904 from rfl] at Hstep
   clear f3 hpw hx1 hx2 q1 q2;generalize lo*lo/18446744073709551616=H1 at *
   generalize lo*lo%18446744073709551616=L1 at *
   generalize hi*hi/18446744073709551616=H2 at *
   generalize hi*hi%18446744073709551616=L2 at *
   generalize lo*lo/4611686018427387904=X1 at *
   generalize hi*hi/4611686018427387904=X2 at *
   clear f1 f2;obtain⟨x1,hx1⟩:∃ x1:Int,(X1:Int)=x1:=⟨_,rfl⟩;obtain⟨x2,hx2⟩:∃ x2:Int,(X2:Int)+1=x2:=⟨_,rfl⟩;have hwX:IntKind.u64.wrap ((X2:Int)+1)=(X2:Int)+1:=IntWalk.u64_in _ (by omega)
   have hx2':(X2:Int)=x2-1:=by omega
   rw[hx1] at hb1;rw[hx2'] at hb2 hwX;have hwX2:IntKind.u64.wrap (x2-1+1)=x2:=by rw[hwX];omega
   have Hx1:=hd_ hx1;have Hx2:=hd_ hx2;have hx1b:0≤x1∧x1≤18446744073709551612:=by omega
   have hx2b:1≤x2∧x2≤18446744073709551613:=by omega
   clear hwX hx1 hx2 hx2';have hwH1:IntKind.u64.wrap ((H1:Int)*4)=(H1:Int)*4:=IntWalk.u64_in _ (by omega)
   have hwH2:IntKind.u64.wrap ((H2:Int)*4)=(H2:Int)*4:=IntWalk.u64_in _ (by omega)
   clear hX1 hX2 hh1 hh2 hl1 hl2
   go_wp2_with fail
   refine cm_ hm1 ?_;rintro e w2 ⟨rfl,rfl⟩;clear hm1
   go_wp2_with fail
   refine cm_ hm2 ?_;rintro e w2 ⟨rfl,rfl⟩;clear hm2
   go_wp2_with fail
   ·rename_i hc1
    have Hst:Hid (Ze p 62 (j+1)=some (X1/2,(X2+1)/2+1,2*o+1)):=by
     show _=_
     rw[Hstep.out,if_pos (by have:=Hx1.out;omega)]
    go_roundw
    case rel=>exact⟨j+1,X1/2,(X2+1)/2+1,2*o+1,by omega,Hst,by rw[← Hx1.out];go_num,by rw[← Hx2.out];go_num,by go_num,by go_num,trivial⟩
    case measure=>simp[intOf];omega
   ·rename_i hc1 hc2
    have Hst:Hid (Ze p 62 (j+1)=none):=by
     show _=_
     rw[Hstep.out,if_neg (by have:=Hx1.out;omega),if_pos (by have:=Hx2.out;omega)]
    have Hnone:Hid (Zhb p = .tuple #[.int .i64 0,.bool false]):=by
     have key:∀ m,Ze p 62 (j+1+m)=none:=fun m=>by
      induction m with
      | zero=>exact Hst.out
      | succ m ih=>rw[← Nat.add_assoc];show (Ze p 62 (j+1+m)).bind _=none;rw[ih];rfl
     show _=_
     unfold Zhb;have:=key (25-j)
     rw[show j+1+(25-j)=26 by omega] at this
     rw[this]
    go_ret2
    exact⟨by rw[Hnone.out];rfl,Below.refl _ _⟩
   ·rename_i hc1 hc2
    have Hst:Hid (Ze p 62 (j+1)=some (X1,X2+1,2*o)):=by
     show _=_
     rw[Hstep.out,if_neg (by have:=Hx1.out;omega),if_neg (by have:=Hx2.out;omega)]
    go_roundw
    case rel=>exact⟨j+1,X1,X2+1,2*o,by omega,Hst,by rw[← Hx1.out],by rw[← Hx2.out];go_num,by go_num,by go_num,trivial⟩
    case measure=>simp[intOf];omega
  ·have hlt':¬ (j:Int)<26:=by omega
   have hj26:j=26:=by omega
   subst hj26;have Hsome:Hid (Zhb p = .tuple #[.int .i64 o,.bool true]):=by
    show _=_
    unfold Zhb;rw[Hd.out]
   go_wp2
   go_ret2
   exact⟨by rw[Hsome.out];rfl,Below.refl _ _⟩
end Go.Proofs.YtbielfplgbammaaGreatDoor

namespace Go.Proofs.YtbielfplgbammaaGreatDoor
open Go Go.Sort
section
variable {P:Program} {ops:Array Oper} {md:Region.Mode} {cs:List (Nat×(World→Prop))}
def Za3:Op→Bool
 | .move _ | .assign _ | .load _ _ | .fieldAddr _ _ _ | .indexAddr _ _ _ | .binOp _ _ _ _ _=>true
 | .call c=>match c.callee with
  | .builtin .min | .builtin .max | .builtin .len=>true
  | _=>false
 | _=>false
theorem Zsq{o:Oper}{a:Act}{w w':World}{f:FuncId}{args:Array Value}(ho:Za3 o.op=true)(h:(execOp a.eval o).run P w = .ok (.enter f args) w'):False:=by
 have cases5:(∃ x,o.op = .move x)∨(∃ x,o.op = .assign x)∨(∃ t x,o.op = .load t x)∨(∃ t x k,o.op = .fieldAddr t x k)∨(∃ t x y,o.op = .indexAddr t x y)∨(∃ b t x y r,o.op = .binOp b t x y r)∨(∃ c,o.op = .call c):=by
  cases hop:o.op<;>rw[hop] at ho<;>first | (simp[Za3] at ho;done) | simp
 rcases cases5 with⟨x,hop⟩|⟨x,hop⟩|⟨t,x,hop⟩|⟨t,x,k,hop⟩|⟨t,x,y,hop⟩|⟨b,t,x,y,r,hop⟩|⟨c,hop⟩
 ·rw[BigFrame.run_move x hop] at h;cases h
 ·rw[BigFrame.run_assign x hop] at h;cases h
 ·unfold execOp at h;rw[hop] at h;exact RY.value_no_enter h
 ·unfold execOp at h;rw[hop] at h;exact RY.value_no_enter h
 ·unfold execOp at h;rw[hop] at h;exact RY.value_no_enter h
 ·unfold execOp at h;rw[hop] at h;exact RY.value_no_enter h
 ·rw[hop] at ho;unfold execOp at h;rw[hop] at h;unfold Za3 at ho;simp only at ho h;unfold resolve at h;cases hc:c.callee with
  | value x=>rw[hc] at ho;cases ho
  | invoke x y=>rw[hc] at ho;cases ho
  | builtin b =>
   rw[hc] at ho h;simp only[Sem.run_bind,Sem.run_pure,Result.andThen_ok,invoke] at h;cases b<;>first | (simp at ho;done) | (unfold builtin at h;exact RY.value_no_enter h)
theorem Zgr{D:World→Prop}{o:Oper}{a:Act}{w:World}{v:Value}(ho:Za3 o.op=true)(h:o.quietAt P a D w v){K:Act→World→Prop}(hk:K (a.put o.dst v) w):o.wp P a w K (fun _ _ _=>False):=by
 unfold Oper.quietAt at h;unfold Oper.wp;have hne:=@Zsq P o a w;generalize (execOp a.eval o).run P w=r at *
 cases r with
 | ok n w' =>
  cases n<;>simp only[Oper.quietUpon] at h<;>simp only[Oper.upon]
  case value u=>obtain⟨rfl,rfl⟩:=h;exact hk
  case skip=>obtain⟨rfl,rfl⟩:=h;exact hk
  case enter f args=>exact(hne ho rfl).elim
 | halt x w'=>simp only[Oper.quietUpon] at h
def Yj:List (Nat×(World→Prop))→(Nat→Bool)→World→Prop
 | [],_,_=>True
 | c::cs,b,w=>(b c.1=true∨c.2 w)∧Yj cs b w
theorem Yj.get:∀ {cs:List (Nat×(World→Prop))} {b:Nat→Bool} {w:World},Yj cs b w→∀ c∈cs,b c.1=true∨c.2 w
 | [],_,_,_,c,hc=>by cases hc
 | d::cs,b,w,h,c,hc=>by
  rcases List.mem_cons.1 hc with rfl|hc
  ·exact h.1
  ·exact Yj.get h.2 c hc
theorem Yj.mono:∀ {cs:List (Nat×(World→Prop))} {b b':Nat→Bool} {w:World},(∀ s,b s=true→b' s=true)→Yj cs b w→Yj cs b' w
 | [],_,_,_,_,_=>trivial
 | _::_,_,_,_,hb,h=>⟨h.1.imp (hb _) id,Yj.mono hb h.2⟩
theorem Yj.congr{cs:List (Nat×(World→Prop))}{b b':Nat→Bool}{w:World}(hb:∀ s,b s=b' s)(h:Yj cs b w):Yj cs b' w:=h.mono (fun s hs=>by rw[← hb s];exact hs)
def upB (listed:Array Bool) (s:Nat):Bool:=listed.getD s false
def Zrd (P:Program) (md:Region.Mode) (ops:Array Oper) (cs:List (Nat×(World→Prop))) (Q:Act→World→Prop):Nat→Array Bool→Act→World→Prop
 | 0,listed,a,w=>Region.ready md ops listed=[]∧Q a w
 | f+1,listed,a,w=>Region.ready md ops listed≠[]∧∀ i∈Region.ready md ops listed,
   wpOp P ops (fun _ _ _=>False) i (fun a' w'=>Yj cs (upB (listed.setIfInBounds i true)) w'∧Zrd P md ops cs Q f (listed.setIfInBounds i true) a' w') a w
def Za (P:Program) (ops:Array Oper) (md:Region.Mode) (cs:List (Nat×(World→Prop))) (i:Nat) (o:Oper) (v:Value) (a:Act):Prop :=
 (∃ c∈cs,RY.reachB md ops 4 c.1 i=true∧YieldsIn P ops c.2 o v a)∨YieldsIn P ops (fun _=>True) o v a
theorem Za.of_same{i:Nat}{o:Oper}{v:Value}{a a':Act}(hy:Za P ops md cs i o v a)(he:execOp a'.eval o=execOp a.eval o)
  (hw:Region.wanted o (yielded ops a'.tmps)=Region.wanted o (yielded ops a.tmps)):Za P ops md cs i o v a' :=
 hy.imp (fun ⟨c,hc,h1,h2⟩=>⟨c,hc,h1,h2.of_same he hw⟩) (fun h=>h.of_same he hw)
theorem Zk8{i:Nat}{o:Oper}{v:Value}{a:Act}{w:World}{listed:Array Bool}(hi:ops[i]?=some o)(hne:Za3 o.op=true)(inv:RY.RInv md ops listed)(hr:i∈Region.ready md ops listed)(hs:Yj cs (upB listed) w)
  (hy:Za P ops md cs i o v a) {K:Act→World→Prop} (hk:K (a.put o.dst v) w):wpOp P ops (fun _ _ _=>False) i K a w:=by
 have key:∀ D:World→Prop,D w→YieldsIn P ops D o v a→wpOp P ops (fun _ _ _=>False) i K a w:=fun D hD h=>by
  unfold wpOp;simp only[hi];rcases h with⟨h1,h2⟩|⟨h1,rfl⟩
  ·simp only[h1,if_true];exact .inl (Zgr hne (h2 w hD) hk)
  ·simp only[h1,Bool.false_eq_true,if_false];exact hk
 rcases hy with⟨c,hc,hw,h⟩|h
 ·refine key c.2 ?_ h;rcases hs.get c hc with hs|hs
  ·have:=RY.reach_listed inv 4 c.1 i hw hs
   rw[getD_both (mem_ready.1 hr).1] at this;cases this
  ·exact hs
 ·exact key _ trivial h
theorem Zrl{j:Nat}{oi oj:Oper}{v:Value}(hj:ops[j]?=some oj)(hap:oi.apart ops oj=true)
  (hsi:∀ cs b,oi.op ≠ .select cs b) (hsj:∀ cs b,oj.op ≠ .select cs b) {i:Nat} {K:Act→World→Prop} {a:Act} {w:World}
  (hy:Za P ops md cs i oi v a) (h:wpOp P ops (fun _ _ _=>False) j K (a.put oi.dst v) w) :
  wpOp P ops (fun _ _ _=>False) j (fun a' w'=>Za P ops md cs i oi v a'∧K (a'.put oi.dst v) w') a w:=by
 obtain⟨h1,h2,h3⟩:=Oper.apart_spec hap;have keep:∀ (a:Act),Za P ops md cs i oi v a→∀ u,Za P ops md cs i oi v (a.put oj.dst u):=fun a hy u =>
  hy.of_same (execOp_put oi hsi a oj.dst u h3) (wanted_put oi a oj.dst u h3)
 have keepd:∀ d,Za P ops md cs i oi v ({ a with defers:=d::a.defers }:Act):=fun d=>hy.of_same rfl rfl
 unfold wpOp at *
 simp only[hj] at *
 rw[wanted_put oj a oi.dst v h1] at h;split
 ·rename_i hw
  simp only[hw,if_true] at h;left;rcases h with h|⟨_,_,_,hf⟩
  ·unfold Oper.wp at *
   rw[execOp_put oj hsj a oi.dst v h1] at h;generalize (execOp a.eval oj).run P w=r at *
   cases r with
   | ok n w' =>
    cases n<;>simp only[Oper.upon] at h ⊢
    case value u=>exact⟨keep a hy u,by rw[← Act.put_comm a v u h2];exact h⟩
    case skip=>exact⟨keep a hy undef,by rw[← Act.put_comm a v undef h2];exact h⟩
    case defer d =>
     refine⟨keep _ (keepd d) undef,?_⟩;rw[Act.put_defers] at h;rw[← Act.put_comm _ v undef h2];exact h
    case enter f args =>
     exact cm_ h (fun e w'' he=>by
      cases e
      case returned u=>exact⟨keep a hy u,by rw[← Act.put_comm a v u h2];exact he⟩
      case panicked c=>exact he
      case outgrown=>obtain⟨_,_,hf⟩:=he;exact hf.elim)
    case row row args=>exact Rows.mono h (fun u w'' he=>⟨keep a hy u,by rw[← Act.put_comm a v u h2];exact he⟩)
    all_goals exact h
   | halt x w'=>cases x<;>simp only[Oper.upon] at h<;>exact h.elim
  ·exact hf.elim
 ·rename_i hw
  simp only[hw] at h;exact⟨keep a hy _,by rw[← Act.put_comm a v undef h2];exact h⟩
theorem Zn0{i:Nat}{oi:Oper}{v:Value}{Q:Act→World→Prop}(hi:ops[i]?=some oi)(his:∀ c∈cs,i≠c.1)(hne:Za3 oi.op=true)(hsel:∀ (j:Nat) (o:Oper) cs b,ops[j]?=some o→o.op ≠ .select cs b):
  ∀ (f:Nat) (listed:Array Bool) (a:Act) (w:World),RY.RInv md ops listed →
   (∀ j oj,ops[j]?=some oj→j≠i→listed.getD j true=false→(∀ e∈oj.after,Region.binds md e=true→e.on≠i)→oi.apart ops oj=true) →
   i∈Region.ready md ops listed→Za P ops md cs i oi v a→Yj cs (upB listed) w →
   Zrd P md ops cs Q f (listed.setIfInBounds i true) (a.put oi.dst v) w→Zrd P md ops cs Q (f+1) listed a w:=by
 have hstep:∀ (listed:Array Bool) (w:World),Yj cs (upB listed) w→Yj cs (upB (listed.setIfInBounds i true)) w:=fun listed w h=>h.mono (fun s hs=>getD_set_true hs)
 have hback:∀ (cs':List (Nat×(World→Prop))),(∀ c∈cs',i≠c.1)→∀ (listed:Array Bool) (w:World),Yj cs' (upB (listed.setIfInBounds i true)) w→Yj cs' (upB listed) w:=by
  intro cs'
  induction cs' with
  | nil=>intro _ _ _ _;trivial
  | cons c cs' ih =>
   intro hi' listed w h;refine⟨h.1.imp (fun hb=>?_) id,ih (fun d hd=>hi' d (List.mem_cons_of_mem _ hd)) listed w h.2⟩
   unfold upB at hb ⊢;rw[getD_set_ne false (hi' c (List.mem_cons_self ..))] at hb;exact hb
 intro f
 induction f with
 | zero =>
  intro listed a w inv _ hr hy hs H;refine⟨fun h=>(by rw[h] at hr;cases hr),fun j hj=>?_⟩
  by_cases hji:j=i
  ·subst hji;exact Zk8 hi hne inv hr hs hy ⟨hstep _ _ hs,H⟩
  ·have:=ready_mono hj hji
   rw[H.1] at this;cases this
 | succ f ih =>
  intro listed a w inv hfree hr hy hs H;have hun:=(mem_ready.1 hr).1;refine⟨fun h=>(by rw[h] at hr;cases hr),fun j hj=>?_⟩
  by_cases hji:j=i
  ·subst hji;exact Zk8 hi hne inv hr hs hy ⟨hstep _ _ hs,H⟩
  ·have h1:=H.2 j (ready_mono hj hji);obtain⟨hjun,oj,hoj,hall⟩:=mem_ready.1 hj;have hnot:∀ e∈oj.after,Region.binds md e=true→e.on≠i:=fun e he hb heq=>by
    have h1:=hall e he hb;rw[heq,getD_both hun] at h1;cases h1
   have h2:=Zrl hoj (hfree j oj hoj hji hjun hnot) (fun cs b=>hsel i oi cs b hi) (fun cs b=>hsel j oj cs b hoj) hy h1
   have hfree':∀ k ok,ops[k]?=some ok→k≠i→(listed.setIfInBounds j true).getD k true=false →
     (∀ e∈ok.after,Region.binds md e=true→e.on≠i)→oi.apart ops ok=true:=fun k ok hk hki hun hno=>by
    refine hfree k ok hk hki ?_ hno
    by_cases hjk:j=k
    ·subst hjk;exact hjun
    ·rw[getD_set_ne true hjk] at hun;exact hun
   have hr':=ready_mono hr (Ne.symm hji);refine wpOp_mono (fun a' w' h3=>?_) h2
   obtain⟨hy',hs',H'⟩:=h3;have hs2:Yj cs (upB (listed.setIfInBounds j true)) w':=by
    rw[Array.setIfInBounds_comm _ _ (Ne.symm hji)] at hs';exact hback cs his _ _ hs'
   refine⟨hs2,ih (listed.setIfInBounds j true) a' w' (inv.set hj) hfree' hr' hy' hs2 ?_⟩;rw[Array.setIfInBounds_comm _ _ hji];exact H'
def Zqa (md:Region.Mode) (ops:Array Oper) (ss:List Nat):List (Nat×Nat)→Array Bool→Bool
 | [],listed=>(Region.ready md ops listed).isEmpty
 | (k,i)::l,listed =>
  (if k=0 then decide (Region.ready md ops listed=[i])
  else (Region.ready md ops listed).contains i&&Region.free md ops listed i&&(match ops[i]? with | some o=>Za3 o.op | none=>false)&&(ss.all fun s=>decide (i≠s))&&(k==1||RY.reachB md ops 4 (k-2) i)) &&
  Zqa md ops ss l (listed.setIfInBounds i true)
def Qz (P:Program) (ops:Array Oper) (cs:List (Nat×(World→Prop))) (Q:Act→World→Prop):List (Nat×Nat)→(Nat→Bool)→Act→World→Prop
 | [],_,a,w=>Q a w
 | (k,i)::l,b,a,w =>
  if k=0 then wpList P ops (fun e a' w'=>e = .normal∧Yj cs (fun s=>b s||i==s) w'∧Qz P ops cs Q l (fun s=>b s||i==s) a' w') (ops[i]?).toList a w
  else if k=1 then wpQuiet P ops (fun _=>True) (fun a'=>Qz P ops cs Q l b a' w) (ops[i]?).toList a
  else ∃ c∈cs,c.1=k-2∧wpQuiet P ops c.2 (fun a'=>Qz P ops cs Q l b a' w) (ops[i]?).toList a
theorem Yj.congr_on:∀ {cs:List (Nat×(World→Prop))} {b b':Nat→Bool} {w:World},(∀ c∈cs,b c.1=b' c.1)→Yj cs b w→Yj cs b' w
 | [],_,_,_,_,_=>trivial
 | c::cs,b,b',w,hb,h=>⟨h.1.imp (fun h1=>by rw[← hb c (List.mem_cons_self ..)];exact h1) id,Yj.congr_on (fun d hd=>hb d (List.mem_cons_of_mem _ hd)) h.2⟩
theorem Zfo{Q:Act→World→Prop}(hsel:Region.noSelect ops=true):
  ∀ (l:List (Nat×Nat)) (b:Nat→Bool) (listed:Array Bool) (a:Act) (w:World),(∀ c∈cs,b c.1=upB listed c.1)→RY.RInv md ops listed→Yj cs (upB listed) w→Zqa md ops (cs.map Prod.fst) l listed=true →
   Qz P ops cs Q l b a w→Zrd P md ops cs Q l.length listed a w
 | [],b,listed,a,w,_,_,_,hB,h=>⟨by simpa [Zqa] using hB,h⟩
 | (k,i)::l,b,listed,a,w,hb,inv,hs,hB,h=>by
  simp only[Zqa,Bool.and_eq_true] at hB;obtain⟨hB1,hB2⟩:=hB
  by_cases hk:k=0
  ·subst hk;simp only[if_true,decide_eq_true_eq] at hB1;have hr:i∈Region.ready md ops listed:=by rw[hB1];exact List.mem_singleton.2 rfl
   obtain⟨hun,o,ho,_⟩:=mem_ready.1 hr;have hlt:i<listed.size:=by rw[inv.size];exact(Array.getElem?_eq_some_iff.1 ho).1
   have hgs:∀ c∈cs,(b c.1||i==c.1)=upB (listed.setIfInBounds i true) c.1:=fun c hc=>by
    rw[hb c hc];unfold upB
    by_cases his:i=c.1
    ·rw[his] at hlt ⊢;simp[hlt]
    ·rw[getD_set_ne false his];simp[his]
   refine⟨by rw[hB1];simp,fun j hj=>?_⟩
   rw[hB1] at hj;obtain rfl:=List.mem_singleton.1 hj;simp only[Qz,if_true,ho,Option.toList] at h;have h2:wpOp P ops (fun e a' w'=>e = .normal∧Yj cs (fun s=>b s||j==s) w'∧Qz P ops cs Q l (fun s=>b s||j==s) a' w') j (fun a' w'=>Yj cs (fun s=>b s||j==s) w'∧Qz P ops cs Q l (fun s=>b s||j==s) a' w') a w:=by
    unfold wpOp;simp only[ho];simp only[wpList,true_and] at h;exact h
   have h3:=RY.wpOp_strong (fun e a' w' hq=>hq.1) h2
   refine wpOp_mono (fun a' w' h4=>?_) h3
   have hs2:Yj cs (upB (listed.setIfInBounds j true)) w':=h4.1.congr_on hgs;exact⟨hs2,Zfo hsel l _ _ a' w' hgs (inv.set hr) hs2 hB2 h4.2⟩
  ·rw[if_neg hk] at hB1;simp only[Bool.and_eq_true,Bool.or_eq_true,beq_iff_eq,List.all_eq_true,decide_eq_true_eq] at hB1;obtain⟨⟨⟨⟨hr,hf⟩,hne⟩,his⟩,hw⟩:=hB1;have hr':i∈Region.ready md ops listed:=by simpa using hr
   obtain⟨_,o,ho,_⟩:=mem_ready.1 hr';have hne':Za3 o.op=true:=by rw[ho] at hne;exact hne
   have his':∀ c∈cs,i≠c.1:=fun c hc=>his c.1 (List.mem_map.2 ⟨c,hc,rfl⟩)
   have hs2:Yj cs (upB (listed.setIfInBounds i true)) w:=hs.mono (fun s hs=>getD_set_true hs)
   simp only[Qz,if_neg hk] at h;have hread:∃ v,Za P ops md cs i o v a∧Qz P ops cs Q l b (a.put o.dst v) w:=by
    by_cases h2:k=1
    ·rw[if_pos h2] at h;obtain⟨v,hy,hK⟩:=yieldsIn_of_qOp ho (RY.qOp_of_list ho h);exact⟨v,.inr hy,hK⟩
    ·rw[if_neg h2] at h;obtain⟨c,hc,hck,h⟩:=h;obtain⟨v,hy,hK⟩:=yieldsIn_of_qOp ho (RY.qOp_of_list ho h);exact⟨v,.inl ⟨c,hc,by rw[hck];exact hw.resolve_left h2,hy⟩,hK⟩
   obtain⟨v,hy,hK⟩:=hread;have hb2:∀ c∈cs,b c.1=upB (listed.setIfInBounds i true) c.1:=fun c hc=>by
    rw[hb c hc];unfold upB;rw[getD_set_ne false (his' c hc)]
   exact Zn0 ho his' hne' (Region.noSelect_spec hsel) l.length listed a w inv (Region.free_spec ho hf) hr' hy hs
    (Zfo hsel l b _ _ w hb2 (inv.set hr') hs2 hB2 hK)
theorem Zzm{ord:List (Nat×Nat)}{l:List Oper}{a:Act}{w:World}{Q:Act→World→Prop}(hsel:Region.noSelect l.toArray=true)(hord:Zqa .any l.toArray (cs.map Prod.fst) ord (Array.replicate l.length false)=true)
  (hC:Yj cs (fun _=>false) w) (h:Qz P l.toArray cs Q ord (fun _=>false) a w):Zrd P .any l.toArray cs Q ord.length (Array.replicate l.length false) a w:=by
 have hf:∀ s,upB (Array.replicate l.length false) s=false:=fun s=>getD_replicate_false _ _
 refine Zfo hsel ord _ _ a w (fun c _=>(hf c.1).symm) ⟨by simp,fun j oj _ hl=>(by rw[getD_replicate_false] at hl;cases hl)⟩ (hC.congr_on (fun c _=>(hf c.1).symm)) hord h
theorem Zhz{i l0 n:Nat}{a:Act}{w:World}{K K':Act→World→Prop}{Q':Exit→Act→World→Prop}(hnd:∀ o c,ops[i]?=some o→o.op ≠ .defer c)(_hnr:∀ o c,ops[i]?=some o→o.op ≠ .go c)(hk:∀ a w,K a w→K' a w)
  (h:wpOp P ops (fun _ _ _=>False) i K a w):wpOpIn (Fence.wide.inRound l0) n P ops Q' i K' a w:=by
 unfold wpOp at h;unfold wpOpIn;split
 ·rename_i ho;simp only[ho] at h;exact hk _ _ h
 ·rename_i o ho
  simp only[ho] at h;split
  ·rename_i hw
   simp only[hw,if_true] at h;rcases h with h|⟨_,_,_,hf⟩
   ·refine⟨fun _ _=>trivial,?_⟩
    unfold Oper.wp at h;rw[show (Fence.wide.inRound l0).round=some l0 from rfl,Oper.semAt_some l0 _ _ (fun c=>hnd o c ho)]
    generalize (execOp a.eval o).run P w=r at *
    cases r with
    | ok x w' =>
     cases x<;>simp only[Oper.upon,Oper.uponIn] at h ⊢
     case value=>exact hk _ _ h
     case skip=>exact hk _ _ h
     case defer=>exact hk _ _ h
     case enter f args =>
      refine⟨fun hd=>(by cases hd),?_⟩
      have h2:=Calls.mono h (R':=fun e w''=>match e,w'' with
       | .returned v,w''=>K' (a.put o.dst v) w''
       | .panicked chain,w''=>Q' (.panic chain) a w''
       | .outgrown,_=>LetsOut Q') (fun e w'' he=>by cases e<;>first | exact hk _ _ he | exact he.elim | (obtain⟨_,_,hf⟩:=he;exact hf.elim))
      exact CallsIn.inRound l0 (callsIn_wide.2 h2)
     case row row args=>exact⟨fun hd=>(by cases hd),fun c cs _=>let ⟨v,w',r,s⟩:=h c cs;⟨v,w',hk _ _ r,stepsIn_wide.2 s⟩⟩
    | halt x w'=>cases x<;>simp only[Oper.upon] at h<;>exact h.elim
   ·exact hf.elim
  ·rename_i hw;simp only[hw] at h;exact⟨fun _ _=>trivial,hk _ _ h⟩
def Zjv (ops:Array Oper):Bool:=ops.all fun o=>match o.op with | .defer _ | .go _=>false | _=>true
theorem Zec{ops:Array Oper}(h:Zjv ops=true){i:Nat}{o:Oper}(hi:ops[i]?=some o):(∀ c,o.op ≠ .defer c)∧(∀ c,o.op ≠ .go c):=by
 have hm:o∈ops:=Array.mem_of_getElem? hi;have:=Array.all_eq_true'.1 h o hm
 refine⟨fun c hc=>?_,fun c hc=>?_⟩<;>rw[hc] at this<;>cases this
theorem Zhs{l0 n:Nat}{Q:Act→World→Prop}{Q':Exit→Act→World→Prop}(hpl:Zjv ops=true)(hQ:∀ a w,Q a w→Q' .normal a w):
  ∀ (f:Nat) (listed:Array Bool) (a:Act) (w:World),Zrd P md ops cs Q f listed a w→wpAnyIn (Fence.wide.inRound l0) n P md ops Q' f listed a w
 | 0,_,_,_,h=>⟨h.1,hQ _ _ h.2⟩
 | f+1,_,_,_,h=>⟨fun h0=>absurd h0 h.1,fun i hi=>Zhz (fun _ c ho=>(Zec hpl ho).1 c) (fun _ c ho=>(Zec hpl ho).2 c) (fun a' w' h'=>Zhs hpl hQ f _ a' w' h'.2) (h.2 i hi)⟩
theorem Kt{id l0 n:Nat}{Q:Exit→Act→World→Prop}{a:Act}{w:World}{l:List Oper}(ord:List (Nat×Nat))(cs:List (Nat×(World→Prop)))(hm:P.follows .mixedOrders=true)
  (hB:(Region.noSelect l.toArray&&decide (ord.length=l.length)&&Zjv l.toArray&&Zqa .any l.toArray (cs.map Prod.fst) ord (Array.replicate l.length false))=true)
  (hC:Yj cs (fun _=>false) { w with drawn:=w.drawn+1 }) (h:Qz P l.toArray cs (fun a' w'=>Q .normal a' w') ord (fun _=>false) a { w with drawn:=w.drawn+1 }):(Code.region id l.toArray true).wpIn (Fence.wide.inRound l0) n P Q a w:=by
 simp only[Bool.and_eq_true,decide_eq_true_eq] at hB;obtain⟨⟨⟨hsel,hlen⟩,hpl⟩,hord⟩:=hB;refine wpIn_region_any hm ?_;have:=Zhs (l0:=l0) (n:=n) (Q':=Q) hpl (fun a w h=>h) _ _ _ _ (Zzm hsel hord hC h)
 rw[hlen] at this
 simpa using this
theorem Ko{s i:Nat}{Q:Act→World→Prop}{l:List (Nat×Nat)}{b:Nat→Bool}{a:Act}{w:World}{lo:List Oper}(c:Nat×(World→Prop))(hc:c∈cs)(hs:c.1=s)(h:wpQuiet P lo.toArray c.2 (fun a'=>Qz P lo.toArray cs Q l b a' w) ((lo.drop i).take 1) a):Qz P lo.toArray cs Q ((s+2,i)::l) b a w:=by
 simp only[Qz,RY.pick_one];rw[if_neg (by omega),if_neg (by omega)]
 exact⟨c,hc,by omega,h⟩
theorem Qa{i:Nat}{Q:Act→World→Prop}{l:List (Nat×Nat)}{b:Nat→Bool}{a:Act}{w:World}{lo:List Oper}(h:wpQuiet P lo.toArray (fun _=>True) (fun a'=>Qz P lo.toArray cs Q l b a' w) ((lo.drop i).take 1) a):Qz P lo.toArray cs Q ((1,i)::l) b a w:=by
 simp only[Qz,RY.pick_one];exact h
theorem Kj{i:Nat}{Q:Act→World→Prop}{l:List (Nat×Nat)}{b:Nat→Bool}{a:Act}{w:World}{lo:List Oper}
  (h:wpList P lo.toArray (fun e a' w'=>e = .normal∧Yj cs (fun s=>b s||i==s) w'∧Qz P lo.toArray cs Q l (fun s=>b s||i==s) a' w') ((lo.drop i).take 1) a w):Qz P lo.toArray cs Q ((0,i)::l) b a w:=by
 simp only[Qz,RY.pick_one];exact h
end
end Go.Proofs.YtbielfplgbammaaGreatDoor

namespace Go.Proofs.YtbielfplgbammaaGreatDoor
open Go.RowKit Go.Shelf
attribute [local go_sem] Oper.semAt_some
def lgA (p:Int):Int:=match Ze p.toNat 62 26 with
 | some s=>s.2.2
 | none=>0
def lgB (p:Int):Int:=if p=2 then lgA p else lgA p+1
def okT (most:Int) (x:Int×Int):Prop:=(-most≤x.2∧x.2≤most)∧(Ze x.1.toNat 62 26).isSome=true
instance (most:Int) (x:Int×Int):Decidable (okT most x):=by unfold okT;infer_instance
def Zf0 (tl:List (Int×Int)):Int:=(tl.map fun x=>min (x.2*lgA x.1) (x.2*lgB x.1)).sum
def Zae (tl:List (Int×Int)):Int:=(tl.map fun x=>max (x.2*lgA x.1) (x.2*lgB x.1)).sum
structure Vu (p:Addr) (v:Value) where
 w:World
 h:w.cell? p=some v
def Zh4 (most:Int) (tl:List (Int×Int)):Value :=
 if ∀ x∈tl,okT most x then .tuple #[.int .i64 (Zf0 tl),.int .i64 (Zae tl),.bool true] else .tuple #[.int .i64 0,.int .i64 0,.bool false]
theorem Qj{W W':World}(h:Below W.heap.size W W'):KeepsOthers W W' :=
 ⟨h.size,fun k _ hk _=>(h.block k (Array.getElem?_eq_some_iff.1 hk).1).trans hk⟩
theorem Kp{w:World}{g:Nat}{a:Value}{t:TypeId}(h:w.heap[g]?=some (.cells #[a] t (0,0))):w.cell? ⟨g,0,none⟩=some a∧w.frozen? ⟨g,0,none⟩=false :=
 ⟨by rw[cell_of_row w g 0 _ t (0,0) h];rfl,by simp[World.frozen?,h]⟩
theorem Ks{w:World}{g:Nat}{o:Obj}(h:w.heap[g]?=some o)(o':Obj):(w.alloc o').heap[g]?=some o:=by
 exact(Below.heap_alloc w o' g (Array.getElem?_eq_some_iff.1 h).1).trans h
theorem Kq(w:World)(c:Array Value)(t:TypeId)(k:Nat)(hk:w.heap.size=k):(w.alloc (.cells c t)).heap[k]?=some (.cells c t (0,0)):=by
 subst hk;exact Go.heap_alloc_new w _
theorem Qaq(w:World)(o1:Obj)(v2 v3 v4 v5:Value)(t2 t3 t4 t5:TypeId)(W:World)(hW:((((w.alloc o1).alloc (.cells #[v2] t2)).alloc (.cells #[v3] t3)).alloc (.cells #[v4] t4)).alloc (.cells #[v5] t5)=W):
  W.heap[w.heap.size+1]?=some (.cells #[v2] t2 (0,0))∧W.heap[w.heap.size+1+1]?=some (.cells #[v3] t3 (0,0))∧W.heap[w.heap.size+1+1+1]?=some (.cells #[v4] t4 (0,0))∧W.heap[w.heap.size+1+1+1+1]?=some (.cells #[v5] t5 (0,0)):=by
 subst hW;refine⟨Ks (Ks (Ks (Kq _ _ _ _ (by simp)) _) _) _,Ks (Ks (Kq _ _ _ _ (by simp)) _) _,Ks (Kq _ _ _ _ (by simp)) _,Kq _ _ _ _ (by simp)⟩
structure Zdz (B:Nat) (most:Int) (l:List (Int×Int)) (W:World):Prop where
 c3:W.cell? ⟨B+1,0,none⟩=some (.int .i64 most)
 c4:W.cell? ⟨B+1+1,0,none⟩=some (.int .i64 (Zf0 l))
 c5:W.cell? ⟨B+1+1+1,0,none⟩=some (.int .i64 (Zae l))
 c6:W.cell? ⟨B+1+1+1+1,0,none⟩=some (.bool false)
 f4:W.frozen? ⟨B+1+1,0,none⟩=false
 f5:W.frozen? ⟨B+1+1+1,0,none⟩=false
 f6:W.frozen? ⟨B+1+1+1+1,0,none⟩=false
 sz:B+5<W.heap.size
 ok:∀ x∈l,okT most x
structure Zuh (B:Nat) (W:World):Prop where
 c4:W.cell? ⟨B+1+1,0,none⟩=some (.int .i64 0)
 c5:W.cell? ⟨B+1+1+1,0,none⟩=some (.int .i64 0)
 c6:W.cell? ⟨B+1+1+1+1,0,none⟩=some (.bool false)
theorem Zdz.below{B:Nat}{most:Int}{l:List (Int×Int)}{W W':World}(h:Zdz B most l W)(hb:Below W.heap.size W W'):Zdz B most l W' :=
 ⟨(hb.cell (block_lt_of_cell h.c3)).trans h.c3,(hb.cell (block_lt_of_cell h.c4)).trans h.c4,(hb.cell (block_lt_of_cell h.c5)).trans h.c5,(hb.cell (block_lt_of_cell h.c6)).trans h.c6,
  (hb.frozen (block_lt_of_cell h.c4)).trans h.f4,(hb.frozen (block_lt_of_cell h.c5)).trans h.f5,(hb.frozen (block_lt_of_cell h.c6)).trans h.f6,Nat.lt_of_lt_of_le h.sz hb.size,h.ok⟩
theorem Zdz.kept{B:Nat}{most:Int}{l:List (Int×Int)}{W W':World}{row:Option Nat}(h:Zdz B most l W)(hg:W.grownBy W' row)(hr:∀ r,row=some r→∃ o:Obj,W.heap[r]?=some o∧o.isCells=false):Zdz B most l W' :=
 ⟨cell_kept h.c3 hg hr,cell_kept h.c4 hg hr,cell_kept h.c5 hg hr,cell_kept h.c6 hg hr,(frozen_kept h.c4 hg hr).trans h.f4,(frozen_kept h.c5 hg hr).trans h.f5,(frozen_kept h.c6 hg hr).trans h.f6,Nat.lt_of_lt_of_le h.sz hg.size,h.ok⟩
theorem Zuh.kept{B:Nat}{W W':World}{row:Option Nat}(h:Zuh B W)(hg:W.grownBy W' row)(hr:∀ r,row=some r→∃ o:Obj,W.heap[r]?=some o∧o.isCells=false):Zuh B W' :=
 ⟨cell_kept h.c4 hg hr,cell_kept h.c5 hg hr,cell_kept h.c6 hg hr⟩
theorem Zdz.quits{B:Nat}{most:Int}{l:List (Int×Int)}{W:World}(h:Zdz B most l W):Zuh B (((W.setCell ⟨B+1+1,0,none⟩ (.int .i64 0)).setCell ⟨B+1+1+1,0,none⟩ (.int .i64 0)).setCell ⟨B+1+1+1+1,0,none⟩ (.bool false)):=by
 refine⟨?_,?_,?_⟩
 ·rw[World.cell?_setCell_other _ _ _ _ (by simp),World.cell?_setCell_other _ _ _ _ (by simp),World.cell?_setCell_same _ _ _ h.c4]
 ·rw[World.cell?_setCell_other _ _ _ _ (by simp),World.cell?_setCell_same _ _ _ (by rw[World.cell?_setCell_other _ _ _ _ (by simp)];exact h.c5)]
 ·rw[World.cell?_setCell_same _ _ _ (by rw[World.cell?_setCell_other _ _ _ _ (by simp),World.cell?_setCell_other _ _ _ _ (by simp)];exact h.c6)]
theorem Zdz.stored{B:Nat}{most:Int}{l l':List (Int×Int)}{W:World}(h:Zdz B most l W){v5 v6:Int}(h5:Zf0 l'=v5)(h6:Zae l'=v6)(ok:∀ x∈l',okT most x):
  Zdz B most l' ((W.setCell ⟨B+1+1,0,none⟩ (.int .i64 v5)).setCell ⟨B+1+1+1,0,none⟩ (.int .i64 v6)):=by
 refine⟨?_,?_,?_,?_,?_,?_,?_,?_,ok⟩
 ·rw[World.cell?_setCell_other _ _ _ _ (by simp),World.cell?_setCell_other _ _ _ _ (by simp)];exact h.c3
 ·rw[World.cell?_setCell_other _ _ _ _ (by simp),World.cell?_setCell_same _ _ _ h.c4,h5]
 ·rw[World.cell?_setCell_same _ _ _ (by rw[World.cell?_setCell_other _ _ _ _ (by simp)];exact h.c5),h6]
 ·rw[World.cell?_setCell_other _ _ _ _ (by simp),World.cell?_setCell_other _ _ _ _ (by simp)];exact h.c6
 ·rw[World.frozen?_setCell,World.frozen?_setCell];exact h.f4
 ·rw[World.frozen?_setCell,World.frozen?_setCell];exact h.f5
 ·rw[World.frozen?_setCell,World.frozen?_setCell];exact h.f6
 ·have:=h.sz;simpa using this
theorem Zst{B:Nat}{W0 W W4:World}(hB:W0.heap.size=B)(hb:Below W0.heap.size W0 W)(hsz:B+5<W.heap.size)(h:Below W.heap.size W W4)(v5 v6:Value):
  KT B (B+5) W ((W4.setCell ⟨B+1+1,0,none⟩ v5).setCell ⟨B+1+1+1,0,none⟩ v6):=by
 subst hB;refine⟨((h.mono hb.size).setCell (p:=⟨W0.heap.size+1+1,0,none⟩) (by show _≤W0.heap.size+1+1;omega) _).setCell (p:=⟨W0.heap.size+1+1+1,0,none⟩) (by show _≤W0.heap.size+1+1+1;omega) _,?_⟩
 rw[Zau (g:=W0.heap.size+1+1+1) (k:=W0.heap.size+5) (by omega),Zau (g:=W0.heap.size+1+1) (k:=W0.heap.size+5) (by omega),h.block _ hsz]
theorem Zan{W0 W:World}(hb:Below W0.heap.size W0 W)(v5 v6:Value):Below W0.heap.size W0 ((W.setCell ⟨W0.heap.size+1+1,0,none⟩ v5).setCell ⟨W0.heap.size+1+1+1,0,none⟩ v6) :=
 (hb.setCell (p:=⟨W0.heap.size+1+1,0,none⟩) (by show _≤W0.heap.size+1+1;omega) _).setCell (p:=⟨W0.heap.size+1+1+1,0,none⟩) (by show _≤W0.heap.size+1+1+1;omega) _
def Zm7 (w:World) (b1 b2:Option Addr) (d1 d2 D m:Nat) (most:Int) (p:Int) (k:ByteArray):Act:={ tmps := #[.agg (Qe b1 d1 b2 d2 m D),.int .i64 most,.pointer (some ⟨w.heap.size,0,none⟩),.pointer (some ⟨w.heap.size+1,0,none⟩),.pointer (some ⟨w.heap.size+1+1,0,none⟩),.pointer (some ⟨w.heap.size+1+1+1,0,none⟩),.pointer (some ⟨w.heap.size+1+1+1+1,0,none⟩),.int .i64 p,.string k,undef,undef,undef,undef,undef,.agg #[.slice b1 m d1,.slice b2 m d2,.string (dec D)],.func (.func 282) #[] #[.pointer (some ⟨w.heap.size+1+1+1+1+1,0,none⟩)],.int .i64 p,.string k,undef,undef,undef,undef,undef,undef,undef,undef,undef,undef,undef,undef,undef,undef,undef,undef,undef,undef,undef,undef,undef,undef,undef,undef,undef,undef,undef,undef,undef,undef,undef,undef,undef,undef,undef,undef,undef,undef,undef,undef,undef,undef,undef,undef,undef,undef,undef,undef,undef,undef],defers:=[] }
theorem Zs2(l:List (Int×Int))(x:Int×Int):Zf0 (l++[x])=Zf0 l+min (x.2*lgA x.1) (x.2*lgB x.1):=by simp[Zf0]
theorem Zqo(l:List (Int×Int))(x:Int×Int):Zae (l++[x])=Zae l+max (x.2*lgA x.1) (x.2*lgB x.1):=by simp[Zae]
theorem Zz1(p:Int)(h1:2≤p)(h2:p≤97):0≤lgA p∧lgA p≤469762048:=by
 unfold lgA;cases hq:Ze p.toNat 62 26 with
 | none=>exact⟨Int.le_refl _,by decide⟩
 | some s =>
  have hfit:=(Zen p.toNat (by omega) (by omega) 26 s hq).out
  have:(2:Nat)^26=67108864:=rfl
  simp only;omega
theorem Zsh{k a:Int}(hk : -10000000≤k∧k≤10000000)(ha:0≤a∧a≤469762049): -4697620490000000≤k*a∧k*a≤4697620490000000:=by
 have h:(k*a).natAbs≤10000000*469762049:=by rw[Int.natAbs_mul];exact Nat.mul_le_mul (by omega) (by omega)
 omega
theorem Zru{most:Int}(hm:most≤10000000){x:Int×Int}(hx:okT most x)(hp:2≤x.1∧x.1≤97):
  (-4697620490000000≤x.2*lgA x.1∧x.2*lgA x.1≤4697620490000000)∧(-4697620490000000≤x.2*lgB x.1∧x.2*lgB x.1≤4697620490000000):=by
 have ha:=Zz1 x.1 hp.1 hp.2;have hk:=hx.1;refine⟨Zsh (by omega) (by omega),Zsh (by omega) ?_⟩
 unfold lgB;split<;>omega
theorem Zrz{most:Int}(hm:most≤10000000):∀ (l:List (Int×Int)),(∀ x∈l,okT most x∧2≤x.1∧x.1≤97) →
  (-((l.length:Int)*4697620490000000)≤Zf0 l∧Zf0 l≤(l.length:Int)*4697620490000000)∧(-((l.length:Int)*4697620490000000)≤Zae l∧Zae l≤(l.length:Int)*4697620490000000)
 | [],_=>⟨⟨Int.le_refl _,Int.le_refl _⟩,⟨Int.le_refl _,Int.le_refl _⟩⟩
 | x::l,h=>by
  have ih:=Zrz hm l (fun y hy=>h y (List.mem_cons_of_mem _ hy))
  have hx:=h x (List.mem_cons_self ..);have ht:=Zru hm hx.1 hx.2;have e1:Zf0 (x::l)=min (x.2*lgA x.1) (x.2*lgB x.1)+Zf0 l:=by simp[Zf0]
  have e2:Zae (x::l)=max (x.2*lgA x.1) (x.2*lgB x.1)+Zae l:=by simp[Zae]
  rw[e1,e2,List.length_cons];omega
theorem Zvc(w:World)(b1 b2:Option Addr)(d1 d2 D:Nat)(tl:List (Int×Int))(most:Int)(hm0:0≤most)(hm:most≤10000000)(hl:tl.length≤1000)
  (hr1:Rd w b1 (Qw (tl.map Prod.fst))) (hr2:Rd w b2 (Zrg (tl.map fun x=>itx x.2))) (hp:∀ x∈tl,2≤x.1∧x.1≤97) (hz:∀ x∈tl,Zdf x.2) (L:Qx w) :
  Kc Tryz.prog 230 #[.agg (Qe b1 d1 b2 d2 tl.length D),.int .i64 most] w (Zh4 most tl):=by
 unfold Kc;refine(callsIn_wide (n:=3)).1 ?_;refine callsIn_of_wp_marks Tryz.func230 rfl trivial ?_ rfl;simp only[Tryz.ntmps230,List.size_toArray,List.length_cons,List.length_nil,Nat.reduceAdd,Nat.reduceSub,Array.replicate_succ,Array.replicate_zero,List.push_toArray,List.append_toArray,List.nil_append,List.cons_append];have Hsz:Hid (∀ x∈tl,∀ W,Below w.heap.size w W→Kc Tryz.prog 179 #[.string (itx x.2)] W (if -9223372036854775808≤x.2∧x.2≤9223372036854775807 then .tuple #[.int .i64 x.2,.bool true] else .tuple #[.int .i64 0,.bool false])):=fun x hx W hW=>Zpx W x.2 (hz x hx) (L.below hW)
 have Hfa:Hid (∀ x∈tl,∀ W,Kc Tryz.prog 281 #[.int .i64 x.1] W (Zhb x.1.toNat)):=fun x hx W=>by
  have h1:=hp x hx;obtain⟨q,hq⟩:=Int.eq_ofNat_of_zero_le (show 0≤x.1 by omega)
  have:=Zvz W q (by omega) (by omega)
  rw[hq];exact this
 clear L hz
 gi_wp2_with fail
 obtain⟨w0,hw0⟩:∃ w0,((((w.alloc (Obj.cells (Qe b1 d1 b2 d2 tl.length D) 146)).alloc (Obj.cells #[Value.int IntKind.i64 most] 3)).alloc (Obj.cells #[Value.int IntKind.i64 0] 3)).alloc (Obj.cells #[Value.int IntKind.i64 0] 3)).alloc (Obj.cells #[Value.bool false] 4)=w0:=⟨_,rfl⟩;have hsz0:w0.heap.size=w.heap.size+5:=by rw[← hw0];simp
 have hB0:Below w.heap.size w w0:=by rw[← hw0];exact(((((Below.refl _ w).alloc nr_ _).alloc (by simp) _).alloc (by simp;omega) _).alloc (by simp;omega) _).alloc (by simp;omega) _
 have hbox:=Qaq w _ _ _ _ _ _ _ _ _ w0 hw0;rw[hw0];refine⟨trivial,?_⟩;refine(callsIn_wide.2 (Zue w0 b1 b2 d1 d2 tl.length D)).mono ?_;rintro e w' ⟨rfl,rfl⟩;rw[hsz0];have hB5:(w0.alloc (.cells (Qe b1 d1 b2 d2 tl.length D) 146)).heap[w.heap.size+5]?=some (.cells (Qe b1 d1 b2 d2 tl.length D) 146 (0,0)):=by
  rw[← hsz0];exact Go.heap_alloc_new w0 _
 have hB1:Below w.heap.size w (w0.alloc (.cells (Qe b1 d1 b2 d2 tl.length D) 146)):=hB0.alloc (by omega) _
 have hsz1:(w0.alloc (.cells (Qe b1 d1 b2 d2 tl.length D) 146)).heap.size=w.heap.size+6:=by rw[World.size_alloc,hsz0]
 have hI1:Zdz w.heap.size most [] (w0.alloc (.cells (Qe b1 d1 b2 d2 tl.length D) 146)):=by
  obtain⟨h1,h2,h3,h4⟩:=hbox;have h1:=Ks h1 (.cells (Qe b1 d1 b2 d2 tl.length D) 146);have h2:=Ks h2 (.cells (Qe b1 d1 b2 d2 tl.length D) 146);have h3:=Ks h3 (.cells (Qe b1 d1 b2 d2 tl.length D) 146);have h4:=Ks h4 (.cells (Qe b1 d1 b2 d2 tl.length D) 146);exact⟨(Kp h1).1,(Kp h2).1,(Kp h3).1,(Kp h4).1,(Kp h2).2,(Kp h3).2,(Kp h4).2,by rw[hsz1];omega,fun x hx=>by cases hx⟩
 clear hB0 hw0 hbox;generalize w0.alloc (.cells (Qe b1 d1 b2 d2 tl.length D) 146)=w1 at *
 gi_wp2_with fail
 refine wpIn_rangeFunc_ownF rfl (by decide) (gf:=282) (lb := #[.pointer (some ⟨w.heap.size+5,0,none⟩)]) rfl trivial (enters_of Tryz.func282 (by kernel_rfl) rfl)
  (Zmg 2 (by decide) w w1 hB1 (w.heap.size+5) b1 b2 d1 d2 D tl hl hB5 hr1 hr2) Qbt (Qbu (by rw[hsz1];omega) (by rw[hsz1];omega)) (Below.refl _ _) (fun _=>rfl)
  (fun pre W=>Zdz w.heap.size most (pre.map Subtype.val) W∧Below w.heap.size w W)
  (fun c pre W=>(c = .ret∧(∃ x∈tl,¬ okT most x)∧Zuh w.heap.size W)∧Below w.heap.size w W)
  (OwnFrom.and (Own.from (fun s A B row hs hg hr=>hs.kept hg hr) _) (ownFrom_below nr_ (by rw[hsz1];omega)))
  (fun c=>OwnFrom.and (Own.from (fun s A B row hs hg hr=>⟨hs.1,hs.2.1,hs.2.2.kept hg hr⟩) _) (ownFrom_below nr_ (by rw[hsz1];omega)))
  ⟨hI1,hB1⟩
  (fun x=>Zm7 w b1 b2 d1 d2 D tl.length most x.1.1 (itx x.1.2)) ?assign ?body ?done ?stop
 case assign =>
  intro l x W K hK;unfold Zm7 at hK
  gi_wp2
  exact hK
 case body =>
  rintro l pre ⟨⟨p,k⟩,hmem⟩ W ⟨hI,hB⟩ hlen;have HI:=hd_ hI;have HB:=hd_ hB;have hpp:=hp _ hmem;have hsm:=Hsz.out _ hmem W hB;have hfa:=Hfa.out _ hmem;simp only at hpp hsm hfa;have Hmem:=hd_ hmem;unfold Zm7;clear hI hB hr1 hr2 hI1 hB1 hB5;have hc3:=HI.out.c3;have hc4:=HI.out.c4;have hc5:=HI.out.c5;have hc6:=HI.out.c6;have hf4:=HI.out.f4;have hf5:=HI.out.f5;have hf6:=HI.out.f6
  by_cases hk64 : -9223372036854775808≤k∧k≤9223372036854775807
  ·rw[if_pos hk64] at hsm;have hneg:IntKind.i64.wrap (-most) = -most:=iw_ _ (by omega)
   by_cases hk1:k≤most
   ·by_cases hk2 : -most≤k
    ·have hfa2:∀ W,Kc Tryz.prog 281 #[.int .i64 p] W (Zhb p.toNat):=hfa
     by_cases hd:(Ze p.toNat 62 26).isSome=true
     ·obtain⟨ds,hds⟩:=Option.isSome_iff_exists.1 hd;have Hds:=hd_ hds;have Hok:Hid (okT most (p,k)):=⟨⟨hk2,hk1⟩,hd⟩;have hfv:Zhb p.toNat = .tuple #[.int .i64 ds.2.2,.bool true]:=by unfold Zhb;rw[hds]
      rw[hfv] at hfa2;have Hlg:Hid (lgA p=(ds.2.2:Int)):=by show _=_;unfold lgA;rw[hds]
      have hfit:=(Zen p.toNat (by omega) (by omega) 26 ds hds).out
      have hout:ds.2.2≤469762048:=by have:(2:Nat)^26=67108864:=rfl;omega
      have hpl:(pre.map Subtype.val).length≤1000:=by rw[List.length_map];omega
      have hso:=Zrz hm (pre.map Subtype.val) (fun x hx=>⟨HI.out.ok x hx,by
       obtain⟨y,_,rfl⟩:=List.mem_map.1 hx;exact hp _ y.2⟩)
      have hterm:=Zru hm Hok.out hpp;simp only at hterm;have Hsn1:Hid (Zf0 ((pre++[(⟨(p,k),hmem⟩:{x // x∈tl})]).map Subtype.val)=Zf0 (pre.map Subtype.val)+min (k*lgA p) (k*lgB p)):=by
       show _=_
       rw[List.map_append];exact Zs2 _ _
      have Hsn2:Hid (Zae ((pre++[(⟨(p,k),hmem⟩:{x // x∈tl})]).map Subtype.val)=Zae (pre.map Subtype.val)+max (k*lgA p) (k*lgB p)):=by
       show _=_
       rw[List.map_append];exact Zqo _ _
      have Hall:Hid (∀ x∈(pre++[(⟨(p,k),hmem⟩:{x // x∈tl})]).map Subtype.val,okT most x):=fun x hx=>by
       rw[List.map_append] at hx;rcases List.mem_append.1 hx with h|h
       ·exact HI.out.ok x h
       ·obtain rfl:=List.mem_singleton.1 h;exact Hok.out
      have hlB:lgB p=if p=2 then (ds.2.2:Int) else (ds.2.2:Int)+1:=by unfold lgB;rw[Hlg.out]
      rw[Hlg.out] at hterm;rw[Hlg.out] at Hsn1 Hsn2;have hk1':¬ most<k:=by omega
      have hk2':¬ k < -most:=by omega
      have hwb:IntKind.i64.wrap ((ds.2.2:Int)+1)=(ds.2.2:Int)+1:=iw_ _ (by omega)
      clear hd hds hfv hfit hfa hlen hk64
      by_cases hp2:p=2
      ·rw[if_pos hp2] at hlB;subst hp2;rw[hlB] at hterm Hsn1 Hsn2;rw[Int.min_self] at Hsn1;rw[Int.max_self] at Hsn2;have hw1:IntKind.i64.wrap (k*(ds.2.2:Int))=k*(ds.2.2:Int):=iw_ _ (by omega)
       clear hlB;generalize (ds.2.2:Int)=A at *
       obtain⟨lo,hlo⟩:∃ lo,Zf0 (pre.map Subtype.val)=lo:=⟨_,rfl⟩;obtain⟨hi,hhi⟩:∃ hi,Zae (pre.map Subtype.val)=hi:=⟨_,rfl⟩;rw[hlo] at hso Hsn1;rw[hhi] at hso Hsn2;have Hlo:=hd_ hlo;have Hhi:=hd_ hhi;clear hlo hhi;have hw3:IntKind.i64.wrap (lo+k*A)=lo+k*A:=iw_ _ (by omega)
       have hw4':IntKind.i64.wrap (hi+k*A)=hi+k*A:=iw_ _ (by omega)
       have Hterm:=hd_ hterm;have Hso:=hd_ hso
       gi_wp2_with fail
       refine⟨trivial,?_⟩;refine(CallsIn.inRound l (callsIn_wide.2 hsm)).mono ?_;rintro e w2 ⟨rfl,hb2⟩;have HI2:=hd_ (HI.out.below hb2);have HB2:=hd_ (HB.out.trans (hb2.mono HB.out.size));have Hk2:=hd_ (hb2);have hc3:=HI2.out.c3;have hc4:=HI2.out.c4;have hc5:=HI2.out.c5;have hc6:=HI2.out.c6;have hf4:=HI2.out.f4;have hf5:=HI2.out.f5;have hf6:=HI2.out.f6;clear hsm hb2
       gi_wp2_with fail
       refine⟨trivial,?_⟩;refine(CallsIn.inRound l (callsIn_wide.2 (hfa2 w2))).mono ?_;rintro e w3 ⟨rfl,hb3⟩;have HI3:=hd_ (HI2.out.below hb3);have HB3:=hd_ (HB2.out.trans (hb3.mono HB2.out.size));have Hk3:=hd_ (Hk2.out.trans (hb3.mono Hk2.out.size));have hc3:=HI3.out.c3;have hc4:=HI3.out.c4;have hc5:=HI3.out.c5;have hc6:=HI3.out.c6;have hf4:=HI3.out.f4;have hf5:=HI3.out.f5;have hf6:=HI3.out.f6;clear hfa2 hb3
       gi_wp2_with fail
       have q0:=@Vu.h;have q9:Nonempty (Vu ⟨w.heap.size+1+1,0,none⟩ (.int .i64 lo)):=⟨⟨w3,by rw[HI3.out.c4,Hlo.out]⟩⟩
       have q8:Nonempty (Vu ⟨w.heap.size+1+1+1,0,none⟩ (.int .i64 hi)):=⟨⟨w3,by rw[HI3.out.c5,Hhi.out]⟩⟩
       refine Kt [(20,0),(1,1),(1,2),(1,3),(1,4),(1,5),(1,6),(1,7),(1,8),(21,9),(1,10),(1,11),(1,12),(1,13),(1,14),(1,15),(1,16),(1,17),(0,18),(0,19)]
        [(18,fun w'=>∃ p:Vu ⟨w.heap.size+1+1,0,none⟩ (.int .i64 lo),w'=p.w),(19,fun w'=>∃ p:Vu ⟨w.heap.size+1+1+1,0,none⟩ (.int .i64 hi),w'=p.w)]
        (by kernel_rfl) (by kernel_rfl) ⟨.inr ⟨⟨{ w3 with drawn:=w3.drawn+1 },HI3.out.c4.trans (by rw[Hlo.out])⟩,rfl⟩,.inr ⟨⟨{ w3 with drawn:=w3.drawn+1 },HI3.out.c5.trans (by rw[Hhi.out])⟩,rfl⟩,trivial⟩ ?_
       refine Ko (s:=18) _ (List.mem_cons_self ..) rfl ?_;simp only[dz_,Qd,tz_]
       go_big_quiet_step (fail)
       refine wpQuiet_nil ?_
       iterate 8 (refine Qa ?_;simp only[Qg,dz_,Qd,tz_];go_big_quiet_step (fail);refine wpQuiet_nil ?_)
       refine Ko (s:=19) _ (List.mem_cons_of_mem _ (List.mem_cons_self ..)) rfl ?_;simp only[Qg,dz_,Qd,tz_]
       go_big_quiet_step (fail)
       refine wpQuiet_nil ?_
       iterate 8 (refine Qa ?_;simp only[Qg,dz_,Qd,tz_];go_big_quiet_step (fail);refine wpQuiet_nil ?_)
       clear q0 q8 q9;obtain⟨w4,hw4⟩:∃ w4:World,{ heap:=w3.heap,tape:=w3.tape,drawn:=w3.drawn+1,os:=w3.os,output:=w3.output }=w4:=⟨_,rfl⟩;rw[hw4];have HI4:Hid (Zdz w.heap.size most (pre.map Subtype.val) w4):=by rw[← hw4];exact HI3.out.below ⟨rfl,rfl,rfl,Nat.le_refl _,fun _ _=>rfl⟩
       have HB4:Hid (Below w.heap.size w w4):=by rw[← hw4];exact HB3.out.trans ⟨rfl,rfl,rfl,Nat.le_refl _,fun _ _=>rfl⟩
       have Hk4:Hid (Below W.heap.size W w4):=by rw[← hw4];exact Hk3.out.trans ⟨rfl,rfl,rfl,Nat.le_refl _,fun _ _=>rfl⟩
       clear hw4 hc3 hc4 hc5 hc6 hf4 hf5 hf6;have hc4:=HI4.out.c4;have hc5:=HI4.out.c5;have hf4:=HI4.out.f4;have hf5:=HI4.out.f5;refine Kj ?_;simp only[Qg,dz_,Qd,tz_]
       go_wp2_with fail
       obtain⟨v5,hv5⟩:∃ v5:Int,lo+k*A=v5:=⟨_,rfl⟩;obtain⟨v6,hv6⟩:∃ v6:Int,hi+k*A=v6:=⟨_,rfl⟩;rw[hv5];rw[hv6];have hc52:(w4.setCell ⟨w.heap.size+1+1,0,none⟩ (.int .i64 v5)).cell? ⟨w.heap.size+1+1+1,0,none⟩=some (.int .i64 hi):=by
        rw[World.cell?_setCell_other _ _ _ _ (by simp),HI4.out.c5,Hhi.out]
       have hf52:(w4.setCell ⟨w.heap.size+1+1,0,none⟩ (.int .i64 v5)).frozen? ⟨w.heap.size+1+1+1,0,none⟩=false:=by rw[World.frozen?_setCell];exact HI4.out.f5
       refine⟨⟨.inl rfl,.inr ⟨⟨w4.setCell ⟨w.heap.size+1+1,0,none⟩ (.int .i64 v5),hc52⟩,rfl⟩,trivial⟩,?_⟩;clear hc4 hc5 hf4 hf5;refine Kj ?_;simp only[Qg,dz_,Qd,tz_]
       go_wp2_with fail
       refine⟨⟨.inl rfl,.inl rfl,trivial⟩,?_⟩;simp only[Qz];exact⟨(Qj Hk4.out).trans ((KeepsOthers.setCell _ _ _).trans (KeepsOthers.setCell _ _ _)),Zst rfl HB.out HI.out.sz Hk4.out _ _,HI4.out.stored (Hsn1.out.trans hv5) (Hsn2.out.trans hv6) Hall.out,Zan HB4.out _ _⟩
      ·rw[if_neg hp2] at hlB;rw[hlB] at hterm Hsn1 Hsn2;have hpe:(p==2)=false:=by rw[beq_eq_false_iff_ne];exact hp2
       have hw1:IntKind.i64.wrap (k*(ds.2.2:Int))=k*(ds.2.2:Int):=iw_ _ (by omega)
       have hw2:IntKind.i64.wrap (k*((ds.2.2:Int)+1))=k*((ds.2.2:Int)+1):=iw_ _ (by omega)
       clear hlB;generalize (ds.2.2:Int)=A at *
       obtain⟨lo,hlo⟩:∃ lo,Zf0 (pre.map Subtype.val)=lo:=⟨_,rfl⟩;obtain⟨hi,hhi⟩:∃ hi,Zae (pre.map Subtype.val)=hi:=⟨_,rfl⟩;rw[hlo] at hso Hsn1;rw[hhi] at hso Hsn2;have Hlo:=hd_ hlo;have Hhi:=hd_ hhi;clear hlo hhi;have hw3:IntKind.i64.wrap (lo+min (k*A) (k*(A+1)))=lo+min (k*A) (k*(A+1)):=iw_ _ (by omega)
       have hw4':IntKind.i64.wrap (hi+max (k*A) (k*(A+1)))=hi+max (k*A) (k*(A+1)):=iw_ _ (by omega)
       have Hterm:=hd_ hterm;have Hso:=hd_ hso
       gi_wp2_with fail
       refine⟨trivial,?_⟩;refine(CallsIn.inRound l (callsIn_wide.2 hsm)).mono ?_;rintro e w2 ⟨rfl,hb2⟩;have HI2:=hd_ (HI.out.below hb2);have HB2:=hd_ (HB.out.trans (hb2.mono HB.out.size));have Hk2:=hd_ (hb2);have hc3:=HI2.out.c3;have hc4:=HI2.out.c4;have hc5:=HI2.out.c5;have hc6:=HI2.out.c6;have hf4:=HI2.out.f4;have hf5:=HI2.out.f5;have hf6:=HI2.out.f6;clear hsm hb2
       gi_wp2_with fail
       refine⟨trivial,?_⟩;refine(CallsIn.inRound l (callsIn_wide.2 (hfa2 w2))).mono ?_;rintro e w3 ⟨rfl,hb3⟩;have HI3:=hd_ (HI2.out.below hb3);have HB3:=hd_ (HB2.out.trans (hb3.mono HB2.out.size));have Hk3:=hd_ (Hk2.out.trans (hb3.mono Hk2.out.size));have hc3:=HI3.out.c3;have hc4:=HI3.out.c4;have hc5:=HI3.out.c5;have hc6:=HI3.out.c6;have hf4:=HI3.out.f4;have hf5:=HI3.out.f5;have hf6:=HI3.out.f6;clear hfa2 hb3
       gi_wp2_with fail
       have q0:=@Vu.h;have q9:Nonempty (Vu ⟨w.heap.size+1+1,0,none⟩ (.int .i64 lo)):=⟨⟨w3,by rw[HI3.out.c4,Hlo.out]⟩⟩
       have q8:Nonempty (Vu ⟨w.heap.size+1+1+1,0,none⟩ (.int .i64 hi)):=⟨⟨w3,by rw[HI3.out.c5,Hhi.out]⟩⟩
       refine Kt [(20,0),(1,1),(1,2),(1,3),(1,4),(1,5),(1,6),(1,7),(1,8),(21,9),(1,10),(1,11),(1,12),(1,13),(1,14),(1,15),(1,16),(1,17),(0,18),(0,19)]
        [(18,fun w'=>∃ p:Vu ⟨w.heap.size+1+1,0,none⟩ (.int .i64 lo),w'=p.w),(19,fun w'=>∃ p:Vu ⟨w.heap.size+1+1+1,0,none⟩ (.int .i64 hi),w'=p.w)]
        (by kernel_rfl) (by kernel_rfl) ⟨.inr ⟨⟨{ w3 with drawn:=w3.drawn+1 },HI3.out.c4.trans (by rw[Hlo.out])⟩,rfl⟩,.inr ⟨⟨{ w3 with drawn:=w3.drawn+1 },HI3.out.c5.trans (by rw[Hhi.out])⟩,rfl⟩,trivial⟩ ?_
       refine Ko (s:=18) _ (List.mem_cons_self ..) rfl ?_;simp only[dz_,Qd,tz_]
       go_big_quiet_step (fail)
       refine wpQuiet_nil ?_
       iterate 8 (refine Qa ?_;simp only[Qg,dz_,Qd,tz_];go_big_quiet_step (fail);refine wpQuiet_nil ?_)
       refine Ko (s:=19) _ (List.mem_cons_of_mem _ (List.mem_cons_self ..)) rfl ?_;simp only[Qg,dz_,Qd,tz_]
       go_big_quiet_step (fail)
       refine wpQuiet_nil ?_
       iterate 8 (refine Qa ?_;simp only[Qg,dz_,Qd,tz_];go_big_quiet_step (fail);refine wpQuiet_nil ?_)
       clear q0 q8 q9;obtain⟨w4,hw4⟩:∃ w4:World,{ heap:=w3.heap,tape:=w3.tape,drawn:=w3.drawn+1,os:=w3.os,output:=w3.output }=w4:=⟨_,rfl⟩;rw[hw4];have HI4:Hid (Zdz w.heap.size most (pre.map Subtype.val) w4):=by rw[← hw4];exact HI3.out.below ⟨rfl,rfl,rfl,Nat.le_refl _,fun _ _=>rfl⟩
       have HB4:Hid (Below w.heap.size w w4):=by rw[← hw4];exact HB3.out.trans ⟨rfl,rfl,rfl,Nat.le_refl _,fun _ _=>rfl⟩
       have Hk4:Hid (Below W.heap.size W w4):=by rw[← hw4];exact Hk3.out.trans ⟨rfl,rfl,rfl,Nat.le_refl _,fun _ _=>rfl⟩
       clear hw4 hc3 hc4 hc5 hc6 hf4 hf5 hf6;have hc4:=HI4.out.c4;have hc5:=HI4.out.c5;have hf4:=HI4.out.f4;have hf5:=HI4.out.f5;refine Kj ?_;simp only[Qg,dz_,Qd,tz_]
       go_wp2_with fail
       obtain⟨v5,hv5⟩:∃ v5:Int,lo+min (k*A) (k*(A+1))=v5:=⟨_,rfl⟩;obtain⟨v6,hv6⟩:∃ v6:Int,hi+max (k*A) (k*(A+1))=v6:=⟨_,rfl⟩;rw[hv5];rw[hv6];have hc52:(w4.setCell ⟨w.heap.size+1+1,0,none⟩ (.int .i64 v5)).cell? ⟨w.heap.size+1+1+1,0,none⟩=some (.int .i64 hi):=by
        rw[World.cell?_setCell_other _ _ _ _ (by simp),HI4.out.c5,Hhi.out]
       have hf52:(w4.setCell ⟨w.heap.size+1+1,0,none⟩ (.int .i64 v5)).frozen? ⟨w.heap.size+1+1+1,0,none⟩=false:=by rw[World.frozen?_setCell];exact HI4.out.f5
       refine⟨⟨.inl rfl,.inr ⟨⟨w4.setCell ⟨w.heap.size+1+1,0,none⟩ (.int .i64 v5),hc52⟩,rfl⟩,trivial⟩,?_⟩;clear hc4 hc5 hf4 hf5;refine Kj ?_;simp only[Qg,dz_,Qd,tz_]
       go_wp2_with fail
       refine⟨⟨.inl rfl,.inl rfl,trivial⟩,?_⟩;simp only[Qz];exact⟨(Qj Hk4.out).trans ((KeepsOthers.setCell _ _ _).trans (KeepsOthers.setCell _ _ _)),Zst rfl HB.out HI.out.sz Hk4.out _ _,HI4.out.stored (Hsn1.out.trans hv5) (Hsn2.out.trans hv6) Hall.out,Zan HB4.out _ _⟩
     ·have Hbad:Hid (∃ x∈tl,¬ okT most x):=⟨(p,k),Hmem.out,fun h=>hd h.2⟩
      have hfv:Zhb p.toNat = .tuple #[.int .i64 0,.bool false]:=by
       unfold Zhb;cases hq:Ze p.toNat 62 26 with
       | none=>rfl
       | some s=>rw[hq] at hd;exact absurd rfl hd
      rw[hfv] at hfa2;have hk1':¬ most<k:=by omega
      have hk2':¬ k < -most:=by omega
      clear hd hfv hfa
      gi_wp2_with fail
      refine⟨trivial,?_⟩;refine(CallsIn.inRound l (callsIn_wide.2 hsm)).mono ?_;rintro e w2 ⟨rfl,hb2⟩;have HI2:=hd_ (HI.out.below hb2);have HB2:=hd_ (HB.out.trans (hb2.mono HB.out.size));have Hk2:=hd_ (hb2);have hc3:=HI2.out.c3;have hc4:=HI2.out.c4;have hc5:=HI2.out.c5;have hc6:=HI2.out.c6;have hf4:=HI2.out.f4;have hf5:=HI2.out.f5;have hf6:=HI2.out.f6;clear hsm hb2
      gi_wp2_with fail
      refine⟨trivial,?_⟩;refine(CallsIn.inRound l (callsIn_wide.2 (hfa2 w2))).mono ?_;rintro e w3 ⟨rfl,hb3⟩;have HI3:=hd_ (HI2.out.below hb3);have HB3:=hd_ (HB2.out.trans (hb3.mono HB2.out.size));have Hk3:=hd_ (Hk2.out.trans (hb3.mono Hk2.out.size));have hc3:=HI3.out.c3;have hc4:=HI3.out.c4;have hc5:=HI3.out.c5;have hc6:=HI3.out.c6;have hf4:=HI3.out.f4;have hf5:=HI3.out.f5;have hf6:=HI3.out.f6;clear hfa2 hb3
      gi_wp2
      exact⟨(Qj Hk3.out).trans (((KeepsOthers.setCell _ _ _).trans (KeepsOthers.setCell _ _ _)).trans (KeepsOthers.setCell _ _ _)),⟨rfl,Hbad.out,HI3.out.quits⟩,
       ((HB3.out.setCell (p:=⟨w.heap.size+1+1,0,none⟩) (by simp;omega) _).setCell (p:=⟨w.heap.size+1+1+1,0,none⟩) (by simp;omega) _).setCell (p:=⟨w.heap.size+1+1+1+1,0,none⟩) (by simp;omega) _⟩
    ·have Hbad:Hid (∃ x∈tl,¬ okT most x):=⟨(p,k),Hmem.out,fun h=>hk2 h.1.1⟩
     have hk1':¬ most<k:=by omega
     have hk2':k < -most:=by omega
     clear hfa
     gi_wp2_with fail
     refine⟨trivial,?_⟩;refine(CallsIn.inRound l (callsIn_wide.2 hsm)).mono ?_;rintro e w2 ⟨rfl,hb2⟩;have HI2:=hd_ (HI.out.below hb2);have HB2:=hd_ (HB.out.trans (hb2.mono HB.out.size));have Hk2:=hd_ (hb2);have hc3:=HI2.out.c3;have hc4:=HI2.out.c4;have hc5:=HI2.out.c5;have hc6:=HI2.out.c6;have hf4:=HI2.out.f4;have hf5:=HI2.out.f5;have hf6:=HI2.out.f6;clear hsm hb2
     gi_wp2
     exact⟨(Qj Hk2.out).trans (((KeepsOthers.setCell _ _ _).trans (KeepsOthers.setCell _ _ _)).trans (KeepsOthers.setCell _ _ _)),⟨rfl,Hbad.out,HI2.out.quits⟩,
      ((HB2.out.setCell (p:=⟨w.heap.size+1+1,0,none⟩) (by simp;omega) _).setCell (p:=⟨w.heap.size+1+1+1,0,none⟩) (by simp;omega) _).setCell (p:=⟨w.heap.size+1+1+1+1,0,none⟩) (by simp;omega) _⟩
   ·have Hbad:Hid (∃ x∈tl,¬ okT most x):=⟨(p,k),Hmem.out,fun h=>hk1 h.1.2⟩
    have hk1':most<k:=by omega
    clear hfa
    gi_wp2_with fail
    refine⟨trivial,?_⟩;refine(CallsIn.inRound l (callsIn_wide.2 hsm)).mono ?_;rintro e w2 ⟨rfl,hb2⟩;have HI2:=hd_ (HI.out.below hb2);have HB2:=hd_ (HB.out.trans (hb2.mono HB.out.size));have Hk2:=hd_ (hb2);have hc3:=HI2.out.c3;have hc4:=HI2.out.c4;have hc5:=HI2.out.c5;have hc6:=HI2.out.c6;have hf4:=HI2.out.f4;have hf5:=HI2.out.f5;have hf6:=HI2.out.f6;clear hsm hb2
    gi_wp2
    exact⟨(Qj Hk2.out).trans (((KeepsOthers.setCell _ _ _).trans (KeepsOthers.setCell _ _ _)).trans (KeepsOthers.setCell _ _ _)),⟨rfl,Hbad.out,HI2.out.quits⟩,
     ((HB2.out.setCell (p:=⟨w.heap.size+1+1,0,none⟩) (by simp;omega) _).setCell (p:=⟨w.heap.size+1+1+1,0,none⟩) (by simp;omega) _).setCell (p:=⟨w.heap.size+1+1+1+1,0,none⟩) (by simp;omega) _⟩
  ·rw[if_neg hk64] at hsm;have Hbad:Hid (∃ x∈tl,¬ okT most x):=⟨(p,k),Hmem.out,fun h=>hk64 ⟨by have:=h.1.1;simp only at this;omega,by have:=h.1.2;simp only at this;omega⟩⟩
   clear hfa
   gi_wp2_with fail
   refine⟨trivial,?_⟩;refine(CallsIn.inRound l (callsIn_wide.2 hsm)).mono ?_;rintro e w2 ⟨rfl,hb2⟩;have HI2:=hd_ (HI.out.below hb2);have HB2:=hd_ (HB.out.trans (hb2.mono HB.out.size));have Hk2:=hd_ (hb2);have hc3:=HI2.out.c3;have hc4:=HI2.out.c4;have hc5:=HI2.out.c5;have hc6:=HI2.out.c6;have hf4:=HI2.out.f4;have hf5:=HI2.out.f5;have hf6:=HI2.out.f6;clear hsm hb2
   gi_wp2
   exact⟨(Qj Hk2.out).trans (((KeepsOthers.setCell _ _ _).trans (KeepsOthers.setCell _ _ _)).trans (KeepsOthers.setCell _ _ _)),⟨rfl,Hbad.out,HI2.out.quits⟩,
    ((HB2.out.setCell (p:=⟨w.heap.size+1+1,0,none⟩) (by simp;omega) _).setCell (p:=⟨w.heap.size+1+1+1,0,none⟩) (by simp;omega) _).setCell (p:=⟨w.heap.size+1+1+1+1,0,none⟩) (by simp;omega) _⟩
 case done =>
  rintro D' ys W hD rfl ⟨hI,hB⟩ hK;rw[List.attach_map_subtype_val] at hI;have hv:Zh4 most tl = .tuple #[.int .i64 (Zf0 tl),.int .i64 (Zae tl),.bool true]:=by unfold Zh4;rw[if_pos hI.ok]
  have Hv:=hd_ hv;have HI:=hd_ hI;have HB:=hd_ hB;have HK:=hd_ hK;have hc4:=HI.out.c4;have hc5:=HI.out.c5;have hc6:=HI.out.c6;have hf4:=HI.out.f4;have hf5:=HI.out.f5;have hf6:=HI.out.f6;clear hv hI hB hK hr1 hr2 hI1 hB1 hB5 Hsz Hfa;generalize Zf0 tl=lo at *
  generalize Zae tl=hi at *
  gi_wp2_with fail
  gi_region
  gi_wp2
  clear hc4 hc5 hc6 hf4 hf5 hf6;have e4:(((W.setCell { block:=w.heap.size+1+1,off:=0 } (Value.int IntKind.i64 lo)).setCell { block:=w.heap.size+1+1+1,off:=0 } (Value.int IntKind.i64 hi)).setCell { block:=w.heap.size+1+1+1+1,off:=0 } (Value.bool true)).drew.cell? ⟨w.heap.size+1+1,0,none⟩=some (.int .i64 lo):=by
   show World.cell? (((W.setCell { block:=w.heap.size+1+1,off:=0 } (Value.int IntKind.i64 lo)).setCell { block:=w.heap.size+1+1+1,off:=0 } (Value.int IntKind.i64 hi)).setCell { block:=w.heap.size+1+1+1+1,off:=0 } (Value.bool true)) _=_
   rw[World.cell?_setCell_other _ _ _ _ (by simp),World.cell?_setCell_other _ _ _ _ (by simp),World.cell?_setCell_same _ _ _ HI.out.c4]
  have e5:(((W.setCell { block:=w.heap.size+1+1,off:=0 } (Value.int IntKind.i64 lo)).setCell { block:=w.heap.size+1+1+1,off:=0 } (Value.int IntKind.i64 hi)).setCell { block:=w.heap.size+1+1+1+1,off:=0 } (Value.bool true)).drew.cell? ⟨w.heap.size+1+1+1,0,none⟩=some (.int .i64 hi):=by
   show World.cell? (((W.setCell { block:=w.heap.size+1+1,off:=0 } (Value.int IntKind.i64 lo)).setCell { block:=w.heap.size+1+1+1,off:=0 } (Value.int IntKind.i64 hi)).setCell { block:=w.heap.size+1+1+1+1,off:=0 } (Value.bool true)) _=_
   rw[World.cell?_setCell_other _ _ _ _ (by simp),World.cell?_setCell_same _ _ _ (by rw[World.cell?_setCell_other _ _ _ _ (by simp)];exact HI.out.c5)]
  have e6:(((W.setCell { block:=w.heap.size+1+1,off:=0 } (Value.int IntKind.i64 lo)).setCell { block:=w.heap.size+1+1+1,off:=0 } (Value.int IntKind.i64 hi)).setCell { block:=w.heap.size+1+1+1+1,off:=0 } (Value.bool true)).drew.cell? ⟨w.heap.size+1+1+1+1,0,none⟩=some (.bool true):=by
   show World.cell? (((W.setCell { block:=w.heap.size+1+1,off:=0 } (Value.int IntKind.i64 lo)).setCell { block:=w.heap.size+1+1+1,off:=0 } (Value.int IntKind.i64 hi)).setCell { block:=w.heap.size+1+1+1+1,off:=0 } (Value.bool true)) _=_
   rw[World.cell?_setCell_same _ _ _ (by rw[World.cell?_setCell_other _ _ _ _ (by simp),World.cell?_setCell_other _ _ _ _ (by simp)];exact HI.out.c6)]
  have hk9:=(((KeepsOthers.setCell W ⟨w.heap.size+1+1,0,none⟩ (.int .i64 lo)).trans (KeepsOthers.setCell _ ⟨w.heap.size+1+1+1,0,none⟩ (.int .i64 hi))).trans (KeepsOthers.setCell _ ⟨w.heap.size+1+1+1+1,0,none⟩ (.bool true))).trans (KeepsOthers.drew _);have hK9:=hk9.same D' _ HK.out rfl;have hb9:=(((HB.out.setCell (p:=⟨w.heap.size+1+1,0,none⟩) (by show _≤w.heap.size+1+1;omega) (.int .i64 lo)).setCell (p:=⟨w.heap.size+1+1+1,0,none⟩) (by show _≤w.heap.size+1+1+1;omega) (.int .i64 hi)).setCell (p:=⟨w.heap.size+1+1+1+1,0,none⟩) (by show _≤w.heap.size+1+1+1+1;omega) (.bool true)).drew
  generalize (((W.setCell { block:=w.heap.size+1+1,off:=0 } (Value.int IntKind.i64 lo)).setCell { block:=w.heap.size+1+1+1,off:=0 } (Value.int IntKind.i64 hi)).setCell { block:=w.heap.size+1+1+1+1,off:=0 } (Value.bool true)).drew=w9 at *
  have g4:=cell_kept e4 (grownBy_putObj' _ D' (.deferred none)) (fun r e=>by cases e;exact⟨_,hK9,rfl⟩)
  have g5:=cell_kept e5 (grownBy_putObj' _ D' (.deferred none)) (fun r e=>by cases e;exact⟨_,hK9,rfl⟩)
  have g6:=cell_kept e6 (grownBy_putObj' _ D' (.deferred none)) (fun r e=>by cases e;exact⟨_,hK9,rfl⟩)
  refine⟨by simp,.inl ⟨_,_,rfl,run_takeDeferred hK9,?_⟩⟩
  refine⟨.tuple #[.int .i64 lo,.int .i64 hi,.bool true],?_,by rw[Hv.out],hb9.trans (belowK_b (w:=w) nr_ w9 D' _ _ (by rw[hsz1] at hD;omega) hK9 rfl rfl)⟩
  simp[results,Tryz.results230,go_sem,g4,g5,g6]
 case stop =>
  rintro D' c pre W hD hSp ⟨⟨rfl,hbad,hX⟩,hB⟩ hK;have hv:Zh4 most tl = .tuple #[.int .i64 0,.int .i64 0,.bool false]:=by
   unfold Zh4;rw[if_neg];intro h;obtain⟨x,hx,hn⟩:=hbad;exact hn (h x hx)
  have g4:=cell_kept hX.c4 (grownBy_putObj' _ D' (.deferred none)) (fun r e=>by cases e;exact⟨_,hK,rfl⟩)
  have g5:=cell_kept hX.c5 (grownBy_putObj' _ D' (.deferred none)) (fun r e=>by cases e;exact⟨_,hK,rfl⟩)
  have g6:=cell_kept hX.c6 (grownBy_putObj' _ D' (.deferred none)) (fun r e=>by cases e;exact⟨_,hK,rfl⟩)
  gi_wp2
  refine⟨by simp,.inl ⟨_,_,rfl,run_takeDeferred hK,?_⟩⟩
  refine⟨.tuple #[.int .i64 0,.int .i64 0,.bool false],?_,by rw[hv],hB.trans (belowK_b (w:=w) nr_ W D' _ _ (by rw[hsz1] at hD;omega) hK rfl rfl)⟩
  simp[results,Tryz.results230,go_sem,g4,g5,g6]
end Go.Proofs.YtbielfplgbammaaGreatDoor

namespace Go.Proofs.YtbielfplgbammaaGreatDoor
open Go.RowKit
structure Zbj (w:World) (tl:List (Int×Int)) (b1:Option Addr) (b2:Option Addr):Prop where
 r1:Rd w b1 (Qw (tl.map Prod.fst))
 r2:Rd w b2 (Zrg (tl.map fun x=>itx x.2))
 len:tl.length≤1000
 p:∀ x∈tl,2≤x.1∧x.1≤97
 z:∀ x∈tl,Zdf x.2
theorem Zbj.below{w w':World}{tl:List (Int×Int)}{b1 b2:Option Addr}(h:Zbj w tl b1 b2)(hb:Below w.heap.size w w'):Zbj w' tl b1 b2 :=
 ⟨h.r1.below hb nr_,h.r2.below hb nr_,h.len,h.p,h.z⟩
def Zat (tl:List (Int×Int)):Int :=
 if ∀ x∈tl,okT 10000000 x then if 0≤Zf0 tl then 1 else if Zae tl≤0 then -1 else 0 else 0
theorem Zla(w:World)(b1 b2:Option Addr)(d1 d2 D:Nat)(tl:List (Int×Int))(T:Zbj w tl b1 b2)(L:Qx w):
  Kc Tryz.prog 164 #[.agg (Qe b1 d1 b2 d2 tl.length D)] w (.int .i64 (Zat tl)):=by
 unfold Kc;have Hb0:=hd_ ((Below.refl w.heap.size w).alloc nr_ (.cells (Qe b1 d1 b2 d2 tl.length D) 146));have hn:Kc Tryz.prog 230 #[.agg (Qe b1 d1 b2 d2 tl.length D),.int .i64 10000000] (w.alloc (.cells (Qe b1 d1 b2 d2 tl.length D) 146)) (Zh4 10000000 tl):=by
  have T':=T.below Hb0.out;exact Zvc _ b1 b2 d1 d2 D tl 10000000 (by decide) (by decide) T'.len T'.r1 T'.r2 T'.p T'.z (L.below Hb0.out)
 have Hn:=hd_ hn;clear T L hn
 by_cases hall:∀ x∈tl,okT 10000000 x
 ·have hv:Zh4 10000000 tl = .tuple #[.int .i64 (Zf0 tl),.int .i64 (Zae tl),.bool true]:=by unfold Zh4;rw[if_pos hall]
  rw[hv] at Hn;have Hq:Hid (Zat tl=if 0≤Zf0 tl then 1 else if Zae tl≤0 then -1 else 0):=by show _=_;unfold Zat;rw[if_pos hall]
  clear hv hall;generalize Zat tl=q at *
  generalize Zf0 tl=lo at *
  generalize Zae tl=hi at *
  by_cases h1:0≤lo
  ·have Hqq:Hid (q=1):=by show _=_;rw[Hq.out,if_pos h1]
   go_enter Tryz.func164,Tryz.ntmps164
   go_wp2_with fail
   refine cm_ Hn.out ?_;rintro e w1 ⟨rfl,hb1⟩;have Hb1:=hd_ (Hb0.out.trans (hb1.mono Hb0.out.size));clear hb1 Hn;go_wp2;go_ret;exact⟨by rw[Hqq.out];rfl,Hb1.out⟩
  ·by_cases h2:hi≤0
   ·have Hqq:Hid (q = -1):=by show _=_;rw[Hq.out,if_neg h1,if_pos h2]
    go_enter Tryz.func164,Tryz.ntmps164
    go_wp2_with fail
    refine cm_ Hn.out ?_;rintro e w1 ⟨rfl,hb1⟩;have Hb1:=hd_ (Hb0.out.trans (hb1.mono Hb0.out.size));clear hb1 Hn;go_wp2;go_ret;exact⟨by rw[Hqq.out];rfl,Hb1.out⟩
   ·have Hqq:Hid (q=0):=by show _=_;rw[Hq.out,if_neg h1,if_neg h2]
    go_enter Tryz.func164,Tryz.ntmps164
    go_wp2_with fail
    refine cm_ Hn.out ?_;rintro e w1 ⟨rfl,hb1⟩;have Hb1:=hd_ (Hb0.out.trans (hb1.mono Hb0.out.size));clear hb1 Hn;go_wp2;go_ret;exact⟨by rw[Hqq.out];rfl,Hb1.out⟩
 ·have hv:Zh4 10000000 tl = .tuple #[.int .i64 0,.int .i64 0,.bool false]:=by unfold Zh4;rw[if_neg hall]
  rw[hv] at Hn;have Hq:Hid (Zat tl=0):=by show _=_;unfold Zat;rw[if_neg hall]
  clear hv hall;go_enter Tryz.func164,Tryz.ntmps164
  go_wp2_with fail
  refine cm_ Hn.out ?_;rintro e w1 ⟨rfl,hb1⟩;have Hb1:=hd_ (Hb0.out.trans (hb1.mono Hb0.out.size));clear hb1 Hn;go_wp2;go_ret;exact⟨by rw[Hq.out];rfl,Hb1.out⟩
theorem Zih(w:World)(b1 b2:Option Addr)(d1 d2 D:Nat)(tl:List (Int×Int))(T:Zbj w tl b1 b2)(L:Qx w)(hq:tl=[]∨Zat tl≠0):
  Kc Tryz.prog 80 #[.agg (Qe b1 d1 b2 d2 tl.length D)] w (.int .i64 (if tl=[] then 0 else Zat tl)):=by
 unfold Kc
 by_cases h0:tl=[]
 ·subst h0;rw[if_pos rfl];have Hb0:=hd_ ((Below.refl w.heap.size w).alloc nr_ (.cells (Qe b1 d1 b2 d2 0 D) 146));clear T L hq;rw[show ([]:List (Int×Int)).length=0 from rfl]
  obtain⟨m0,m1,m2,m3⟩:=Qi (Kq w (Qe b1 d1 b2 d2 0 D) 146 w.heap.size rfl);clear m3;go_enter Tryz.func80,Tryz.ntmps80
  go_wp2_with fail
  go_step3
  go_wp2_with fail
  rw[Exit.noGoto_ret];go_ret;exact⟨rfl,Hb0.out⟩
 ·rw[if_neg h0];have Hb0:=hd_ ((Below.refl w.heap.size w).alloc nr_ (.cells (Qe b1 d1 b2 d2 tl.length D) 146));have Hn:=hd_ (Zla _ b1 b2 d1 d2 D tl (T.below Hb0.out) (L.below Hb0.out));have hq0:(Zat tl==0)=false:=by rw[beq_eq_false_iff_ne];exact hq.resolve_left h0
  have hl0:((tl.length:Int)==0)=false:=by
   rw[beq_eq_false_iff_ne];intro h;exact h0 (List.eq_nil_of_length_eq_zero (by omega))
  clear T L hq h0;generalize Zat tl=q at *
  generalize tl.length=m at *
  obtain⟨m0,m1,m2,m3⟩:=Qi (Kq w (Qe b1 d1 b2 d2 m D) 146 w.heap.size rfl);clear m3;go_enter Tryz.func80,Tryz.ntmps80
  go_wp2_with fail
  go_step3
  go_wp2_with fail
  refine cm_ Hn.out ?_;rintro e w1 ⟨rfl,hb1⟩;have Hb1:=hd_ (Hb0.out.trans (hb1.mono Hb0.out.size));clear hb1 Hn
  go_wp2_with fail
  rw[Exit.noGoto_ret];go_ret;exact⟨rfl,Hb1.out⟩
theorem Zv{D:Nat}{ps:List Int}{l:List Rat}{x:Int×Int}(hx:x∈Ve D ps l):x.1∈ps∧∃ q∈l,q.num≠0∧x.2=q.num*((D/q.den:Nat):Int):=by
 unfold Ve at hx;obtain⟨y,hy,he⟩:=List.mem_filterMap.1 hx;have h1:=(List.of_mem_zip hy).1;have h2:=(List.of_mem_zip hy).2
 by_cases h:y.2.num=0
 ·rw[if_pos h] at he;cases he
 ·rw[if_neg h] at he;simp only[Option.some.injEq] at he;subst he;exact⟨h1,y.2,h2,h,rfl⟩
def tlQ (ps:List Int) (l:List Rat):List (Int×Int):=Ve (Qu l) ps l
theorem Zus{ps:List Int}{l:List Rat}{D:Nat}(hs:∀ q∈l,Sm D q)(h6:3+(l.length+2)*D≤900000):∀ x∈tlQ ps l,Zdf x.2:=fun x hx=>by
 obtain⟨_,q,hq,_,he⟩:=Zv hx;have h1:=Zji l D hs l.length nr_;rw[List.take_length] at h1;have h2:=(hs q hq).1;have h3:Qu l/q.den≤Qu l:=Nat.div_le_self _ _;have h4:=Va h2 (Nat.lt_of_le_of_lt h3 h1);rw[he];refine Qn (D:=D+(1+l.length*D)) ?_ (by omega) ?_
 ·rw[Int.natAbs_mul];exact h4
 ·rw[Nat.add_mul] at h6;omega
theorem Za1{w:World}{g:Nat}{cs:Array Value}{t:TypeId}(h:w.heap[g]?=some (.cells cs t (0,0))):Rd w (some ⟨g,0,none⟩) cs.toList:=by
 refine .inr ⟨g,0,rfl,(Array.getElem?_eq_some_iff.1 h).1,fun i v hi=>?_⟩
 rw[Nat.zero_add,cell_of_row w g i _ t (0,0) h,← Array.getElem?_toList];exact hi
theorem Ze8{w:World}{g:Nat}{a1 a2:Option Addr}{c1 c2:Nat}{l1 l2:Zch}{t:TypeId}(h:w.heap[g]?=some (.cells #[.slice a1 l1.length c1,.slice a2 l2.length c2] t (0,0)))(h1:Rd w a1 (Qf l1))(h2:Rd w a2 (Qf l2)):RdL w (some ⟨g,0,none⟩) [l1,l2]:=by
 obtain⟨k0,k1,-,-⟩:=(⟨by rw[cell_of_row w g 0 _ t (0,0) h];rfl,by rw[cell_of_row w g 1 _ t (0,0) h];rfl,trivial,trivial⟩:w.cell? ⟨g,0,none⟩=some (.slice a1 l1.length c1)∧w.cell? ⟨g,1,none⟩=some (.slice a2 l2.length c2)∧True∧True)
 refine .inr ⟨g,0,rfl,(Array.getElem?_eq_some_iff.1 h).1,fun i hi=>?_⟩
 match i,hi with
 | 0,_=>exact⟨a1,c1,k0,h1⟩
 | 1,_=>exact⟨a2,c2,k1,h2⟩
theorem Zsd{w:World}{g:Nat}{a1:Option Addr}{c1:Nat}{l1:Zch}{t:TypeId}(h:w.heap[g]?=some (.cells #[.slice a1 l1.length c1] t (0,0)))(h1:Rd w a1 (Qf l1)):RdL w (some ⟨g,0,none⟩) [l1]:=by
 have k0:w.cell? ⟨g,0,none⟩=some (.slice a1 l1.length c1):=by rw[cell_of_row w g 0 _ t (0,0) h];rfl
 refine .inr ⟨g,0,rfl,(Array.getElem?_eq_some_iff.1 h).1,fun i hi=>?_⟩
 match i,hi with
 | 0,_=>exact⟨a1,c1,k0,h1⟩
theorem Qbi:(Tryz.prog.info? 35).map (fun i=>(i.zero,i.size,i.bytes))=some (some (.slice none 0 0),1,24):=by kernel_rfl
structure Zf (w:World) (ps:List Int) (a0 a:Option Addr) (l:List Rat) (D:Nat):Prop where
 rp:Rd w a0 (Qw ps)
 rl:Rd w a (Kg l)
 len:l.length=ps.length
 n:ps.length≤100
 pr:∀ p∈ps,2≤p∧p≤97
 sm:∀ q∈l,Sm D q
 d:D≤1000
theorem Zf.below{w w':World}{ps:List Int}{a0 a:Option Addr}{l:List Rat}{D:Nat}(h:Zf w ps a0 a l D)(hb:Below w.heap.size w w'):Zf w' ps a0 a l D :=
 ⟨h.rp.below hb nr_,h.rl.below hb nr_,h.len,h.n,h.pr,h.sm,h.d⟩
theorem Zf.i64{w:World}{ps:List Int}{a0 a:Option Addr}{l:List Rat}{D:Nat}(h:Zf w ps a0 a l D):Zf3 ps:=fun x hx=>by have:=h.pr x hx;omega
theorem Zoc{w:World}{ps:List Int}{a0 a:Option Addr}{l:List Rat}{D c0 c:Nat}(S:Zf w ps a0 a l D)(L:Qx w):
  Calls Tryz.prog 79 #[.slice a0 ps.length c0,.slice a l.length c] w fun e w'=>∃ b1 d1 b2 d2,e = .returned (.agg (Qe b1 d1 b2 d2 (tlQ ps l).length (Qu l)))∧Zbj w' (tlQ ps l) b1 b2∧Below w.heap.size w w':=by
 have hn:=S.n;have hd:=S.d;have hlen:=S.len;have h6:3+(l.length+2)*D≤900000:=by
  have:(l.length+2)*D≤102*1000:=Nat.mul_le_mul (by omega) hd
  omega
 refine cm_ (Zmq w a0 a c0 c ps l D S.rp S.rl S.len.symm S.sm (by omega) h6 L) ?_
 rintro e w' ⟨b1,d1,b2,d2,he,r1,r2,hb⟩;refine⟨b1,d1,b2,d2,he,⟨r1,r2,?_,?_,Zus S.sm h6⟩,hb⟩
 ·exact Nat.le_trans (Zfp _ _ _) (by omega)
 ·exact fun x hx=>S.pr x.1 (Zv hx).1
theorem Kd{w w':World}{B g:Nat}{o:Obj}(h:w.heap[g]?=some o)(hb:Below B w w')(hB:w.heap.size≤B):w'.heap[g]?=some o :=
 (hb.block g (Nat.lt_of_lt_of_le (Array.getElem?_eq_some_iff.1 h).1 hB)).trans h
theorem Sm.one:Sm 1 1:=⟨by decide,by decide⟩
theorem Sm.minus:Sm 1 (-1):=⟨by decide,by decide⟩
theorem Zuv(W:World)(g1 g2:Nat)(a1 a2:Option Addr)(c1 c2 n D:Nat)(la lb:List Rat)(f1 f2:Rat)
  (h1:W.heap[g1]?=some (.cells #[.slice a1 la.length c1,.slice a2 lb.length c2] 35 (0,0)))
  (h2:W.heap[g2]?=some (.cells #[.string (itx f1.num),.string (dec f1.den),.string (itx f2.num),.string (dec f2.den)] 101 (0,0)))
  (ra:Rd W a1 (Kg la)) (rb:Rd W a2 (Kg lb)) (la1:la.length=n) (lb1:lb.length=n) (sa:∀ q∈la,Sm D q) (sb:∀ q∈lb,Sm D q) (s1:Sm 1 f1) (s2:Sm 1 f2)
  (hn:n≤100) (hD:D≤400) (L:Qx W) :
  Zbv 141 #[.int .i64 n,.slice (some ⟨g1,0,none⟩) 2 2,.slice (some ⟨g2,0,none⟩) 2 2] W (Zd n [la,lb] [f1,f2]):=by
 have h1':W.heap[g1]?=some (.cells #[.slice a1 (la.map qs).length c1,.slice a2 (lb.map qs).length c2] 35 (0,0)):=by rw[List.length_map,List.length_map];exact h1
 exact Zjk W _ _ 2 2 n [la,lb] [f1,f2] D 1 (Ze8 h1' ra rb) (Za1 h2) (by intro l hl;simp only[List.mem_cons,List.not_mem_nil,or_false] at hl;rcases hl with rfl | rfl<;>assumption) rfl
  (by intro l hl;simp only[List.mem_cons,List.not_mem_nil,or_false] at hl;rcases hl with rfl | rfl<;>assumption)
  (by intro q hq;simp only[List.mem_cons,List.not_mem_nil,or_false] at hq;rcases hq with rfl | rfl<;>assumption) (by omega) (by simp) (by simp only[List.length_cons,List.length_nil];omega) L
theorem Zms{n D:Nat}{la lb:List Rat}{f1 f2:Rat}(sa:∀ q∈la,Sm D q)(sb:∀ q∈lb,Sm D q)(s1:Sm 1 f1)(s2:Sm 1 f2):∀ q∈Zd n [la,lb] [f1,f2],Sm (2*D+5) q:=by
 have:=Zmt n [la,lb] [f1,f2] D 1 (by intro l hl;simp only[List.mem_cons,List.not_mem_nil,or_false] at hl;rcases hl with rfl | rfl<;>assumption) (by intro q hq;simp only[List.mem_cons,List.not_mem_nil,or_false] at hq;rcases hq with rfl | rfl<;>assumption) rfl 2 nr_
 intro q hq;have h:=this q (by unfold Zh1;unfold Zd at hq;exact hq)
 rw[show 1+2*(D+1+1)=2*D+5 by omega] at h
 exact h
theorem Zkw{n:Nat}{la lb:List Rat}{f1 f2:Rat}(h1:la.length=n)(h2:lb.length=n):(Zd n [la,lb] [f1,f2]).length=n :=
 Zb1 n [la,lb] [f1,f2] (by intro l hl;simp only[List.mem_cons,List.not_mem_nil,or_false] at hl;rcases hl with rfl | rfl<;>assumption) rfl
theorem Zwt:∀ (l:List Rat),(∀ q∈l,Sm 30 q)→sgo (l.map qs)=0
 | [],_=>rfl
 | q::l,h=>by
  have h1:∃ p:Rat,qs q=qs p∧Sm 400 p:=⟨q,rfl,(h q List.mem_cons_self).le (by decide)⟩
  have h2:∃ p:Rat,qs q=qs p∧Vw p:=⟨q,rfl,h q List.mem_cons_self⟩;rw[List.map_cons,sgo,if_pos h1,if_pos h2];exact Zwt l fun p hp=>h p (List.mem_cons_of_mem _ hp)
theorem Zd8{n:Nat}{l:List Rat}(h:∀ q∈l,Sm 30 q)(hl:l.length=n):Zck n (l.map qs)=0:=by
 unfold Zck;rw[if_pos (by rw[List.length_map];exact hl),Zwt l h]
theorem Zj5(z:Int)(D:Nat)(hD:0<D)(h:z.natAbs<10^D):(itx z).size≤D+1:=by
 have h1:=(Zad z.natAbs D hD).2 h;have h2:=Zb9 z;omega
theorem Zd3{l:List Rat}(h:∀ q∈l,Sm 30 q):Ssz (l.map qs):=fun x hx=>by
 obtain⟨q,hq,rfl⟩:=List.mem_map.1 hx;have h1:=Zj5 q.num 30 (by decide) (h q hq).1
 have h2:=(Zad q.den 30 (by decide)).2 (h q hq).2
 exact⟨Nat.le_trans h1 (by decide),Nat.le_trans h2 (by decide)⟩
theorem Zs8{ps:List Int}{la lb:List Rat}(hp:Qv ps=0)(ha:∀ q∈la,Sm 30 q)(hb:∀ q∈lb,Sm 30 q)(h1:la.length=ps.length)(h2:lb.length=ps.length):Zj4 ps [la.map qs,lb.map qs]=0:=by
 unfold Zj4;rw[if_pos hp,lgo,if_pos (Zd8 ha h1),lgo,if_pos (Zd8 hb h2),lgo]
theorem Zf.le{w:World}{ps:List Int}{a0 a:Option Addr}{l:List Rat}{D E:Nat}(h:Zf w ps a0 a l D)(hE:D≤E)(h1:E≤1000):Zf w ps a0 a l E :=
 ⟨h.rp,h.rl,h.len,h.n,h.pr,fun q hq=>(h.sm q hq).le hE,h1⟩
theorem Zmb(W:World)(ps:List Int)(g:Nat)(a0 a1 a2:Option Addr)(c0 c1 c2:Nat)(la lb:List Rat)(A:Zf W ps a0 a1 la 30)(B:Zf W ps a0 a2 lb 30)(hp:Qv ps=0)(L:Qx W)
  (h1:W.heap[g]?=some (.cells #[.slice a1 la.length c1,.slice a2 lb.length c2] 35 (0,0))) :
  Kc Tryz.prog 20 #[.slice a0 ps.length c0,.slice (some ⟨g,0,none⟩) 2 2] W (.int .i64 0):=by
 have h1':W.heap[g]?=some (.cells #[.slice a1 (la.map qs).length c1,.slice a2 (lb.map qs).length c2] 35 (0,0)):=by rw[List.length_map,List.length_map];exact h1
 have hn:=A.n;have e1:=A.len;have e2:=B.len;have h:=Yc W a0 _ c0 2 ps [la.map qs,lb.map qs] A.rp A.i64 (by omega) (Ze8 h1' A.rl B.rl) (by simp)
  (by
   intro l hl;simp only[List.mem_cons,List.not_mem_nil,or_false] at hl;rcases hl with rfl|rfl
   ·exact⟨by rw[List.length_map];omega,Zd3 A.sm⟩
   ·exact⟨by rw[List.length_map];omega,Zd3 B.sm⟩) L
 rw[Zs8 hp A.sm B.sm e1 e2] at h;exact h
theorem Zyj : (Tryz.prog.fieldsOf 101).toList.map (fun f => (f.name, f.type, f.offset)) = [("Num", 38, 0), ("Den", 38, 1)] := by kernel_rfl
theorem Zzk:Tryz.prog.stoodInHeld 101=false:=by kernel_rfl
theorem Zz9:Tryz.prog.eqGuardType Tryz.prog.depth 101=false:=by kernel_rfl
theorem Zlw (W : World) (d : Nat) (s t s' t' : ByteArray) (fs : List Field) (h : fs.map (fun f => (f.name, f.type, f.offset)) = [("Num", 38, 0), ("Den", 38, 1)]) :
  (Op.eqFields (d+1) #[.string s,.string t] #[.string s',.string t'] fs).run Tryz.prog W = .ok (s.toList==s'.toList&&t.toList==t'.toList) W:=by
 obtain⟨f,g,rfl⟩:∃ f g,fs=[f,g]:=by
  have hl:=congrArg List.length h;rw[List.length_map] at hl;cases fs with
  | nil=>simp at hl
  | cons f fs =>
   cases fs with
   | nil=>simp at hl
   | cons g fs =>
    cases fs with
    | nil=>exact⟨f,g,rfl⟩
    | cons x fs=>simp at hl
 simp only[List.map_cons,List.map_nil,List.cons.injEq,Prod.mk.injEq,and_true] at h;obtain⟨⟨h1,h2,h3⟩,h4,h5,h6⟩:=h;have hu:=Tryz.underlying38;simp[Op.eqFields,h1,h2,h3,h4,h5,h6,go_sem,hu]
 by_cases q1:s.toList=s'.toList<;>by_cases q2:t.toList=t'.toList<;>simp[q1,q2]
theorem Zxm:Tryz.prog.underlying 101=some (.struct (Tryz.prog.fieldsOf 101)):=by
 have h:=Tryz.underlying101;unfold Program.fieldsOf;rw[h]
theorem Zvb(W:World)(s t s' t':ByteArray):
  (binOp .neq 101 (.agg #[.string s,.string t]) (.agg #[.string s',.string t'])).run Tryz.prog W = .ok (.bool (!(s.toList==s'.toList&&t.toList==t'.toList))) W:=by
 rw[run_neq_struct,show (10000:Nat)=9998+1+1 from rfl,run_equalIn_agg (ht:=Zxm) (hp:=Zzk),Zlw W _ s t s' t' _ Zyj]
 rfl
theorem Zqr(W:World)(op:BinOp)(x y:Operand)(xs ys:Array Value):(eqGuard op 101 x y (.agg xs) (.agg ys)).run Tryz.prog W = .ok () W:=run_eqGuard_agg W op _ x y xs ys Zz9
theorem toList_inj{a b:ByteArray}(h:(a.toList==b.toList)=true):a=b:=by
 have h1:=eq_of_beq h;rw[ByteArray.toList_eq,ByteArray.toList_eq] at h1;exact ByteArray.ext (Array.toList_inj.1 h1)
theorem Sm.inv{D:Nat}{q:Rat}(h:Sm D q)(_:0<D):Sm D q⁻¹:=by
 have e:q⁻¹=Rat.inv q:=rfl;have h1:=h.1;have h2:=h.2;rw[e];unfold Rat.inv;split
 ·refine⟨?_,h.1⟩
  show (-(q.den:Int)).natAbs<_
  omega
 ·split
  ·exact⟨by show ((q.den:Nat):Int).natAbs<_;omega,h.1⟩
  ·exact h
structure BW (W:World) where
 w:World
 b:Below W.heap.size W w
theorem BW.cell{W:World}{p:Addr}{v:Value}(h:W.cell? p=some v)(q:BW W):q.w.cell? p=some v:=(q.b.cell (block_lt_of_cell h)).trans h
theorem Sm.two:Sm 1 2:=⟨by decide,by decide⟩
theorem Zxl(W:World)(g1 g2:Nat)(a1:Option Addr)(c1 n D:Nat)(la:List Rat)(f1:Rat)
  (h1:W.heap[g1]?=some (.cells #[.slice a1 la.length c1] 35 (0,0)))
  (h2:W.heap[g2]?=some (.cells #[.string (itx f1.num),.string (dec f1.den)] 101 (0,0)))
  (ra:Rd W a1 (Kg la)) (la1:la.length=n) (sa:∀ q∈la,Sm D q) (s1:Sm 2 f1) (hn:n≤100) (hD:D≤400) (L:Qx W) :
  Zbv 141 #[.int .i64 n,.slice (some ⟨g1,0,none⟩) 1 1,.slice (some ⟨g2,0,none⟩) 1 1] W (Zd n [la] [f1]):=by
 have h1':W.heap[g1]?=some (.cells #[.slice a1 (la.map qs).length c1] 35 (0,0)):=by rw[List.length_map];exact h1
 exact Zjk W _ _ 1 1 n [la] [f1] D 2 (Zsd h1' ra) (Za1 h2) (by intro l hl;simp only[List.mem_cons,List.not_mem_nil,or_false] at hl;subst hl;assumption) rfl
  (by intro l hl;simp only[List.mem_cons,List.not_mem_nil,or_false] at hl;subst hl;assumption)
  (by intro q hq;simp only[List.mem_cons,List.not_mem_nil,or_false] at hq;subst hq;assumption) (by omega) (by simp) (by simp only[List.length_cons,List.length_nil];omega) L
theorem Zxz(w:World)(n d:Int)(v:Rat)(hof:∀ W,Below w.heap.size w W→Kc Tryz.prog 126 #[.int .i64 n,.int .i64 d] W (.tuple #[fr v,.int .i64 0])):
  Kc Tryz.prog 49 #[.int .i64 n,.int .i64 d] w (fr v):=by
 unfold Kc;have Hof:=hd_ hof;clear hof;unfold fr fv at Hof ⊢;have B0:=hd_ ((Below.refl w.heap.size w).alloc nr_ (.cells #[.string ⟨#[]⟩,.string ⟨#[]⟩] 101));have K0:=hd_ (Kq w #[.string ⟨#[]⟩,.string ⟨#[]⟩] 101 _ rfl);go_enter Tryz.func49,Tryz.ntmps49
 go_wp2_with fail
 refine cm_ (Hof.out _ B0.out) ?_;rintro e w1 ⟨rfl,hb⟩;have B1:=hd_ (B0.out.trans (hb.mono B0.out.size));have K1:=hd_ (Kd K0.out hb nr_);clear hb B0 K0 Hof;have B2:=hd_ (B1.out.alloc B1.out.size (.cells #[.string (itx v.num),.string (dec v.den)] 101));have K2:=hd_ (Ks K1.out (.cells #[.string (itx v.num),.string (dec v.den)] 101));have M2:=hd_ (Kq w1 #[.string (itx v.num),.string (dec v.den)] 101 _ rfl);obtain⟨k0,k1,f0,f1⟩:=Ka K2.out;obtain⟨m0,m1,-,-⟩:=Ka M2.out
 go_wp2_with fail
 obtain⟨c0,c1,hb3⟩:=Qc (B:=w.heap.size) (.string (itx v.num)) (.string (dec v.den)) k0 k1 nr_ B2.out;exact bodyPost_ret (v := .agg #[.string (itx v.num),.string (dec v.den)]) (by simp[results,Tryz.results49,go_sem,c0,c1]) rfl ⟨rfl,hb3⟩
end Go.Proofs.YtbielfplgbammaaGreatDoor

namespace Go.Proofs.YtbielfplgbammaaGreatDoor
open Go.RowKit Go.Shelf
end Go.Proofs.YtbielfplgbammaaGreatDoor

namespace Go.Proofs.YtbielfplgbammaaGreatDoor
open Go.RowKit
end Go.Proofs.YtbielfplgbammaaGreatDoor

namespace Go.Proofs.YtbielfplgbammaaGreatDoor
open Go.RowKit
theorem Zei(n:Nat)(h:n≤100000000000000000000):Num n:=Qn (D:=21) (by omega) (by decide) (by decide)
theorem Qbb(w:World)(n:Int)(d:Nat)(q1 : -9223372036854775808≤n)(q2:n≤9223372036854775807)(q3:0<d)(q4:d≤1000000)(L:Qx w):
  Kc Tryz.prog 49 #[.int .i64 n,.int .i64 d] w (fr (mkRat n d)) :=
 Zxz w n d _ fun W hW=>by
  have:=Zu6 W n d q1 q2 (by omega) (Zei _ (by omega)) (Zei _ (by omega)) q3 (Zei _ (by omega)) (Zei _ (by omega)) (L.below hW)
  rw[Zju n d (by omega)] at this
  exact this
instance (D:Nat) (q:Rat):Decidable (Sm D q):=by unfold Sm;infer_instance
def sm30 (l:List Rat):Bool:=l.all fun q=>decide (Sm 30 q)
theorem k7:((itx 7).toList==[55])=true:=by decide +kernel
theorem Zxt{w:World}{g:Nat}{l:List Int}{t:TypeId}(h:w.heap[g]?=some (.cells (Qw l).toArray t (0,0))):Rd w (some ⟨g,0,none⟩) (Qw l):=by
 have:=Za1 h
 simpa using this
def Yf:Nat→List Int
 | 0=>[2,3,5] | 1=>[2,3] | 2=>[2,3,5,7] | 3=>[2,3,7] | 4=>[3,5,7] | 5=>[2] | 6=>[2,5,7] | 7=>[2,3,11] | 8=>[2,3,5,13] | _=>[2,3,7,11]
theorem Zim:∀ k,k<10→Qv (Yf k)=0∧(Yf k).length≤4∧0<(Yf k).length∧(∀ p∈Yf k,2≤p∧p≤13):=by decide +kernel
theorem Zp4(w:World)(n:Nat)(hn:n<256):
  Calls Tryz.prog 10 #[.int .u8 n] w fun e w'=>∃ g,e = .returned (.slice (some ⟨g,0,none⟩) (Yf (n%10)).length (Yf (n%10)).length)∧Rd w' (some ⟨g,0,none⟩) (Qw (Yf (n%10)))∧Below w.heap.size w w':=by
 have htm:Int.tmod (n:Int) 10=((n%10:Nat):Int):=by rw[Int.tmod_eq_emod_of_nonneg (by omega)];omega
 have hk:n%10<10:=Nat.mod_lt _ (by decide)
 generalize n%10=k at *
 clear hn;go_enter Tryz.func10,Tryz.ntmps10;have hk':(0:Int)≤k∧(k:Int)<10:=⟨by omega,by omega⟩
 go_wp2_with fail
 go_ret;clear hk';have h10:k=0∨k=1∨k=2∨k=3∨k=4∨k=5∨k=6∨k=7∨k=8∨k=9:=by omega
 rcases h10 with rfl|rfl|rfl|rfl|rfl|rfl|rfl|rfl|rfl|rfl
 all_goals
  refine⟨_,rfl,?_,?_⟩
  ·refine Zxt (t:=3) ?_
   repeat (first | exact Kq _ _ _ _ (by simp) | refine Ks ?_ _)
  ·repeat (first | exact Below.refl _ _ | refine Below.alloc ?_ (by simp;try omega) _)
def Zhk:Nat→Nat
 | 0=>1 | 1=>2 | 2=>3 | 3=>4 | 4=>6 | _=>12
def Zh6 (n:Int) (d:Nat):Rat:=mkRat (n.tmod 41) (Zhk (d%6))
theorem Zo4(k:Nat):0<Zhk k∧Zhk k≤12:=by
 unfold Zhk;split<;>omega
theorem Zlt(w:World)(n:Int)(d:Nat)(_ : -128≤n∧n≤127)(hd:d<256)(L:Qx w):
  Kc Tryz.prog 108 #[.agg #[.int .i8 n,.int .u8 d]] w (fr (Zh6 n d)):=by
 unfold Kc;have t1:=Int.tmod_lt_of_pos n (show (0:Int)<41 by decide)
 have t2:=Int.lt_tmod_of_pos n (show (0:Int)<41 by decide)
 have hdl:=Zo4 (d%6);have HP:Hid (∀ W,Below w.heap.size w W→Kc Tryz.prog 49 #[.int .i64 (n.tmod 41),.int .i64 (Zhk (d%6))] W (fr (Zh6 n d))):=fun W hW=>Qbb W (n.tmod 41) (Zhk (d%6)) (by omega) (by omega) hdl.1 (by omega) (L.below hW)
 have htm:Int.tmod (d:Int) 6=((d%6:Nat):Int):=by rw[Int.tmod_eq_emod_of_nonneg (by omega)];omega
 have hk:d%6<6:=Nat.mod_lt _ (by decide)
 have Hx:Hid (∀ h,([Value.int .i64 1,Value.int .i64 2,Value.int .i64 3,Value.int .i64 4,Value.int .i64 6,Value.int .i64 12]:List Value)[d%6]'h = .int .i64 (Zhk (d%6))):=fun h=>by
  have h6:d%6=0∨d%6=1∨d%6=2∨d%6=3∨d%6=4∨d%6=5:=by omega
  generalize d%6=k at *
  rcases h6 with rfl|rfl|rfl|rfl|rfl|rfl<;>rfl
 unfold fr fv at HP ⊢;generalize Zh6 n d=q at *
 have hw:wrap64 (n.tmod 41)=n.tmod 41:=IntWalk.wrap64_in _ ⟨by omega,by omega⟩
 generalize d%6=k at *
 clear hdl L;have hk':(0:Int)≤k∧(k:Int)<6:=⟨by omega,by omega⟩
 have B0:=hd_ (((Below.refl w.heap.size w).alloc nr_ (.cells #[.int .i8 n,.int .u8 d] 24)).alloc (by simp) (.cells #[.string ⟨#[]⟩,.string ⟨#[]⟩] 101))
 have K0:=hd_ (Ks (Kq w #[.int .i8 n,.int .u8 d] 24 _ rfl) (.cells #[.string ⟨#[]⟩,.string ⟨#[]⟩] 101));have M0:=hd_ (Kq (w.alloc (.cells #[.int .i8 n,.int .u8 d] 24)) #[.string ⟨#[]⟩,.string ⟨#[]⟩] 101 _ rfl);rw[World.size_alloc] at M0;go_enter Tryz.func108,Tryz.ntmps108
 go_wp2_with fail
 generalize (w.alloc (.cells #[.int .i8 n,.int .u8 d] 24)).alloc (.cells #[.string ⟨#[]⟩,.string ⟨#[]⟩] 101)=W0 at *
 obtain⟨k0,k1,-,-⟩:=Ka K0.out;have q0:=BW.cell k0;have q1:=BW.cell k1;have hnon:Nonempty (BW W0):=⟨⟨W0,Below.refl _ _⟩⟩;clear k0 k1 K0;refine RY.wp_region_readers 11 [(1,0),(1,1),(1,2),(1,3),(1,5),(1,6),(1,7),(0,4),(2,8),(0,9),(0,10),(0,11)] (fun w'=>∃ p:BW W0,w'=p.w) (by kernel_rfl) (by kernel_rfl) ?_ ?_
 ·exact⟨⟨{ W0 with drawn:=W0.drawn+1 },⟨rfl,rfl,rfl,Nat.le_refl _,fun _ _=>rfl⟩⟩,rfl⟩
 iterate 7 (refine RY.walkR_read ?_;simp only[Qg,dz_,Qd,tz_];go_big_quiet_step (fail);refine wpQuiet_nil ?_)
 clear q0 q1 hnon;refine RY.walkR_move ?_;simp only[Qg,dz_,Qd,tz_]
 go_wp2_with fail
 have W1:Hid (Below W0.heap.size W0 (W0.alloc (.cells #[.int .i64 1,.int .i64 2,.int .i64 3,.int .i64 4,.int .i64 6,.int .i64 12] 3)).drew):=((Below.refl W0.heap.size W0).alloc nr_ _).drew;refine⟨⟨⟨_,W1.out⟩,rfl⟩,?_⟩;refine RY.walkR_any ?_;simp only[Qg,dz_,Qd,tz_]
 go_big_quiet_step (fail)
 refine wpQuiet_nil ?_;refine RY.walkR_move ?_;simp only[Qg,dz_,Qd,tz_]
 go_wp2_with fail
 refine⟨⟨⟨_,W1.out⟩,rfl⟩,?_⟩;refine RY.walkR_move ?_;simp only[Qg,dz_,Qd,tz_];simp only[Hx.out]
 go_wp2_with fail
 have B1:=hd_ (B0.out.trans (W1.out.mono B0.out.size));refine cm_ (HP.out _ B1.out) ?_;rintro e w5 ⟨rfl,hb5⟩;have W5:=hd_ (W1.out.trans (hb5.mono W1.out.size));have B5:=hd_ (B0.out.trans (W5.out.mono B0.out.size));have M5:=hd_ (Kd M0.out W5.out nr_);clear hb5 HP M0 B0 W1 B1
 go_wp2_with fail
 refine⟨⟨⟨w5,W5.out⟩,rfl⟩,?_⟩;obtain⟨k0,k1,f0,f1⟩:=Ka M5.out;refine RY.walkR_move ?_;simp only[Qg,dz_,Qd,tz_]
 go_wp2_with fail
 simp only[RY.walkR];obtain⟨c0,c1,hb3⟩:=Qc (B:=w.heap.size) (.string (itx q.num)) (.string (dec q.den)) k0 k1 (by omega) B5.out
 go_wp2;exact bodyPost_ret (v := .agg #[.string (itx q.num),.string (dec q.den)]) (by simp[results,Tryz.results108,go_sem,c0,c1]) rfl ⟨rfl,hb3⟩
def RdI (w:World) (a:Option Addr) (ls:List (List Int)):Prop :=
 ls=[]∨∃ b off,a=some ⟨b,off,none⟩∧b<w.heap.size∧∀ i,i<ls.length→∃ a' c',w.cell? ⟨b,off+i,none⟩=some (.slice a' (ls.getD i []).length c')∧Rd w a' (Qw (ls.getD i []))
theorem RdI.below{w w':World}{a:Option Addr}{ls:List (List Int)}{B:Nat}(h:RdI w a ls)(hb:Below B w w')(hB:w.heap.size≤B):RdI w' a ls:=by
 rcases h with h|⟨b,off,h1,h2,h3⟩
 ·exact .inl h
 ·refine .inr ⟨b,off,h1,Nat.lt_of_lt_of_le h2 hb.size,fun i hi=>?_⟩
  obtain⟨a',c',h4,h5⟩:=h3 i hi;exact⟨a',c',by rw[hb.cell (p:=⟨b,off+i,none⟩) (by show b<B;omega)];exact h4,h5.below hb hB⟩
def mx:List Int→Int
 | []=>0
 | x::l=>if 1000<x∨x < -1000 then 4 else mx l
def Zci (f:FuncId) (args:Array Value) (w:World) (l:List Rat):Prop :=
 Calls Tryz.prog f args w fun e w'=>∃ a c,e = .returned (.tuple #[.slice a l.length c,.int .i64 0])∧Zu w' w.heap.size a c l∧Below w.heap.size w w'
def Zbb (f:FuncId) (args:Array Value) (w:World) (code:Int):Prop:=Kc Tryz.prog f args w (.tuple #[.slice none 0 0,.int .i64 code])
theorem Zu.lower{w:World}{B B' c:Nat}{a:Option Addr}{l:List Rat}(h:Zu w B a c l)(hb:B'≤B):Zu w B' a c l:=by
 exact⟨h.1,h.2.imp id fun ⟨g,cap,cur,h1,h2,h3⟩=>⟨g,cap,cur,h1,Nat.le_trans hb h2,h3⟩⟩
theorem Zmn(w:World)(a0:Option Addr)(c0:Nat)(ps:List Int)(hp:Rd w a0 (Qw ps))(hi:Zf3 ps)(hl:ps.length≤1000)(hc:Qv ps=0)(L:Qx w):
  Zci 39 #[.slice a0 ps.length c0] w (List.replicate ps.length 0):=by
 unfold Zci;have H1:=hd_ (Zq w a0 c0 ps hp hi (by omega))
 rw[hc] at H1;have H2:Hid (∀ W,Below w.heap.size w W→Zbv 103 #[.int .i64 ps.length] W (List.replicate ps.length 0)):=fun W hW=>Zn5 W ps.length hl (L.below hW)
 unfold Zbv at H2;simp only[List.length_replicate] at H2 ⊢;clear hp hi hc L;generalize ps.length=n at *
 go_enter Tryz.func39,Tryz.ntmps39
 go_wp2_with fail
 refine cm_ H1.out ?_;rintro e w1 ⟨rfl,hb1⟩;have Hb1:=hd_ hb1;clear hb1 H1
 go_wp2_with fail
 refine cm_ (H2.out _ Hb1.out) ?_;rintro e w2 ⟨a,c,rfl,ho,hb2⟩;have Hb2:=hd_ (Hb1.out.trans (hb2.mono Hb1.out.size));have Ho:=hd_ (Zu.lower ho Hb1.out.size);clear hb2 ho H2 Hb1
 go_wp2_with fail
 go_ret2
 exact⟨a,c,rfl,Ho.out,Hb2.out⟩
theorem Zbm{ps:List Int}(h:Qv ps=0):0<ps.length∧ps.length≤6:=by
 unfold Qv at h;split at h
 ·cases h
 ·split at h
  ·cases h
  ·omega
theorem Zur(w:World)(a:Rat):Kc Tryz.prog 220 #[fr a] w (.bool (!decide (Vw a))):=by
 unfold Kc;have Hs:Hid (∀ W,Kc Tryz.prog 161 #[fr a] W (.bool (decide (Vw a)))):=fun W=>Zws W a
 unfold fr fv at Hs ⊢;have B1:=hd_ ((Below.refl w.heap.size w).alloc nr_ (.cells #[.string (itx a.num),.string (dec a.den)] 101));generalize decide (Vw a)=z at *
 go_enter Tryz.func220,Tryz.ntmps220
 go_wp2_with fail
 refine cm_ (Hs.out _) ?_;rintro e w1 ⟨rfl,hb⟩;have B2:=hd_ (B1.out.trans (hb.mono B1.out.size));clear hb
 go_wp2_with fail
 go_ret;exact⟨rfl,B2.out⟩
def Qt (l:List Rat):Bool:=l.all fun q=>decide (Vw q)
theorem Zqm(w:World)(a:Option Addr)(c:Nat)(l:List Rat)(hr:Rd w a (Kg l))(hl:l.length≤1000):
  Calls Tryz.prog 257 #[.slice a l.length c,.func (.func 220) #[] #[]] w fun e w'=>∃ i:Int,e = .returned (.int .i64 i) ∧ -1≤i∧decide (0≤i) = !Qt l∧Below w.heap.size w w':=by
 have Hr:=hd_ hr;clear hr;have Hall:Hid (∀ k,k≤l.length→(∀ j (h:j<l.length),j<k→decide (Vw l[j])=true)→k=l.length→Qt l=true):=fun k hk h hkl=>by
  unfold Qt;rw[List.all_eq_true];intro q hq;obtain⟨j,hj,rfl⟩:=List.mem_iff_getElem.1 hq;exact h j hj (by omega)
 have Hone:Hid (∀ k (h:k<l.length),decide (Vw l[k])=false→Qt l=false):=fun k h hf=>by
  unfold Qt;rw[List.all_eq_false];exact⟨l[k],List.getElem_mem h,by rw[hf];decide⟩
 obtain⟨m,hm⟩:∃ m,l.length=m:=⟨_,rfl⟩;rw[hm] at hl ⊢;have Hm:=hd_ hm;clear hm;generalize Qt l=z at *
 go_enter Tryz.func257,Tryz.ntmps257
 go_wp2_with fail
 go_loopw [8] (fun i wr=>∃ k:Nat,k≤m∧i = .int .i64 k∧Hid (∀ j (h:j<l.length),j<k→decide (Vw l[j])=true)∧Hid (Below w.heap.size w wr)) (fun i _=>m-(intOf i).toNat)
 case atStart=>exact⟨0,Nat.zero_le _,rfl,fun j _ hj=>absurd hj (Nat.not_lt_zero _),Below.refl _ _⟩
 case round =>
  obtain⟨k,hk,rfl,Hp,B⟩:=hrel
  by_cases hlt:k<m
  ·have hlt':(k:Int)<m:=by omega
   have hkb:k<l.length:=by rw[Hm.out];exact hlt
   obtain⟨b,off,rfl,hb,hcells⟩:=Hr.out.open (by rw[Yy,Hm.out];omega)
   obtain⟨x0,x1⟩:=Zy hcells k (by rw[List.length_map];exact hkb)
   rw[← B.out.cell (p:=⟨b,off+k*2,none⟩) hb,Zbd _ k hkb] at x0;rw[← B.out.cell (p:=⟨b,off+k*2+1,none⟩) hb,Zbd _ k hkb] at x1;have Hc:Hid (Kc Tryz.prog 220 #[fr l[k]] wr (.bool (!decide (Vw l[k])))):=Zur wr _;unfold fr fv at Hc;simp only[qs] at x0 x1;clear hcells
   by_cases hs:decide (Vw l[k])=true
   ·have Hp':Hid (∀ j (h:j<l.length),j<k+1→decide (Vw l[j])=true):=fun j h hj=>by
     rcases Nat.lt_or_ge j k with hh|hh
     ·exact Hp.out j h hh
     ·have e:j=k:=by omega
      subst e;exact hs
    rw[hs] at Hc;clear hs Hp;generalize l[k]=x at *
    go_wp2_with fail
    refine cm_ Hc.out ?_;rintro e w1 ⟨rfl,hb1⟩;have B1:=hd_ (B.out.trans (hb1.mono B.out.size));clear hb1 Hc B x0 x1
    go_wp2_with fail
    go_roundw
    case rel=>exact⟨k+1,by omega,by go_num,Hp',B1⟩
    case measure=>simp[intOf];omega
   ·have hs':decide (Vw l[k])=false:=by simpa using hs
    have Hz:=hd_ (Hone.out k hkb hs');rw[hs'] at Hc;clear hs hs' Hp;generalize l[k]=x at *
    go_wp2_with fail
    refine cm_ Hc.out ?_;rintro e w1 ⟨rfl,hb1⟩;have B1:=hd_ (B.out.trans (hb1.mono B.out.size));clear hb1 Hc B x0 x1
    go_wp2_with fail
    go_ret;exact⟨k,rfl,by omega,by rw[Hz.out];exact decide_eq_true (by omega),B1.out⟩
  ·have hlt':¬ (k:Int)<m:=by omega
   have Hz:=hd_ (Hall.out k (by rw[Hm.out];exact hk) Hp.out (by rw[Hm.out];omega))
   clear Hp
   go_wp2_with fail
   go_ret;exact⟨-1,rfl,by decide,by rw[Hz.out];rfl,B.out⟩
theorem Zep(w:World)(a:Option Addr)(c:Nat)(l:List Rat)(hr:Rd w a (Kg l))(hl:l.length≤1000):
  Kc Tryz.prog 201 #[.slice a l.length c,.func (.func 220) #[] #[]] w (.bool (!Qt l)):=by
 unfold Kc;have Hi:=hd_ (Zqm w a c l hr hl);clear hr hl;generalize Qt l=z at *
 go_enter Tryz.func201,Tryz.ntmps201
 go_wp2_with fail
 refine cm_ Hi.out ?_;rintro e w1 ⟨i,rfl,hi1,hi2,hb⟩;have B:=hd_ hb;have Hz:=hd_ hi2;clear hb Hi hi2
 go_wp2_with fail
 go_ret;exact⟨by rw[← Hz.out];rfl,B.out⟩
theorem Zgw(w:World)(a:Option Addr)(c:Nat)(l:List Rat)(hr:Rd w a (Kg l))(hl:l.length≤1000)(hs:Qt l=true):
  Kc Tryz.prog 140 #[.slice a l.length c] w (.tuple #[.slice a l.length c,.int .i64 0]):=by
 unfold Kc;have Hi:=hd_ (Zep w a c l hr hl);rw[hs] at Hi;clear hr hl hs;go_enter Tryz.func140,Tryz.ntmps140
 go_wp2_with fail
 refine cm_ Hi.out ?_;rintro e w1 ⟨rfl,hb⟩;have B:=hd_ hb;clear hb Hi
 go_wp2_with fail
 go_ret2
 exact⟨rfl,B.out⟩
theorem Zm0(w:World)(a:Option Addr)(c:Nat)(l:List Rat)(hr:Rd w a (Kg l))(hl:l.length≤1000)(hs:Qt l=false):
  Zbb 140 #[.slice a l.length c] w 4:=by
 unfold Zbb Kc;have Hi:=hd_ (Zep w a c l hr hl);rw[hs] at Hi;clear hr hl hs;go_enter Tryz.func140,Tryz.ntmps140
 go_wp2_with fail
 refine cm_ Hi.out ?_;rintro e w1 ⟨rfl,hb⟩;have B:=hd_ hb;clear hb Hi
 go_wp2_with fail
 go_ret2
 exact⟨rfl,B.out⟩
open Classical in
noncomputable def Zaz (x:ByteArray×ByteArray):Bool := !decide (IsQ x.1 x.2)
open Classical in
noncomputable def Yk (l:List (ByteArray×ByteArray)):Bool:=l.all fun x=>decide (IsQ x.1 x.2)
open Classical in
theorem Zzc(w:World)(s t:ByteArray)(hs:s.size≤10000000)(ht:t.size≤10000000)(L:Qx w):Kc Tryz.prog 138 #[.agg #[.string s,.string t]] w (.bool (Zaz (s,t))):=by
 have Hs:Hid (∃ z:Int,∀ W,Below w.heap.size w W→Kc Tryz.prog 139 #[.agg #[.string s,.string t]] W (.int .i64 z))∧True:=by
  refine⟨?_,trivial⟩
  by_cases h:IsQ s t
  ·obtain⟨q,rfl,rfl,hq⟩:=h;exact⟨0,fun W hW=>Ztz W q hq (L.below hW)⟩
  ·exact⟨2,fun W hW=>Zhp W s t hs ht h (L.below hW)⟩
 have Hz:∃ z:Int,(z==0) = !(Zaz (s,t))∧∀ W,Below w.heap.size w W→Kc Tryz.prog 139 #[.agg #[.string s,.string t]] W (.int .i64 z):=by
  by_cases h:IsQ s t
  ·refine⟨0,by unfold Zaz;rw[decide_eq_true h];rfl,?_⟩
   obtain⟨q,rfl,rfl,hq⟩:=h;exact fun W hW=>Ztz W q hq (L.below hW)
  ·exact⟨2,by unfold Zaz;rw[decide_eq_false h];rfl,fun W hW=>Zhp W s t hs ht h (L.below hW)⟩
 obtain⟨z,hz,hc⟩:=Hz;have Hc:=hd_ hc;clear Hs hc hs ht L;unfold Kc;generalize Zaz (s,t)=b at *
 have B1:=hd_ ((Below.refl w.heap.size w).alloc nr_ (.cells #[.string s,.string t] 101));go_enter Tryz.func138,Tryz.ntmps138
 go_wp2_with fail
 refine cm_ (Hc.out _ B1.out) ?_;rintro e w1 ⟨rfl,hb⟩;have B2:=hd_ (B1.out.trans (hb.mono B1.out.size));have Hz:=hd_ hz;clear hb hz
 go_wp2_with fail
 go_ret;refine⟨?_,B2.out⟩;have:=Hz.out
 cases b
 ·have h1:(z==0)=true:=this;have h2:z=0:=by simpa using h1
  subst h2;rfl
 ·have h1:(z==0)=false:=this;have h2:z≠0:=by simpa using h1
  show Ending.returned (Value.bool _)=_
  first | rfl | (simp[h2])
theorem Znf(w:World)(a:Option Addr)(c:Nat)(l:Zch)(hr:Rd w a (Qf l))(hl:l.length≤1000)(hs:Ssz l)(L:Qx w):
  Calls Tryz.prog 217 #[.slice a l.length c,.func (.func 138) #[] #[]] w fun e w'=>∃ i:Int,e = .returned (.int .i64 i) ∧ -1≤i∧decide (0≤i) = !Yk l∧Below w.heap.size w w':=by
 have Hr:=hd_ hr;have Hs:=hd_ hs;have HL:=hd_ L;clear hr hs L;have Hall:Hid (∀ k,k≤l.length→(∀ j (h:j<l.length),j<k→Zaz l[j]=false)→k=l.length→Yk l=true):=fun k hk h hkl=>by
  unfold Yk;rw[List.all_eq_true];intro q hq;obtain⟨j,hj,rfl⟩:=List.mem_iff_getElem.1 hq;have:=h j hj (by omega)
  unfold Zaz at this
  simpa using this
 have Hone:Hid (∀ k (h:k<l.length),Zaz l[k]=true→Yk l=false):=fun k h hf=>by
  unfold Yk;rw[List.all_eq_false];unfold Zaz at hf;exact⟨l[k],List.getElem_mem h,by simpa using hf⟩
 obtain⟨m,hm⟩:∃ m,l.length=m:=⟨_,rfl⟩;rw[hm] at hl ⊢;have Hm:=hd_ hm;clear hm;generalize Yk l=z at *
 go_enter Tryz.func217,Tryz.ntmps217
 go_wp2_with fail
 go_loopw [8] (fun i wr=>∃ k:Nat,k≤m∧i = .int .i64 k∧Hid (∀ j (h:j<l.length),j<k→Zaz l[j]=false)∧Hid (Below w.heap.size w wr)) (fun i _=>m-(intOf i).toNat)
 case atStart=>exact⟨0,Nat.zero_le _,rfl,fun j _ hj=>absurd hj (Nat.not_lt_zero _),Below.refl _ _⟩
 case round =>
  obtain⟨k,hk,rfl,Hp,B⟩:=hrel
  by_cases hlt:k<m
  ·have hlt':(k:Int)<m:=by omega
   have hkb:k<l.length:=by rw[Hm.out];exact hlt
   obtain⟨b,off,rfl,hb,hcells⟩:=Hr.out.open (by rw[Qp,Hm.out];omega)
   obtain⟨x0,x1⟩:=Zy hcells k hkb;rw[← B.out.cell (p:=⟨b,off+k*2,none⟩) hb,show l.getD k default=l[k] by rw[List.getD_eq_getElem?_getD,List.getElem?_eq_getElem hkb];rfl] at x0
   rw[← B.out.cell (p:=⟨b,off+k*2+1,none⟩) hb,show l.getD k default=l[k] by rw[List.getD_eq_getElem?_getD,List.getElem?_eq_getElem hkb];rfl] at x1
   have hsz:=Hs.out _ (List.getElem_mem hkb);have Hc:Hid (Kc Tryz.prog 138 #[.agg #[.string l[k].1,.string l[k].2]] wr (.bool (Zaz l[k]))):=Zzc wr _ _ (by omega) (by omega) (HL.out.below B.out)
   clear hcells hsz
   by_cases hs:Zaz l[k]=false
   ·have Hp':Hid (∀ j (h:j<l.length),j<k+1→Zaz l[j]=false):=fun j h hj=>by
     rcases Nat.lt_or_ge j k with hh|hh
     ·exact Hp.out j h hh
     ·have e:j=k:=by omega
      subst e;exact hs
    rw[hs] at Hc;clear hs Hp;generalize l[k]=x at *
    go_wp2_with fail
    refine cm_ Hc.out ?_;rintro e w1 ⟨rfl,hb1⟩;have B1:=hd_ (B.out.trans (hb1.mono B.out.size));clear hb1 Hc B x0 x1
    go_wp2_with fail
    go_roundw
    case rel=>exact⟨k+1,by omega,by go_num,Hp',B1⟩
    case measure=>simp[intOf];omega
   ·have hs':Zaz l[k]=true:=by simpa using hs
    have Hz:=hd_ (Hone.out k hkb hs');rw[hs'] at Hc;clear hs hs' Hp;generalize l[k]=x at *
    go_wp2_with fail
    refine cm_ Hc.out ?_;rintro e w1 ⟨rfl,hb1⟩;have B1:=hd_ (B.out.trans (hb1.mono B.out.size));clear hb1 Hc B x0 x1
    go_wp2_with fail
    go_ret;exact⟨k,rfl,by omega,by rw[Hz.out];exact decide_eq_true (by omega),B1.out⟩
  ·have hlt':¬ (k:Int)<m:=by omega
   have Hz:=hd_ (Hall.out k (by rw[Hm.out];exact hk) Hp.out (by rw[Hm.out];omega))
   clear Hp
   go_wp2_with fail
   go_ret;exact⟨-1,rfl,by decide,by rw[Hz.out];rfl,B.out⟩
theorem Zbh(w:World)(a:Option Addr)(c:Nat)(l:Zch)(hr:Rd w a (Qf l))(hl:l.length≤1000)(hs:Ssz l)(L:Qx w):
  Kc Tryz.prog 137 #[.slice a l.length c,.func (.func 138) #[] #[]] w (.bool (!Yk l)):=by
 unfold Kc;have Hi:=hd_ (Znf w a c l hr hl hs L);clear hr hl hs L;generalize Yk l=z at *
 go_enter Tryz.func137,Tryz.ntmps137
 go_wp2_with fail
 refine cm_ Hi.out ?_;rintro e w1 ⟨i,rfl,hi1,hi2,hb⟩;have B:=hd_ hb;have Hz:=hd_ hi2;clear hb Hi hi2
 go_wp2_with fail
 go_ret;exact⟨by rw[← Hz.out];rfl,B.out⟩
theorem Znv(w:World)(a0 a1 a2:Option Addr)(c0 c1 c2:Nat)(ps:List Int)(ls:List Zch)(fs:Zch)(rp:Rd w a0 (Qw ps))(hi:Zf3 ps)(hl0:ps.length≤1000000)(rl:RdL w a1 ls)(hl:ls.length≤1000)(hl2:∀ l∈ls,l.length≤1000000∧Ssz l)
  (hc:Zj4 ps ls=0) (rf:Rd w a2 (Qf fs)) (hf:fs.length=ls.length) (hfs:Ssz fs) (hw:Yk fs=false) (L:Qx w):Zbb 57 #[.slice a0 ps.length c0,.slice a1 ls.length c1,.slice a2 fs.length c2] w 2:=by
 unfold Zbb Kc;have H1:=hd_ (Yc w a0 a1 c0 c1 ps ls rp hi hl0 rl (by omega) hl2 L)
 have H2:Hid (∀ W,Below w.heap.size w W→Kc Tryz.prog 137 #[.slice a2 fs.length c2,.func (.func 138) #[] #[]] W (.bool true)):=fun W hW=>by
  have:=Zbh W a2 c2 fs (rf.below hW nr_) (by omega) hfs (L.below hW)
  rw[hw] at this;exact this
 rw[hc] at H1;rw[hf] at *
 clear rp hi hl0 rl hl hl2 hc L rf hfs hw;generalize ps.length=n at *
 generalize ls.length=k at *
 go_enter Tryz.func57,Tryz.ntmps57
 go_wp2_with fail
 refine cm_ H1.out ?_;rintro e w1 ⟨rfl,hb1⟩;have Hb1:=hd_ hb1;clear hb1 H1
 go_wp2_with fail
 refine cm_ (H2.out _ Hb1.out) ?_;rintro e w2 ⟨rfl,hb2⟩;have Hb2:=hd_ (Hb1.out.trans (hb2.mono Hb1.out.size));clear hb2 H2 Hb1
 go_wp2_with fail
 go_ret2
 exact⟨rfl,Hb2.out⟩
theorem Zw3(n:Nat):∀ ls:List (List Rat),(∀ l∈ls,l.length=n∧∀ q∈l,Sm 30 q)→lgo n (ls.map (List.map qs))=0
 | [],_=>rfl
 | l::ls,h=>by
  have h1:=h l List.mem_cons_self;rw[List.map_cons,lgo,if_pos (Zd8 h1.2 h1.1)];exact Zw3 n ls fun m hm=>h m (List.mem_cons_of_mem _ hm)
theorem Zej{ps:List Int}(hp:Qv ps=0){ls:List (List Rat)}(h:∀ l∈ls,l.length=ps.length∧∀ q∈l,Sm 30 q):Zj4 ps (ls.map (List.map qs))=0:=by
 unfold Zj4;rw[if_pos hp];exact Zw3 _ ls h
open Classical in
theorem Zgv(l:List Rat)(h:∀ q∈l,Sm 400 q):Yk (l.map qs)=true:=by
 unfold Yk;rw[List.all_eq_true];intro x hx;obtain⟨q,hq,rfl⟩:=List.mem_map.1 hx;exact decide_eq_true ⟨q,rfl,rfl,h q hq⟩
def Zey (f:FuncId) (args:Array Value) (w:World) (l:List Rat):Prop:=if Qt l=true then
  Calls Tryz.prog f args w fun e w'=>∃ a c,e = .returned (.tuple #[.slice a l.length c,.int .i64 0])∧Rd w' a (Kg l)∧Below w.heap.size w w'
 else Zbb f args w 4
theorem Zcz(w:World)(a0 a1 a2:Option Addr)(c0 c1 c2:Nat)(ps:List Int)(ls:List (List Rat))(fs:List Rat)(rp:Rd w a0 (Qw ps))(hi:Zf3 ps)(hp:Qv ps=0)(rl:RdL w a1 (ls.map (List.map qs)))(hl:ls.length≤100)
  (h:∀ l∈ls,l.length=ps.length∧∀ q∈l,Sm 30 q) (rf:Rd w a2 (Kg fs)) (hf:fs.length=ls.length) (hfs:∀ q∈fs,Sm 400 q) (L:Qx w) :
  Zey 57 #[.slice a0 ps.length c0,.slice a1 ls.length c1,.slice a2 fs.length c2] w (Zd ps.length ls fs):=by
 have hn:=Zbm hp;have H1:=hd_ (Yc w a0 a1 c0 c1 ps (ls.map (List.map qs)) rp hi (by omega) rl (by rw[List.length_map];omega) (by
  intro l hl';obtain⟨m,hm,rfl⟩:=List.mem_map.1 hl';exact⟨by rw[List.length_map,(h m hm).1];omega,Zd3 (h m hm).2⟩) L)
 rw[Zej hp h,List.length_map] at H1;have H2:Hid (∀ W,Below w.heap.size w W→Kc Tryz.prog 137 #[.slice a2 fs.length c2,.func (.func 138) #[] #[]] W (.bool false)):=fun W hW=>by
  have:=Zbh W a2 c2 (fs.map qs) (rf.below hW nr_) (by rw[List.length_map];omega) (fun x hx=>by
   obtain⟨q,hq,rfl⟩:=List.mem_map.1 hx;have h1:=Zj5 q.num 400 (by decide) (hfs q hq).1
   have h2:=(Zad q.den 400 (by decide)).2 (hfs q hq).2
   exact⟨by show (itx q.num).size≤_;omega,by show (dec q.den).size≤_;omega⟩) (L.below hW)
  rw[Zgv fs hfs,List.length_map] at this;exact this
 have H3:Hid (∀ W,Below w.heap.size w W→Zbv 141 #[.int .i64 ps.length,.slice a1 ls.length c1,.slice a2 fs.length c2] W (Zd ps.length ls fs)):=fun W hW =>
  Zjk W a1 a2 c1 c2 ps.length ls fs 30 400 (rl.below hW nr_) (rf.below hW nr_) (fun l hl'=>(h l hl').1) hf (fun l hl'=>(h l hl').2) hfs (by omega) (by omega) (by
   have:(ls.length+1)*(30+400+1)≤101*(30+400+1):=Nat.mul_le_mul_right _ (by omega)
   omega) (L.below hW)
 have hsl:=Zb1 ps.length ls fs (fun l hl'=>(h l hl').1) hf
 have H4:Hid (∀ W a c,Rd W a (Kg (Zd ps.length ls fs))→Qt (Zd ps.length ls fs)=true→Kc Tryz.prog 140 #[.slice a (Zd ps.length ls fs).length c] W (.tuple #[.slice a (Zd ps.length ls fs).length c,.int .i64 0])):=fun W a c hr hs=>Zgw W a c _ hr (by omega) hs
 have H5:Hid (∀ W a c,Rd W a (Kg (Zd ps.length ls fs))→Qt (Zd ps.length ls fs)=false→Kc Tryz.prog 140 #[.slice a (Zd ps.length ls fs).length c] W (.tuple #[.slice none 0 0,.int .i64 4])):=fun W a c hr hs=>Zm0 W a c _ hr (by omega) hs
 unfold Zbv at H3;clear rp hi hp rl hl h rf hfs L hn hsl;rw[hf] at *
 generalize Zd ps.length ls fs=S at *
 generalize ps.length=n at *
 generalize ls.length=k at *
 unfold Zey Zbb Kc
 by_cases hs:Qt S=true
 ·rw[if_pos hs];have Hs:=hd_ hs;clear H5 hs;go_enter Tryz.func57,Tryz.ntmps57
  go_wp2_with fail
  refine cm_ H1.out ?_;rintro e w1 ⟨rfl,hb1⟩;have Hb1:=hd_ hb1;clear hb1 H1
  go_wp2_with fail
  refine cm_ (H2.out _ Hb1.out) ?_;rintro e w2 ⟨rfl,hb2⟩;have Hb2:=hd_ (Hb1.out.trans (hb2.mono Hb1.out.size));clear hb2 H2 Hb1
  go_wp2_with fail
  refine cm_ (H3.out _ Hb2.out) ?_;rintro e w3 ⟨a,c,rfl,ho,hb3⟩;have Hb3:=hd_ (Hb2.out.trans (hb3.mono Hb2.out.size));have Hr:=hd_ ho.rd;clear hb3 H3 Hb2 ho
  go_wp2_with fail
  refine cm_ (H4.out _ _ _ Hr.out Hs.out) ?_;rintro e w4 ⟨rfl,hb4⟩;have Hb4:=hd_ (Hb3.out.trans (hb4.mono Hb3.out.size));have Hr4:=hd_ (Hr.out.below hb4 nr_);clear hb4 H4 Hb3 Hr
  go_wp2_with fail
  go_ret2
  exact⟨a,c,rfl,Hr4.out,Hb4.out⟩
 ·rw[if_neg hs];have Hs:Hid (Qt S=false):=by show _=_;simpa using hs
  clear H4 hs;go_enter Tryz.func57,Tryz.ntmps57
  go_wp2_with fail
  refine cm_ H1.out ?_;rintro e w1 ⟨rfl,hb1⟩;have Hb1:=hd_ hb1;clear hb1 H1
  go_wp2_with fail
  refine cm_ (H2.out _ Hb1.out) ?_;rintro e w2 ⟨rfl,hb2⟩;have Hb2:=hd_ (Hb1.out.trans (hb2.mono Hb1.out.size));clear hb2 H2 Hb1
  go_wp2_with fail
  refine cm_ (H3.out _ Hb2.out) ?_;rintro e w3 ⟨a,c,rfl,ho,hb3⟩;have Hb3:=hd_ (Hb2.out.trans (hb3.mono Hb2.out.size));have Hr:=hd_ ho.rd;clear hb3 H3 Hb2 ho
  go_wp2_with fail
  refine cm_ (H5.out _ _ _ Hr.out Hs.out) ?_;rintro e w4 ⟨rfl,hb4⟩;have Hb4:=hd_ (Hb3.out.trans (hb4.mono Hb3.out.size));clear hb4 H5 Hb3 Hr
  go_wp2_with fail
  go_ret2
  exact⟨rfl,Hb4.out⟩
def Zdi (nu:Nat→Int) (de:Nat→Nat):Array Value := #[.int .i8 (nu 0),.int .u8 (de 0),.int .i8 (nu 1),.int .u8 (de 1),.int .i8 (nu 2),.int .u8 (de 2),.int .i8 (nu 3),.int .u8 (de 3)]
def Za2 (nu:Nat→Int) (de:Nat→Nat) (m:Nat):List Rat:=(List.range m).map fun i=>Zh6 (nu i) (de i)
theorem Zb4(nu:Nat→Int)(de:Nat→Nat)(m:Nat):(Za2 nu de m).length=m:=by simp[Za2]
theorem Zm3(nu:Nat→Int)(de:Nat→Nat)(m:Nat):Za2 nu de (m+1)=Za2 nu de m++[Zh6 (nu m) (de m)]:=by simp[Za2,List.range_succ]
theorem Zm2{w:World}{g:Nat}{nu:Nat→Int}{de:Nat→Nat}{t:TypeId}(h:w.heap[g]?=some (.cells (Zdi nu de) t (0,0)))(k:Nat)(hk:k<4):
  w.cell? ⟨g,k*2,none⟩=some (.int .i8 (nu k))∧w.cell? ⟨g,k*2+1,none⟩=some (.int .u8 (de k)):=by
 have h4:k=0∨k=1∨k=2∨k=3:=by omega
 rcases h4 with rfl|rfl|rfl|rfl<;>exact⟨by rw[cell_of_row w g _ _ t (0,0) h];rfl,by rw[cell_of_row w g _ _ t (0,0) h];rfl⟩
theorem Zop{w:World}{B c:Nat}{a:Option Addr}{l:List Rat}(h:Zu w B a c l):w.ownsRow B 101 2 (.slice a l.length c) l.length (Kg l):=by
 have:w.ownsRow B 101 2 (.slice a (l.map qs).length c) (l.map qs).length (Qf (l.map qs)):=h
 rw[List.length_map] at this;exact this
theorem Zoo{w:World}{B c:Nat}{a:Option Addr}{l:List Rat}(h:w.ownsRow B 101 2 (.slice a l.length c) l.length (Kg l)):Zu w B a c l:=by
 show w.ownsRow B 101 2 (.slice a (l.map qs).length c) (l.map qs).length (Qf (l.map qs))
 rw[List.length_map];exact h
theorem Zvh(w:World)(a0:Option Addr)(c0 m:Nat)(hm:m≤4)(nu:Nat→Int)(de:Nat→Nat)(hn:∀ k,-128≤nu k∧nu k≤127)(hd:∀ k,de k<256)(L:Qx w):
  Calls Tryz.prog 43 #[.slice a0 m c0,.agg (Zdi nu de)] w fun e w'=>∃ a c,e = .returned (.slice a m c)∧Zu w' w.heap.size a c (Za2 nu de m)∧Below w.heap.size w w':=by
 have HF:Hid (∀ W k,Below w.heap.size w W→Kc Tryz.prog 108 #[.agg #[.int .i8 (nu k),.int .u8 (de k)]] W (fr (Zh6 (nu k) (de k)))):=fun W k hW=>Zlt W (nu k) (de k) (hn k) (hd k) (L.below hW)
 unfold fr fv at HF;have B0:=hd_ (((Below.refl w.heap.size w).alloc nr_ (.cells (Zdi nu de) 26)).alloc (by simp) (.cells #[] 101))
 have K0:=hd_ (Ks (Kq w (Zdi nu de) 26 _ rfl) (.cells #[] 101));have O0:Hid (Zu ((w.alloc (.cells (Zdi nu de) 26)).alloc (.cells #[] 101)) (w.heap.size+1) (some ⟨w.heap.size+1,0,none⟩) 0 (Za2 nu de 0)):=by
  have:=Zle (w.alloc (.cells (Zdi nu de) 26)) [] (by simp)
  rw[World.size_alloc] at this;exact this
 have Hp0:Hid (Zdi nu de = #[.int .i8 (nu 0),.int .u8 (de 0),.int .i8 (nu 1),.int .u8 (de 1),.int .i8 (nu 2),.int .u8 (de 2),.int .i8 (nu 3),.int .u8 (de 3)]):=hd_ rfl;clear L hn hd;unfold Zdi at *
 go_enter Tryz.func43,Tryz.ntmps43
 go_wp2_with fail
 generalize (w.alloc (.cells #[.int .i8 (nu 0),.int .u8 (de 0),.int .i8 (nu 1),.int .u8 (de 1),.int .i8 (nu 2),.int .u8 (de 2),.int .i8 (nu 3),.int .u8 (de 3)] 26)).alloc (.cells #[] 101)=W0 at *
 go_loopw [5,6] (fun o i wr=>∃ (k:Nat) (b:Option Addr) (d:Nat),k≤m∧i = .int .i64 k∧o = .slice b k d∧Hid (wr.heap[w.heap.size]?=some (.cells #[.int .i8 (nu 0),.int .u8 (de 0),.int .i8 (nu 1),.int .u8 (de 1),.int .i8 (nu 2),.int .u8 (de 2),.int .i8 (nu 3),.int .u8 (de 3)] 26 (0,0)))∧Hid (Zu wr (w.heap.size+1) b d (Za2 nu de k))∧Hid (Below w.heap.size w wr)) (fun _ i _=>m-(intOf i).toNat)
 case atStart=>exact⟨0,_,_,Nat.zero_le _,rfl,rfl,K0,O0,B0⟩
 case round =>
  clear B0 K0 O0;obtain⟨k,b,d,hk,rfl,rfl,K,O,B⟩:=hrel
  by_cases hlt:k<m
  ·have hlt':(k:Int)<m:=by omega
   have htm:Int.tmod (k:Int) 4=k:=by rw[Int.tmod_eq_emod_of_nonneg (by omega)];omega
   obtain⟨x0,x1⟩:=Zm2 (nu:=nu) (de:=de) K.out k (by omega)
   have hk4:(0:Int)≤k∧(k:Int)<4:=⟨by omega,by omega⟩
   have Hf:=hd_ (HF.out wr k B.out);have Hs:=hd_ (Zm3 nu de k);generalize Zh6 (nu k) (de k)=q at *
   generalize nu k=z at *
   generalize de k=y at *
   go_wp2_with fail
   refine cm_ Hf.out ?_;rintro e w1 ⟨rfl,hb1⟩;have hsz:=(Array.getElem?_eq_some_iff.1 K.out).1;have B1:=hd_ (B.out.trans (hb1.mono B.out.size));have K1:=hd_ (Kd K.out hb1 nr_);have O1:=hd_ (O.out.below hb1 nr_);have S1:=hd_ (Nat.le_trans hsz hb1.size);clear hb1 Hf B K O x0 x1 hsz;have Ow:Hid (w1.ownsRow (w.heap.size+1) 101 2 (.slice b k d) k (Kg (Za2 nu de k))):=by
    have:=Zop O1.out
    rw[Zb4] at this;exact this
   go_wp2_with (at_builtin;refine Km rfl (.tmp 14) (.tmp 20) 35 rfl elQ _ 1 [.string (itx q.num),.string (dec q.den)] rfl rfl Ow.out S1.out rfl (by simp[Value.oneCell']) (by omega) (by omega) ?_)
   intro v' w3 hown3 hg3 hnil3;have hlow:∀ j,j<w.heap.size+1→w3.heap[j]?=w1.heap[j]?:=fun j hj=>by
    have hs1:=S1.out;have hjl:j<w1.heap.size:=by omega
    rw[hg3.block j (by simp;omega) (fun e=>by have:=(Ow.out.lt j e.symm).1;omega)]
    exact((Below.refl w1.heap.size w1).alloc nr_ _).block j hjl
   have K3:Hid (w3.heap[w.heap.size]?=some (.cells #[.int .i8 (nu 0),.int .u8 (de 0),.int .i8 (nu 1),.int .u8 (de 1),.int .i8 (nu 2),.int .u8 (de 2),.int .i8 (nu 3),.int .u8 (de 3)] 26 (0,0))):=by
    show _=_
    rw[hlow _ (by omega)]
    exact K1.out
   have B3:Hid (Below w.heap.size w w3):=(B1.out.alloc B1.out.size _).grown hg3 (by simp;have:=B1.out.size;omega) (fun j hj=>by have:=(Ow.out.lt j hj).1;omega)
   obtain⟨b3,d3,rfl⟩:=Ky hown3;have O3:Hid (Zu w3 (w.heap.size+1) b3 d3 (Za2 nu de (k+1))):=by
    refine Zoo ?_;rw[Zb4,Hs.out];unfold Kg;rw[List.map_append,Zkf];exact hown3
   clear hown3 hg3 hnil3 hlow B1 K1 O1 S1 Ow
   go_wp2_with fail
   go_roundw
   case rel=>exact⟨k+1,b3,d3,by omega,by go_num,rfl,K3,O3,B3⟩
   case measure=>simp[intOf];omega
  ·have hlt':¬ (k:Int)<m:=by omega
   have hkm:k=m:=by omega
   subst hkm
   go_wp2_with fail
   go_ret;exact⟨b,d,rfl,O.out.lower (by omega),B.out⟩
def Zc (f:FuncId) (args:Array Value) (w:World) (code:Int) (l:List Rat):Prop :=
 Calls Tryz.prog f args w fun e w'=>∃ a c,e = .returned (.tuple #[.slice a (if code=0 then l.length else 0) c,.int .i64 code])∧(code=0→Rd w' a (Kg l))∧Below w.heap.size w w'
def Zh (l:List Rat):Int:=if Qt l=true then 0 else 4
theorem Zey.code{f:FuncId}{args:Array Value}{w:World}{l:List Rat}(h:Zey f args w l):Zc f args w (Zh l) l:=by
 unfold Zey at h;unfold Zc Zh
 by_cases hs:Qt l=true
 ·rw[if_pos hs] at h ⊢;refine cm_ h ?_;rintro e w' ⟨a,c,rfl,hr,hb⟩;exact⟨a,c,rfl,fun _=>hr,hb⟩
 ·rw[if_neg hs] at h ⊢;refine cm_ h ?_;rintro e w' ⟨rfl,hb⟩;exact⟨none,0,rfl,fun h4=>absurd h4 (by decide),hb⟩
theorem Zbb.code{f:FuncId}{args:Array Value}{w:World}{code:Int}(hc:code≠0)(l:List Rat)(h:Zbb f args w code):Zc f args w code l:=by
 unfold Zc;rw[if_neg hc];refine cm_ h ?_;rintro e w' ⟨rfl,hb⟩;exact⟨none,0,rfl,fun h4=>absurd h4 hc,hb⟩
theorem Zc.lower{f:FuncId}{args:Array Value}{w:World}{code:Int}{l:List Rat}(h:Zc f args w code l):∃ z:Nat,Calls Tryz.prog f args w fun e w'=>∃ a c,e = .returned (.tuple #[.slice a z c,.int .i64 code])∧(code=0→Rd w' a (Kg l))∧Below w.heap.size w w':=⟨_,h⟩
theorem Zy0(w:World)(ps:List Int)(a0 a1 a2:Option Addr)(c0 c1 c2:Nat)(la lb:List Rat)(rp:Rd w a0 (Qw ps))(hi:Zf3 ps)(hp:Qv ps=0)(r1:Rd w a1 (Kg la))(r2:Rd w a2 (Kg lb))(l1:la.length=ps.length)(l2:lb.length=ps.length)
  (s1:∀ q∈la,Sm 30 q) (s2:∀ q∈lb,Sm 30 q) (L:Qx w) :
  Zc 40 #[.slice a0 ps.length c0,.slice a1 la.length c1,.slice a2 lb.length c2] w (Zh (Zd ps.length [la,lb] [1,((1:Int):Rat)])) (Zd ps.length [la,lb] [1,((1:Int):Rat)]):=by
 obtain⟨u,hu⟩:∃ q:Rat,q=1:=⟨_,rfl⟩;obtain⟨v,hv⟩:∃ q:Rat,q=((1:Int):Rat):=⟨_,rfl⟩;rw[← hv,← hu];have Hc:Hid (∀ W g1 g2,Below w.heap.size w W→W.heap[g1]?=some (.cells #[.slice a1 la.length c1,.slice a2 lb.length c2] 35 (0,0))→W.heap[g2]?=some (.cells #[.string (itx u.num),.string (dec u.den),.string (itx v.num),.string (dec v.den)] 101 (0,0)) →
   Zc 57 #[.slice a0 ps.length c0,.slice (some ⟨g1,0,none⟩) 2 2,.slice (some ⟨g2,0,none⟩) 2 2] W (Zh (Zd ps.length [la,lb] [u,v])) (Zd ps.length [la,lb] [u,v])):=fun W g1 g2 hW h1 h2 =>
  (Zcz W a0 _ _ c0 2 2 ps [la,lb] [u,v] (rp.below hW nr_) hi hp (Ze8 (l1:=la.map qs) (l2:=lb.map qs) (by rw[List.length_map,List.length_map];exact h1) (r1.below hW nr_) (r2.below hW nr_)) (by simp)
   (by intro l hl;simp only[List.mem_cons,List.not_mem_nil,or_false] at hl;rcases hl with rfl | rfl;exact⟨l1,s1⟩;exact⟨l2,s2⟩) (Za1 h2) rfl
   (by intro q hq;simp only[List.mem_cons,List.not_mem_nil,or_false] at hq;rcases hq with rfl | rfl;subst hu;exact Sm.le (D:=1) ⟨by decide +kernel,by decide +kernel⟩ (by decide);subst hv;exact Sm.le (D:=2) ⟨by decide +kernel,by decide +kernel⟩ (by decide)) (L.below hW)).code
 have N1:Hid (∀ W,Below w.heap.size w W→Kc Tryz.prog 58 #[.int .i64 1] W (fr u)):=fun W hW=>by subst hu;exact Zfb W 1 (by decide) (by decide) (L.below hW)
 have N2:Hid (∀ W,Below w.heap.size w W→Kc Tryz.prog 58 #[.int .i64 1] W (fr v)):=fun W hW=>by subst hv;exact Zfb W 1 (by decide) (by decide) (L.below hW)
 unfold fr fv at N1 N2;unfold Zc at Hc ⊢;clear hu hv rp hi hp r1 r2 l1 l2 s1 s2 L;generalize Zd ps.length [la,lb] [u,v]=S at *
 generalize Zh S=code at *
 generalize (if code=0 then S.length else 0)=z at *
 generalize ps.length=n at *
 generalize la.length=na at *
 generalize lb.length=nb at *
 have B0:=hd_ ((Below.refl w.heap.size w).alloc nr_ (.cells #[.slice a1 na c1,.slice a2 nb c2] 35));have K0:=hd_ (Kq w #[.slice a1 na c1,.slice a2 nb c2] 35 _ rfl);go_enter Tryz.func40,Tryz.ntmps40
 go_wp2_with fail
 generalize w.alloc (.cells #[.slice a1 na c1,.slice a2 nb c2] 35)=w0 at *
 refine cm_ (N1.out _ B0.out) ?_;rintro e w1 ⟨rfl,hb⟩;have B1:=hd_ (B0.out.trans (hb.mono B0.out.size));have K1:=hd_ (Kd K0.out hb nr_);clear hb B0 K0
 go_wp2_with fail
 refine cm_ (N2.out _ B1.out) ?_;rintro e w2 ⟨rfl,hb⟩;have B2:=hd_ (B1.out.trans (hb.mono B1.out.size));have K2:=hd_ (Kd K1.out hb nr_);clear hb B1 K1 N1 N2
 go_wp2_with fail
 have B3:=hd_ (B2.out.alloc B2.out.size (.cells #[.string (itx u.num),.string (dec u.den),.string (itx v.num),.string (dec v.den)] 101));have K3:=hd_ (Ks K2.out (.cells #[.string (itx u.num),.string (dec u.den),.string (itx v.num),.string (dec v.den)] 101));have M3:=hd_ (Kq w2 #[.string (itx u.num),.string (dec u.den),.string (itx v.num),.string (dec v.den)] 101 _ rfl);generalize w2.alloc (.cells #[.string (itx u.num),.string (dec u.den),.string (itx v.num),.string (dec v.den)] 101)=w3 at *
 refine cm_ (Hc.out _ _ _ B3.out K3.out M3.out) ?_;rintro e w4 ⟨a,c,rfl,hr,hb⟩;have Hr:=hd_ hr;have B4:=hd_ (B3.out.trans (hb.mono B3.out.size));clear hr hb Hc B2 K2 B3 K3 M3
 go_wp2_with fail
 go_ret2
 exact⟨a,c,rfl,Hr.out,B4.out⟩
theorem Zr1(w:World)(ps:List Int)(a0 a1 a2:Option Addr)(c0 c1 c2:Nat)(la lb:List Rat)(rp:Rd w a0 (Qw ps))(hi:Zf3 ps)(hp:Qv ps=0)(r1:Rd w a1 (Kg la))(r2:Rd w a2 (Kg lb))(l1:la.length=ps.length)(l2:lb.length=ps.length)
  (s1:∀ q∈la,Sm 30 q) (s2:∀ q∈lb,Sm 30 q) (L:Qx w) :
  Zc 16 #[.slice a0 ps.length c0,.slice a1 la.length c1,.slice a2 lb.length c2] w (Zh (Zd ps.length [la,lb] [1,(((-1):Int):Rat)])) (Zd ps.length [la,lb] [1,(((-1):Int):Rat)]):=by
 obtain⟨u,hu⟩:∃ q:Rat,q=1:=⟨_,rfl⟩;obtain⟨v,hv⟩:∃ q:Rat,q=(((-1):Int):Rat):=⟨_,rfl⟩;rw[← hv,← hu];have Hc:Hid (∀ W g1 g2,Below w.heap.size w W→W.heap[g1]?=some (.cells #[.slice a1 la.length c1,.slice a2 lb.length c2] 35 (0,0))→W.heap[g2]?=some (.cells #[.string (itx u.num),.string (dec u.den),.string (itx v.num),.string (dec v.den)] 101 (0,0)) →
   Zc 57 #[.slice a0 ps.length c0,.slice (some ⟨g1,0,none⟩) 2 2,.slice (some ⟨g2,0,none⟩) 2 2] W (Zh (Zd ps.length [la,lb] [u,v])) (Zd ps.length [la,lb] [u,v])):=fun W g1 g2 hW h1 h2 =>
  (Zcz W a0 _ _ c0 2 2 ps [la,lb] [u,v] (rp.below hW nr_) hi hp (Ze8 (l1:=la.map qs) (l2:=lb.map qs) (by rw[List.length_map,List.length_map];exact h1) (r1.below hW nr_) (r2.below hW nr_)) (by simp)
   (by intro l hl;simp only[List.mem_cons,List.not_mem_nil,or_false] at hl;rcases hl with rfl | rfl;exact⟨l1,s1⟩;exact⟨l2,s2⟩) (Za1 h2) rfl
   (by intro q hq;simp only[List.mem_cons,List.not_mem_nil,or_false] at hq;rcases hq with rfl | rfl;subst hu;exact Sm.le (D:=1) ⟨by decide +kernel,by decide +kernel⟩ (by decide);subst hv;exact Sm.le (D:=2) ⟨by decide +kernel,by decide +kernel⟩ (by decide)) (L.below hW)).code
 have N1:Hid (∀ W,Below w.heap.size w W→Kc Tryz.prog 58 #[.int .i64 1] W (fr u)):=fun W hW=>by subst hu;exact Zfb W 1 (by decide) (by decide) (L.below hW)
 have N2:Hid (∀ W,Below w.heap.size w W→Kc Tryz.prog 58 #[.int .i64 (-1)] W (fr v)):=fun W hW=>by subst hv;exact Zfb W (-1) (by decide) (by decide) (L.below hW)
 unfold fr fv at N1 N2;unfold Zc at Hc ⊢;clear hu hv rp hi hp r1 r2 l1 l2 s1 s2 L;generalize Zd ps.length [la,lb] [u,v]=S at *
 generalize Zh S=code at *
 generalize (if code=0 then S.length else 0)=z at *
 generalize ps.length=n at *
 generalize la.length=na at *
 generalize lb.length=nb at *
 have B0:=hd_ ((Below.refl w.heap.size w).alloc nr_ (.cells #[.slice a1 na c1,.slice a2 nb c2] 35));have K0:=hd_ (Kq w #[.slice a1 na c1,.slice a2 nb c2] 35 _ rfl);go_enter Tryz.func16,Tryz.ntmps16
 go_wp2_with fail
 generalize w.alloc (.cells #[.slice a1 na c1,.slice a2 nb c2] 35)=w0 at *
 refine cm_ (N1.out _ B0.out) ?_;rintro e w1 ⟨rfl,hb⟩;have B1:=hd_ (B0.out.trans (hb.mono B0.out.size));have K1:=hd_ (Kd K0.out hb nr_);clear hb B0 K0
 go_wp2_with fail
 refine cm_ (N2.out _ B1.out) ?_;rintro e w2 ⟨rfl,hb⟩;have B2:=hd_ (B1.out.trans (hb.mono B1.out.size));have K2:=hd_ (Kd K1.out hb nr_);clear hb B1 K1 N1 N2
 go_wp2_with fail
 have B3:=hd_ (B2.out.alloc B2.out.size (.cells #[.string (itx u.num),.string (dec u.den),.string (itx v.num),.string (dec v.den)] 101));have K3:=hd_ (Ks K2.out (.cells #[.string (itx u.num),.string (dec u.den),.string (itx v.num),.string (dec v.den)] 101));have M3:=hd_ (Kq w2 #[.string (itx u.num),.string (dec u.den),.string (itx v.num),.string (dec v.den)] 101 _ rfl);generalize w2.alloc (.cells #[.string (itx u.num),.string (dec u.den),.string (itx v.num),.string (dec v.den)] 101)=w3 at *
 refine cm_ (Hc.out _ _ _ B3.out K3.out M3.out) ?_;rintro e w4 ⟨a,c,rfl,hr,hb⟩;have Hr:=hd_ hr;have B4:=hd_ (B3.out.trans (hb.mono B3.out.size));clear hr hb Hc B2 K2 B3 K3 M3
 go_wp2_with fail
 go_ret2
 exact⟨a,c,rfl,Hr.out,B4.out⟩
noncomputable def Zcs (n:Nat) (la:List Rat) (s t:ByteArray):Int:=open Classical in if h:IsQ s t then Zh (Zd n [la] [h.choose]) else 2
noncomputable def Zk4 (n:Nat) (la:List Rat) (s t:ByteArray):List Rat:=open Classical in if h:IsQ s t then Zd n [la] [h.choose] else []
theorem Zsa(w:World)(ps:List Int)(a0 a1:Option Addr)(c0 c1:Nat)(la:List Rat)(s t:ByteArray)(rp:Rd w a0 (Qw ps))(hi:Zf3 ps)(hp:Qv ps=0)(r1:Rd w a1 (Kg la))(l1:la.length=ps.length)
  (s1:∀ q∈la,Sm 30 q) (hs:s.size≤1000000) (ht:t.size≤1000000) (L:Qx w) :
  Zc 117 #[.slice a0 ps.length c0,.slice a1 la.length c1,.agg #[.string s,.string t]] w (Zcs ps.length la s t) (Zk4 ps.length la s t):=by
 have Hc:Hid (∀ W g1 g2,Below w.heap.size w W→W.heap[g1]?=some (.cells #[.slice a1 la.length c1] 35 (0,0))→W.heap[g2]?=some (.cells #[.string s,.string t] 101 (0,0)) →
   Zc 57 #[.slice a0 ps.length c0,.slice (some ⟨g1,0,none⟩) 1 1,.slice (some ⟨g2,0,none⟩) 1 1] W (Zcs ps.length la s t) (Zk4 ps.length la s t)):=fun W g1 g2 hW h1 h2=>by
  have rl:RdL W (some ⟨g1,0,none⟩) ([la].map (List.map qs)):=Zsd (l1:=la.map qs) (by rw[List.length_map];exact h1) (r1.below hW nr_)
  have hall:∀ l∈[la],l.length=ps.length∧∀ q∈l,Sm 30 q:=by intro l hl;simp only[List.mem_cons,List.not_mem_nil,or_false] at hl;subst hl;exact⟨l1,s1⟩
  have hn:=Zbm hp;unfold Zcs Zk4
  by_cases h:IsQ s t
  ·rw[dif_pos h,dif_pos h];have hsp:=h.choose_spec;generalize h.choose=k at *
   obtain⟨rfl,rfl,hk⟩:=hsp;exact(Zcz W a0 _ _ c0 1 1 ps [la] [k] (rp.below hW nr_) hi hp rl (by simp) hall (Za1 h2) rfl
    (by intro q hq;simp only[List.mem_cons,List.not_mem_nil,or_false] at hq;subst hq;exact hk) (L.below hW)).code
  ·rw[dif_neg h,dif_neg h];refine(Znv W a0 _ _ c0 1 1 ps ([la].map (List.map qs)) [(s,t)] (rp.below hW nr_) hi (by omega) rl (by simp) (by
    intro l hl;simp only[List.map_cons,List.map_nil,List.mem_cons,List.not_mem_nil,or_false] at hl;subst hl;exact⟨by rw[List.length_map];omega,Zd3 s1⟩) (Zej hp hall) (Za1 h2) rfl (by
    intro x hx;simp only[List.mem_cons,List.not_mem_nil,or_false] at hx;subst hx;exact⟨hs,ht⟩) (by unfold Yk;simp[h]) (L.below hW)).code (by decide) []
 unfold Zc at Hc ⊢;clear rp hi hp r1 l1 s1 hs ht L;generalize Zk4 ps.length la s t=S at *
 generalize Zcs ps.length la s t=code at *
 generalize (if code=0 then S.length else 0)=z at *
 generalize ps.length=n at *
 generalize la.length=na at *
 have B0:=hd_ ((Below.refl w.heap.size w).alloc nr_ (.cells #[.string s,.string t] 101));have N0:=hd_ (Kq w #[.string s,.string t] 101 _ rfl);go_enter Tryz.func117,Tryz.ntmps117;obtain⟨k0,k1,-,-⟩:=Ka N0.out
 go_wp2_with fail
 have B1:=hd_ (B0.out.alloc B0.out.size (.cells #[.slice a1 na c1] 35));have B2:=hd_ (B1.out.alloc B1.out.size (.cells #[.string s,.string t] 101));have z1:(w.alloc (.cells #[.string s,.string t] 101)).heap.size=w.heap.size+1:=by show (w.heap.push _).size=_;exact Array.size_push ..
 have z2:((w.alloc (.cells #[.string s,.string t] 101)).alloc (.cells #[.slice a1 na c1] 35)).heap.size=w.heap.size+1+1:=by rw[← z1];show ((w.alloc _).heap.push _).size=_;exact Array.size_push ..
 refine cm_ (Hc.out _ _ _ B2.out (Ks (Kq _ _ _ _ z1) _) (Kq _ _ _ _ z2)) ?_;rintro e w5 ⟨a5,c5,rfl,hr,hb⟩;have Hr:=hd_ hr;have B3:=hd_ (B2.out.trans (hb.mono B2.out.size));clear hr hb z1 z2 Hc
 go_wp2_with fail
 go_ret2
 exact⟨a5,c5,rfl,Hr.out,B3.out⟩
end Go.Proofs.YtbielfplgbammaaGreatDoor

namespace Go.Proofs.YtbielfplgbammaaGreatDoor
open Go.RowKit Go.Proofs.YtbielfplgbammaaGreatDoor.RY
def Kx (la lb:List Rat) (k m:Rat):List Rat:=List.zipWith (fun x y=>x*k+y*m) la lb
theorem Qr(la lb:List Rat)(k m:Rat)(h:la.length=lb.length):(Kx la lb k m).length=la.length:=by simp[Kx,h]
end Go.Proofs.YtbielfplgbammaaGreatDoor

namespace Go.Proofs.YtbielfplgbammaaGreatDoor
open Go.RowKit
theorem Zc1(n:Nat)(la lb:List Rat)(f g:Rat)(h1:la.length=n)(h2:lb.length=n):Zd n [la,lb] [f,g]=Kx la lb f g:=by
 show Zcl (Zcl (List.replicate n 0) la f) lb g=_
 refine List.ext_getElem (by simp[Zcl,Kx,h1,h2]) fun i hi1 hi2=>?_
 simp only[Zcl,Kx,List.getElem_zipWith,List.getElem_replicate,Rat.zero_add]
theorem Zr0(n:Nat)(la:List Rat)(f:Rat)(h1:la.length=n):Zd n [la] [f]=Kx la la f 0:=by
 show Zcl (List.replicate n 0) la f=_
 refine List.ext_getElem (by simp[Zcl,Kx,h1]) fun i hi1 hi2=>?_
 simp only[Zcl,Kx,List.getElem_zipWith,List.getElem_replicate,Rat.zero_add,Rat.mul_zero,Rat.add_zero]
theorem Zvx(n:Int)(d:Nat):Sm 2 (Zh6 n d):=by
 have t1:=Int.tmod_lt_of_pos n (show (0:Int)<41 by decide)
 have t2:=Int.lt_tmod_of_pos n (show (0:Int)<41 by decide)
 have hd:=Zo4 (d%6);exact Sm.mk' (by omega) (by show _<100;omega) (by show _<100;omega)
theorem Zsk(nu:Nat→Int)(de:Nat→Nat)(m:Nat):∀ q∈Za2 nu de m,Sm 2 q:=by
 intro q hq;obtain⟨i,_,rfl⟩:=List.mem_map.1 hq;exact Zvx _ _
theorem Znw{la lb:List Rat}{f g:Rat}{D E F G:Nat}(h1:∀ q∈la,Sm D q)(h2:∀ q∈lb,Sm E q)(hf:Sm F f)(hg:Sm G g):∀ q∈Kx la lb f g,Sm ((D+F)+(E+G)+1) q:=by
 intro q hq;obtain⟨i,hi,rfl⟩:=List.mem_iff_getElem.1 hq;simp only[Kx,List.getElem_zipWith];have hi':i<la.length∧i<lb.length:=by simp[Kx] at hi;omega
 exact Sm.add (Sm.mul (h1 _ (List.getElem_mem hi'.1)) hf) (Sm.mul (h2 _ (List.getElem_mem hi'.2)) hg)
theorem Zdl{l:List Rat}{D:Nat}(h:∀ q∈l,Sm D q)(hD:D≤30):Qt l=true:=by
 unfold Qt;rw[List.all_eq_true];intro q hq;exact decide_eq_true ((h q hq).le hD)
theorem Zwr:Sm 1 (1:Rat):=⟨by decide +kernel,by decide +kernel⟩
theorem Zxo:Sm 1 (((-1:Int):Rat)):=⟨by decide +kernel,by decide +kernel⟩
theorem Zd2(la lb:List Rat)(g:Rat)(h1:∀ q∈la,Sm 2 q)(h2:∀ q∈lb,Sm 2 q)(hg:Sm 1 g):Zh (Kx la lb 1 g)=0:=by
 unfold Zh;rw[if_pos (Zdl (Znw h1 h2 Zwr hg) (by decide))]
end Go.Proofs.YtbielfplgbammaaGreatDoor

namespace Go.Proofs.YtbielfplgbammaaGreatDoor
open Go.RowKit Go.Proofs.YtbielfplgbammaaGreatDoor.RY
structure Zdd (w:World) (ps:List Int) (la lb:List Rat) (s t:ByteArray):Prop where
 hi:Zf3 ps
 hp:Qv ps=0
 l1:la.length=ps.length
 l2:lb.length=ps.length
 s1:∀ q∈la,Sm 2 q
 s2:∀ q∈lb,Sm 2 q
 hs:s.size≤45
 ht:t.size≤45
 L:Qx w
theorem Zdd.add{w W:World}{ps:List Int}{la lb:List Rat}{s t:ByteArray}(H:Zdd w ps la lb s t)(hW:Below w.heap.size w W){a0 a1 a2:Option Addr}(c0 c1 c2:Nat)(rp:Rd W a0 (Qw ps))(r1:Rd W a1 (Kg la))(r2:Rd W a2 (Kg lb)):
  Calls Tryz.prog 40 #[.slice a0 ps.length c0,.slice a1 ps.length c1,.slice a2 ps.length c2] W fun e w'=>∃ a c,e = .returned (.tuple #[.slice a ps.length c,.int .i64 0])∧Rd w' a (Kg (Kx la lb 1 1))∧Below W.heap.size W w':=by
 have h:=Zy0 W ps a0 a1 a2 c0 c1 c2 la lb rp H.hi H.hp r1 r2 H.l1 H.l2 (fun q hq=>(H.s1 q hq).le (by decide)) (fun q hq=>(H.s2 q hq).le (by decide)) (H.L.below hW)
 rw[show (((1:Int):Rat))=1 from rfl,Zc1 _ _ _ _ _ H.l1 H.l2,Zd2 la lb 1 H.s1 H.s2 Zwr,H.l1,H.l2] at h
 unfold Zc at h;rw[if_pos rfl,Qr _ _ _ _ (H.l1.trans H.l2.symm),H.l1] at h;refine cm_ h ?_;rintro e w' ⟨a,c,rfl,hr,hb⟩;exact⟨a,c,rfl,hr rfl,hb⟩
theorem Zdd.sub{w W:World}{ps:List Int}{la lb:List Rat}{s t:ByteArray}(H:Zdd w ps la lb s t)(hW:Below w.heap.size w W){a0 a1 a2:Option Addr}(c0 c1 c2:Nat)(rp:Rd W a0 (Qw ps))(r1:Rd W a1 (Kg la))(r2:Rd W a2 (Kg lb)):
  Calls Tryz.prog 16 #[.slice a0 ps.length c0,.slice a1 ps.length c1,.slice a2 ps.length c2] W fun e w'=>∃ a c,e = .returned (.tuple #[.slice a ps.length c,.int .i64 0])∧Rd w' a (Kg (Kx la lb 1 ((-1:Int):Rat)))∧Below W.heap.size W w':=by
 have h:=Zr1 W ps a0 a1 a2 c0 c1 c2 la lb rp H.hi H.hp r1 r2 H.l1 H.l2 (fun q hq=>(H.s1 q hq).le (by decide)) (fun q hq=>(H.s2 q hq).le (by decide)) (H.L.below hW)
 rw[Zc1 _ _ _ _ _ H.l1 H.l2,Zd2 la lb _ H.s1 H.s2 Zxo,H.l1,H.l2] at h;unfold Zc at h;rw[if_pos rfl,Qr _ _ _ _ (H.l1.trans H.l2.symm),H.l1] at h;refine cm_ h ?_;rintro e w' ⟨a,c,rfl,hr,hb⟩;exact⟨a,c,rfl,hr rfl,hb⟩
theorem Zdd.scale{w W:World}{ps:List Int}{la lb:List Rat}{s t:ByteArray}(H:Zdd w ps la lb s t)(hW:Below w.heap.size w W){a0 a1:Option Addr}(c0 c1:Nat)(rp:Rd W a0 (Qw ps))(r1:Rd W a1 (Kg la)):
  Zc 117 #[.slice a0 ps.length c0,.slice a1 ps.length c1,.agg #[.string s,.string t]] W (Zcs ps.length la s t) (Zk4 ps.length la s t):=by
 have hs:=H.hs;have ht:=H.ht;have h:=Zsa W ps a0 a1 c0 c1 la s t rp H.hi H.hp r1 H.l1 (fun q hq=>(H.s1 q hq).le (by decide)) (by omega) (by omega) (H.L.below hW)
 rw[H.l1] at h;exact h
end Go.Proofs.YtbielfplgbammaaGreatDoor

namespace Go.Proofs.YtbielfplgbammaaGreatDoor
open Go.ChangeShapes Go.WideShapes Go.ChangeAt Go.RowKit Go.Joins
theorem Zmc:Tryz.prog.cellsOf 24=2:=by kernel_rfl
theorem Zi8:Tryz.prog.cellsOf 26=8:=by kernel_rfl
theorem Zyt:Tryz.prog.cellsOf 22=1:=by kernel_rfl
theorem Zt3:Tryz.prog.cellsOf 5=1:=by kernel_rfl
section
variable {H:Type} {enc:TypeId×Value→H} {W:World}
theorem Zeg{base fuel:Nat}{sp:Nat→Bool}{held:Bool}{cs:List Value}{x:DataW H×List MemPlace}(h:DataW.trod enc Tryz.prog W base sp held fuel 24 cs=some x):
  ∃ (n:Int) (d:Nat),cs=[.int .i8 n,.int .u8 d]∧(-128≤n∧n≤127)∧d<256:=by
 obtain⟨y0,y1,n,hx,hl,h0,h1⟩:=trod_struct2 Tryz.underlying24 h;rw[Zmc] at hl
 match cs,hl with
 | [c0,c1],_ =>
  simp only[List.drop_zero,List.drop_succ_cons,Zyt,Zt3,List.take_succ_cons,List.take_zero] at h0 h1;obtain⟨a,ha,_,wa⟩:=DataW.trod_int Tryz.underlying22 h0;obtain⟨b,hb,_,wb⟩:=DataW.trod_int Tryz.underlying5 h1;have b1:=bounds_i8 wa;have b2:=bounds_u8 wb;simp only[List.cons.injEq,and_true] at ha hb;refine⟨a,b.toNat,?_,b1,by omega⟩
  rw[ha,hb,show ((b.toNat:Nat):Int)=b by omega]
def Qa4 {α:Type} (a b c d z : α):Nat → α
 | 0=>a | 1=>b | 2=>c | 3=>d | _=>z
theorem Zc4{base fuel:Nat}{sp:Nat→Bool}{held:Bool}{cs:List Value}{x:DataW H×List MemPlace}(h:DataW.trod enc Tryz.prog W base sp held fuel 26 cs=some x):
  ∃ (nu:Nat→Int) (de:Nat→Nat),cs=(Zdi nu de).toList∧(∀ k,-128≤nu k∧nu k≤127)∧(∀ k,de k<256):=by
 obtain⟨xs,m,_,_,hl,hn,hel⟩:=DataW.trod_array Tryz.underlying26 h;rw[Zi8] at hl
 match cs,hl,xs,hn with
 | [c0,c1,c2,c3,c4,c5,c6,c7],_,[x0,x1,x2,x3],_ =>
  have e0:=hel 0 (by decide)
  have e1:=hel 1 (by decide)
  have e2:=hel 2 (by decide)
  have e3:=hel 3 (by decide)
  simp only[Zmc,Nat.zero_mul,Nat.one_mul,Nat.reduceMul,List.drop_zero,List.drop_succ_cons,List.take_succ_cons,List.take_zero] at e0 e1 e2 e3;obtain⟨n0,d0,q0,b0,b0'⟩:=Zeg e0;obtain⟨n1,d1,q1,b1,b1'⟩:=Zeg e1;obtain⟨n2,d2,q2,b2,b2'⟩:=Zeg e2;obtain⟨n3,d3,q3,b3,b3'⟩:=Zeg e3;simp only[List.cons.injEq,and_true] at q0 q1 q2 q3;refine⟨Qa4 n0 n1 n2 n3 0,Qa4 d0 d1 d2 d3 0,?_,?_,?_⟩
  ·rw[q0.1,q0.2,q1.1,q1.2,q2.1,q2.2,q3.1,q3.2];rfl
  ·intro k
   match k with
   | 0=>exact b0
   | 1=>exact b1
   | 2=>exact b2
   | 3=>exact b3
   | k+4=>exact⟨by show -128≤(0:Int);decide,by show (0:Int)≤127;decide⟩
  ·intro k
   match k with
   | 0=>exact b0'
   | 1=>exact b1'
   | 2=>exact b2'
   | 3=>exact b3'
   | k+4=>show 0<256;decide
end
end Go.Proofs.YtbielfplgbammaaGreatDoor

namespace Go.Proofs.YtbielfplgbammaaGreatDoor
open Go.ChangeShapes Go.WideShapes Go.ChangeAt Go.RowKit Go.Joins
section
variable {H:Type} {enc:TypeId×Value→H} {W:World}
end
end Go.Proofs.YtbielfplgbammaaGreatDoor

namespace Go.Proofs.YtbielfplgbammaaGreatDoor
open Go.ChangeShapes Go.WideShapes Go.ChangeAt Go.RowKit Go.Joins
def Ys (pn:Nat) (nu:Nat→Nat→Int) (de:Nat→Nat→Nat):Array Value := #[.int .u8 pn,.int .i8 (nu 0 0),.int .u8 (de 0 0),.int .i8 (nu 0 1),.int .u8 (de 0 1),.int .i8 (nu 0 2),.int .u8 (de 0 2),.int .i8 (nu 0 3),.int .u8 (de 0 3),.int .i8 (nu 1 0),.int .u8 (de 1 0),.int .i8 (nu 1 1),.int .u8 (de 1 1),.int .i8 (nu 1 2),.int .u8 (de 1 2),.int .i8 (nu 1 3),.int .u8 (de 1 3),.int .i8 (nu 2 0),.int .u8 (de 2 0),.int .i8 (nu 2 1),.int .u8 (de 2 1),.int .i8 (nu 2 2),.int .u8 (de 2 2),.int .i8 (nu 2 3),.int .u8 (de 2 3),.int .i8 (nu 3 0),.int .u8 (de 3 0),.int .i8 (nu 3 1),.int .u8 (de 3 1),.int .i8 (nu 3 2),.int .u8 (de 3 2),.int .i8 (nu 3 3),.int .u8 (de 3 3)]
theorem Zq4:Tryz.prog.cellsOf 86=33:=by kernel_rfl
theorem Zi6:Tryz.prog.cellsOf 84=32:=by kernel_rfl
section
variable {H:Type} {enc:TypeId×Value→H} {W:World}
theorem Zqc{base fuel:Nat}{sp:Nat→Bool}{held:Bool}{cs:List Value}{x:DataW H×List MemPlace}(h:DataW.trod enc Tryz.prog W base sp held fuel 84 cs=some x):
  ∃ (nu:Nat→Nat→Int) (de:Nat→Nat→Nat),cs=(Ys 0 nu de).toList.tail∧(∀ i k,-128≤nu i k∧nu i k≤127)∧(∀ i k,de i k<256):=by
 obtain⟨xs,m,_,_,hl,hn,hel⟩:=DataW.trod_array Tryz.underlying84 h;rw[Zi6] at hl
 match cs,hl,xs,hn with
 | [c0,c1,c2,c3,c4,c5,c6,c7,c8,c9,c10,c11,c12,c13,c14,c15,c16,c17,c18,c19,c20,c21,c22,c23,c24,c25,c26,c27,c28,c29,c30,c31],_,[x0,x1,x2,x3],_ =>
  have e0:=hel 0 (by decide)
  have e1:=hel 1 (by decide)
  have e2:=hel 2 (by decide)
  have e3:=hel 3 (by decide)
  simp only[Zi8,Nat.zero_mul,Nat.one_mul,Nat.reduceMul,List.drop_zero,List.drop_succ_cons,List.take_succ_cons,List.take_zero] at e0 e1 e2 e3;obtain⟨n0,d0,q0,b0,b0'⟩:=Zc4 e0;obtain⟨n1,d1,q1,b1,b1'⟩:=Zc4 e1;obtain⟨n2,d2,q2,b2,b2'⟩:=Zc4 e2;obtain⟨n3,d3,q3,b3,b3'⟩:=Zc4 e3;simp only[Zdi,List.cons.injEq,and_true] at q0 q1 q2 q3;refine⟨Qa4 n0 n1 n2 n3 fun _=>0,Qa4 d0 d1 d2 d3 fun _=>0,?_,?_,?_⟩
  ·obtain⟨a1,a2,a3,a4,a5,a6,a7,a8⟩:=q0;obtain⟨b1,b2,b3,b4,b5,b6,b7,b8⟩:=q1;obtain⟨g1,g2,g3,g4,g5,g6,g7,g8⟩:=q2;obtain⟨h1,h2,h3,h4,h5,h6,h7,h8⟩:=q3;rw[a1,a2,a3,a4,a5,a6,a7,a8,b1,b2,b3,b4,b5,b6,b7,b8,g1,g2,g3,g4,g5,g6,g7,g8,h1,h2,h3,h4,h5,h6,h7,h8];rfl
  ·intro i k
   match i with
   | 0=>exact b0 k
   | 1=>exact b1 k
   | 2=>exact b2 k
   | 3=>exact b3 k
   | i+4=>exact⟨by show -128≤(0:Int);decide,by show (0:Int)≤127;decide⟩
  ·intro i k
   match i with
   | 0=>exact b0' k
   | 1=>exact b1' k
   | 2=>exact b2' k
   | 3=>exact b3' k
   | i+4=>show 0<256;decide
theorem Zqb{r:Reach}{b0:Nat}{v:Value}{d:DataW H}{p:List MemPlace}(hv:Value.okWide Tryz.prog W r b0 86 v)(h:DataW.Trod enc Tryz.prog W 0 (fun _=>true) true 86 v d p):
  ∃ (pn:Nat) (nu:Nat→Nat→Int) (de:Nat→Nat→Nat),v = .agg (Ys pn nu de)∧pn<256∧(∀ i k,-128≤nu i k∧nu i k≤127)∧(∀ i k,de i k<256):=by
 obtain⟨cs,rfl,hsz⟩:=okWide_struct Tryz.underlying86 hv;obtain⟨fuel,hf⟩:=h;rw[Zq4] at hsz;obtain⟨y0,y1,n,hx,_,h0,h1⟩:=trod_struct2 Tryz.underlying86 hf;obtain⟨l⟩:=cs;have hl:l.length=33:=by simpa using hsz
 match l,hl with
 | c0::[c1,c2,c3,c4,c5,c6,c7,c8,c9,c10,c11,c12,c13,c14,c15,c16,c17,c18,c19,c20,c21,c22,c23,c24,c25,c26,c27,c28,c29,c30,c31,c32],_ =>
  simp only[Value.cells,List.drop_zero,List.drop_succ_cons,Zt3,Zi6,List.take_succ_cons,List.take_zero] at h0 h1;obtain⟨b,hb,_,wb⟩:=DataW.trod_int Tryz.underlying5 h0;have b2:=bounds_u8 wb;obtain⟨nu,de,q,q1,q2⟩:=Zqc h1;simp only[List.cons.injEq,and_true] at hb;refine⟨b.toNat,nu,de,?_,by omega,q1,q2⟩
  have e:(Ys b.toNat nu de).toList = .int .u8 b::(Ys 0 nu de).toList.tail:=by
   show Value.int .u8 ((b.toNat:Nat):Int)::_=_
   rw[show ((b.toNat:Nat):Int)=b by omega]
   rfl
  have e2:(Ys b.toNat nu de)=⟨c0::[c1,c2,c3,c4,c5,c6,c7,c8,c9,c10,c11,c12,c13,c14,c15,c16,c17,c18,c19,c20,c21,c22,c23,c24,c25,c26,c27,c28,c29,c30,c31,c32]⟩:=by
   apply Array.toList_inj.1;rw[e,← q,hb]
  rw[e2]
end
end Go.Proofs.YtbielfplgbammaaGreatDoor

namespace Go.Proofs.YtbielfplgbammaaGreatDoor
open Go.ChangeShapes Go.WideShapes Go.ChangeAt Go.RowKit
end Go.Proofs.YtbielfplgbammaaGreatDoor

namespace Go.Proofs.YtbielfplgbammaaGreatDoor
open Go.ChangeShapes Go.WideShapes Go.ChangeAt Go.RowKit Go.Joins
end Go.Proofs.YtbielfplgbammaaGreatDoor

namespace Go.Proofs.YtbielfplgbammaaGreatDoor
open Go.RowKit
theorem Zwg(w:World)(L:Qx w):Kc Tryz.prog 127 #[.string (dec 2)] w (.int .i64 2):=by
 unfold Kc;have h:=Ze6 w 2 (by rw[show (dec 2).size=1 by decide +kernel];decide) L
 rw[if_pos (by decide)] at h
 have H:=hd_ h;have Hl:Hid (∀ W:World,Calls Tryz.prog 212 #[.int .u64 2] W fun e w'=>e = .returned (.int .i64 2)∧w'=W):=fun W=>by
  have:=Tryz.bits_Len64 2 W (by decide) (by decide)
  rw[show ((Lib.bitLen ((2:Int).toNat):Nat):Int)=2 by decide +kernel] at this
  exact this
 clear L h;generalize dec 2=s at *
 go_enter Tryz.func127,Tryz.ntmps127
 go_wp2_with fail
 refine cm_ H.out ?_;rintro e w1 ⟨rfl,hb1⟩;have B1:=hd_ hb1;clear hb1 H
 go_wp2_with fail
 refine cm_ (Hl.out _) ?_;rintro e w2 ⟨rfl,rfl⟩;clear Hl
 go_wp2_with fail
 go_ret;exact⟨rfl,B1.out⟩
theorem Zp0{w:World}{g:Nat}{t:TypeId}(h:w.heap[g]?=some (.cells #[.int .u64 1] t (0,0))):Vd w (some ⟨g,0,none⟩) (Kf 1):=by
 have e:Kf 1=[1]:=by decide +kernel
 rw[e];refine .inr ⟨g,0,rfl,(Array.getElem?_eq_some_iff.1 h).1,fun i hi=>?_⟩
 have:i=0:=by simp at hi;exact hi
 subst this;rw[cell_of_row w g 0 _ t (0,0) h];rfl
theorem Zof(D y:Nat)(h:y<D):(dec (2^y)).size≤D:=by
 rw[Zad _ _ (by omega)]
 exact Nat.lt_of_le_of_lt (Nat.pow_le_pow_left (by decide) y) (Nat.pow_lt_pow_right (by decide) h)
theorem Zg6(n y:Nat)(hn:n≤4000)(hy:y≤n):(Kf (2^y)).length≤10000 :=
 Vh _ 10000 (by decide) (Zof 10000 y (by omega))
theorem Zuy(n:Nat)(hn:n≤4000):(dec (2^n)).size≤4001:=Zof 4001 n (by omega)
theorem Zvu(n:Int):bits .and .i64 n 1=n%2:=by
 have h1:(BitVec.ofInt 64 1).toNat=2^1-1:=by decide
 have key:(BitVec.ofInt 64 n &&& BitVec.ofInt 64 1).toNat=(n%((2^64:Nat):Int)).toNat%2^1:=by
  rw[BitVec.toNat_and,BitVec.toNat_ofInt,h1,Nat.and_two_pow_sub_one_eq_mod]
 show IntKind.i64.wrap ((BitVec.ofInt 64 n &&& BitVec.ofInt 64 1).toNat:Nat)=n%2
 rw[key,IntKind.wrap_i64];omega
theorem Zyx(k:Nat)(_:k<4001):(bits BinOp.and IntKind.i64 (k:Nat) 1==1)=decide (k%2=1):=by
 rw[Zvu]
 by_cases h:k%2=1
 ·rw[decide_eq_true h,beq_iff_eq];omega
 ·rw[decide_eq_false h,beq_eq_false_iff_ne];omega
theorem Zgi(W:World)(n x y:Nat)(hn:n≤4000)(hx:x≤n)(hy:y≤n)(a1 a2:Option Addr)(c1 c2:Nat)(h1:Vd W a1 (Kf (2^x)))(h2:Vd W a2 (Kf (2^y))):
  Calls Tryz.prog 129 #[.slice a1 (Kf (2^x)).length c1,.slice a2 (Kf (2^y)).length c2] W fun e w'=>∃ a c,e = .returned (.slice a (Kf (2^(x+y))).length c)∧Vd w' a (Kf (2^(x+y)))∧Below W.heap.size W w':=by
 have l1:=Zg6 n x hn hx;have l2:=Zg6 n y hn hy;refine cm_ (Zgj W a1 a2 c1 c2 _ _ h1 h2 (Kv _) (Kv _) (by omega) (by omega)) ?_
 rintro e w' ⟨a,c,rfl,ho,hb⟩;rw[Kw,Kw,← Nat.pow_add] at *
 exact⟨a,c,rfl,ho.reads,hb⟩
theorem Zp5(w:World)(n:Nat)(hn:n≤4000)(L:Qx w):Kc Tryz.prog 51 #[.string (dec 2),.int .i64 n] w (.tuple #[.string (dec (2^n)),.int .i64 0]):=by
 unfold Kc;have hz:=Yo 2;have ho:=Zlp 2;rw[decide_eq_false (by decide)] at hz ho
 have Hb:Hid (∀ W,Below w.heap.size w W→Kc Tryz.prog 127 #[.string (dec 2)] W (.int .i64 2)):=fun W hW=>Zwg W (L.below hW)
 have Hc:Hid (∀ W,Zex 128 #[.string (dec 2)] W 2):=fun W=>Zv8 W 2 (by unfold Num;rw[show (dec 2).size=1 by decide +kernel];decide)
 have Hs:=hd_ (Zuy n hn);clear L
 by_cases h0:n=0
 ·subst h0;have Hv:Hid (dec (2^0)=⟨#[49]⟩):=by show _=_;rw[Nat.pow_zero,Zcf]
  generalize dec (2^0)=vv at *
  clear Hb Hc hn;generalize dec 2=s at *
  go_enter Tryz.func51,Tryz.ntmps51
  go_wp2_with fail
  go_ret2
  exact⟨by rw[Hv.out];rfl,Below.refl _ _⟩
 ·have hn0:((n:Int)==0)=false:=by rw[beq_eq_false_iff_ne];omega
  have hnn:¬ (n:Int)<0:=by omega
  have hnl:¬ (66439:Int)<n:=by omega
  unfold Zex at Hc;obtain⟨vv,hvv⟩:∃ s,dec (2^n)=s:=⟨_,rfl⟩;have Hvv:=hd_ hvv;rw[hvv] at Hs ⊢;clear hvv;generalize dec 2=s at *
  go_enter Tryz.func51,Tryz.ntmps51
  go_wp2_with fail
  refine cm_ (Hb.out _ (Below.refl _ _)) ?_;rintro e w1 ⟨rfl,hb1⟩;have B1:=hd_ hb1;clear hb1 Hb
  go_wp2_with fail
  have B2:=hd_ (B1.out.alloc B1.out.size (.cells #[.int .u64 1] 204));have R1:Hid (Vd (w1.alloc (.cells #[.int .u64 1] 204)) (some ⟨w1.heap.size,0,none⟩) (Kf 1)):=Zp0 (Go.heap_alloc_new w1 _);generalize w1.alloc (.cells #[.int .u64 1] 204)=w2 at *
  clear B1;refine cm_ (Hc.out _) ?_;rintro e w3 ⟨a3,c3,rfl,ho,hb⟩;have B3:=hd_ (B2.out.trans (hb.mono B2.out.size));have R2:=hd_ ho.reads;replace R1:=hd_ (R1.out.below hb nr_);clear hb ho Hc B2;have Hl1:Hid ((Kf 1).length=1):=hd_ (by decide +kernel)
  go_wp2_with fail
  go_loopw [1,7,8] (fun m o q wr=>∃ (k x y:Nat) (a1 a2:Option Addr) (c1 c2:Nat),m = .int .i64 k∧k≤n∧o = .slice a1 (Kf (2^x)).length c1∧q = .slice a2 (Kf (2^y)).length c2∧Hid (x+y*k=n)∧Hid (y≤n)∧Hid (Vd wr a1 (Kf (2^x)))∧Hid (Vd wr a2 (Kf (2^y)))∧Hid (Below w.heap.size w wr)) (fun m _ _ _=>(intOf m).toNat)
  case atStart =>
   refine⟨n,0,1,some ⟨w1.heap.size,0,none⟩,a3,1,c3,rfl,Nat.le_refl _,by rw[Nat.pow_zero,Hl1.out],rfl,?_,?_,R1,R2,B3⟩
   ·show _=_;omega
   ·show _≤_;omega
  case round =>
   clear R1 R2 B3;obtain⟨k,x,y,a1,a2,c1,c2,rfl,hk,rfl,rfl,Hxy,Hy,R1,R2,B⟩:=hrel;have Hx:Hid (x≤n):=by show _≤_;have:=Hxy.out;omega
   by_cases hk0:k=0
   ·subst hk0;have hk1:¬ (0:Int)<((0:Nat):Int):=by omega
    have Hx2:Hid (x=n):=by show _=_;have:=Hxy.out;omega
    rw[Hx2.out] at R1 ⊢;have Hte:Hid (Kc Tryz.prog 130 #[.slice a1 (Kf (2^n)).length c1] wr (.string vv)):=by
     have:=Za0 wr a1 c1 (2^n) R1.out (by have:=Zg6 n n hn nr_;omega)
     rw[Hvv.out] at this;exact this
    have hsz:¬ (20000:Int)<vv.size:=by have:=Hs.out;omega
    go_wp2_with fail
    refine cm_ Hte.out ?_;rintro e w9 ⟨rfl,hb⟩;have B9:=hd_ (B.out.trans (hb.mono B.out.size));clear hb Hte
    go_wp2_with fail
    go_ret2
    exact⟨rfl,B9.out⟩
   ·have hk1:(0:Int)<k:=by omega
    have hb:=Zyx k (by omega)
    by_cases hodd:k%2=1
    ·rw[decide_eq_true hodd] at hb;have Ht:Hid (Calls Tryz.prog 129 #[.slice a1 (Kf (2^x)).length c1,.slice a2 (Kf (2^y)).length c2] wr fun e w'=>∃ a c,e = .returned (.slice a (Kf (2^(x+y))).length c)∧Vd w' a (Kf (2^(x+y)))∧Below wr.heap.size wr w'):=Zgi wr n x y hn Hx.out Hy.out a1 a2 c1 c2 R1.out R2.out
     go_wp2_with fail
     refine cm_ Ht.out ?_;rintro e w5 ⟨a5,c5,rfl,r5,hb5⟩;have B5:=hd_ (B.out.trans (hb5.mono B.out.size));replace R1:=hd_ r5;replace R2:=hd_ (R2.out.below hb5 nr_);clear hb5 r5 B Ht
     by_cases hk2:1<k
     ·have hk2':(1:Int)<k:=by omega
      have Hxy2:Hid (x+y+(y+y)*(k/2)=n):=by
       show _=_
       have h1:=Hxy.out;obtain⟨h,rfl⟩:∃ h,k=2*h+1:=⟨k/2,by omega⟩
       rw[show (2*h+1)/2=h by omega,Nat.add_mul]
       rw[Nat.mul_add,Nat.mul_left_comm] at h1;omega
      have Ht:Hid (Calls Tryz.prog 129 #[.slice a2 (Kf (2^y)).length c2,.slice a2 (Kf (2^y)).length c2] w5 fun e w'=>∃ a c,e = .returned (.slice a (Kf (2^(y+y))).length c)∧Vd w' a (Kf (2^(y+y)))∧Below w5.heap.size w5 w'):=Zgi w5 n y y hn Hy.out Hy.out a2 a2 c2 c2 R2.out R2.out
      go_wp2_with fail
      refine cm_ Ht.out ?_;rintro e w6 ⟨a6,c6,rfl,r6,hb6⟩;have B6:=hd_ (B5.out.trans (hb6.mono B5.out.size));replace R2:=hd_ r6;replace R1:=hd_ (R1.out.below hb6 nr_);clear hb6 r6 B5 Ht
      go_wp2_with fail
      go_roundw
      case rel =>
       refine⟨k/2,x+y,y+y,_,_,_,_,by go_num,by omega,rfl,rfl,Hxy2,?_,R1,R2,B6⟩
       show _≤_
       have:=Hxy.out
       have h2:y*2≤y*k:=Nat.mul_le_mul_left _ (by omega)
       omega
      case measure=>simp[intOf];omega
     ·have hk2':¬ (1:Int)<k:=by omega
      go_wp2_with fail
      go_roundw
      case rel =>
       refine⟨k/2,x+y,y,_,_,_,_,by go_num,by omega,rfl,rfl,?_,Hy,R1,R2,B5⟩
       show _=_
       have:=Hxy.out
       have e1:k=1:=by omega
       subst e1;have e2:(1/2:Nat)=0:=rfl;rw[e2];omega
      case measure=>simp[intOf];omega
    ·rw[decide_eq_false hodd] at hb
     by_cases hk2:1<k
     ·have hk2':(1:Int)<k:=by omega
      have Hxy2:Hid (x+(y+y)*(k/2)=n):=by
       show _=_
       have h1:=Hxy.out;obtain⟨h,rfl⟩:∃ h,k=2*h:=⟨k/2,by omega⟩
       rw[show (2*h)/2=h by omega,Nat.add_mul]
       rw[Nat.mul_left_comm] at h1;omega
      have Ht:Hid (Calls Tryz.prog 129 #[.slice a2 (Kf (2^y)).length c2,.slice a2 (Kf (2^y)).length c2] wr fun e w'=>∃ a c,e = .returned (.slice a (Kf (2^(y+y))).length c)∧Vd w' a (Kf (2^(y+y)))∧Below wr.heap.size wr w'):=Zgi wr n y y hn Hy.out Hy.out a2 a2 c2 c2 R2.out R2.out
      go_wp2_with fail
      refine cm_ Ht.out ?_;rintro e w6 ⟨a6,c6,rfl,r6,hb6⟩;have B6:=hd_ (B.out.trans (hb6.mono B.out.size));replace R2:=hd_ r6;replace R1:=hd_ (R1.out.below hb6 nr_);clear hb6 r6 B Ht
      go_wp2_with fail
      go_roundw
      case rel =>
       refine⟨k/2,x,y+y,_,_,_,_,by go_num,by omega,rfl,rfl,Hxy2,?_,R1,R2,B6⟩
       show _≤_
       have:=Hxy.out
       have h2:y*2≤y*k:=Nat.mul_le_mul_left _ (by omega)
       omega
      case measure=>simp[intOf];omega
     ·omega
theorem p2:True:=trivial
end Go.Proofs.YtbielfplgbammaaGreatDoor

namespace Go.Proofs.YtbielfplgbammaaGreatDoor.LN
def lgGo (unit:Nat):Nat→Nat→Nat→Nat→Option Nat
 | 0,_,_,out=>some out
 | n+1,lo,hi,out =>
  if 2*unit≤lo*lo/unit then lgGo unit n (lo*lo/unit/2) ((hi*hi/unit+1)/2+1) (2*out+1)
  else if 2*unit≤hi*hi/unit+1 then none
  else lgGo unit n (lo*lo/unit) (hi*hi/unit+1) (2*out)
def lg (p k n more:Nat):Option Nat:=lgGo (2^more) n (p*2^(more-k)) (p*2^(more-k)) k
def dotI:List Int→List Int→Int
 | a::l,b::m=>a*b+dotI l m
 | _,_=>0
def Zdh (l:List Int):Nat:=(l.map Int.natAbs).sum
def comb (x:Int) (u:List Int) (y:Int) (v:List Int):List Int:=List.zipWith (fun a b=>x*a-y*b) u v
theorem Zel(x y:Int):∀ (u v k:List Int),u.length=v.length→dotI (comb x u y v) k=x*dotI u k-y*dotI v k
 | [],[],_,_=>by simp[comb,dotI]
 | a::u,b::v,[],_=>by simp[comb,dotI]
 | a::u,b::v,c::k,h=>by
  have ih:=Zel x y u v k (by simpa using h)
  have e:comb x (a::u) y (b::v)=(x*a-y*b)::comb x u y v:=rfl;rw[e];simp only[dotI];rw[ih]
  grind
 | [],_::_,_,h=>by simp at h
 | _::_,[],_,h=>by simp at h
theorem Znm(K:Nat):∀ (u k:List Int),(∀ x∈k,x.natAbs≤K)→(dotI u k).natAbs≤Zdh u*K
 | [],_,_=>by simp[dotI]
 | _::_,[],_=>by simp[dotI]
 | a::u,b::k,h=>by
  have ih:=Znm K u k fun x hx=>h x (List.mem_cons_of_mem _ hx)
  have hb:=h b List.mem_cons_self;have e:Zdh (a::u)=a.natAbs+Zdh u:=by simp[Zdh]
  rw[e,Nat.add_mul];simp only[dotI];have h1:=Int.natAbs_add_le (a*b) (dotI u k);rw[Int.natAbs_mul] at h1;have h2:a.natAbs*b.natAbs≤a.natAbs*K:=Nat.mul_le_mul_left _ hb;omega
def Ze3 (m i:Nat) (d:Int):List Int:=(List.range m).map fun j=>if j=i then d else 0
def Zeq (m:Nat):List Int→List (List Int)→List Int
 | x::l,u::ls=>comb x u (-1) (Zeq m l ls)
 | _,_=>List.replicate m 0
theorem Zfy(m:Nat):∀ (l:List Int) (U:List (List Int)),(∀ u∈U,u.length=m)→(Zeq m l U).length=m
 | [],_,_=>by simp[Zeq]
 | _::_,[],_=>by simp[Zeq]
 | x::l,u::U,h=>by
  have ih:=Zfy m l U fun v hv=>h v (List.mem_cons_of_mem _ hv)
  simp only[Zeq,comb,List.length_zipWith,ih,h u List.mem_cons_self,Nat.min_self]
theorem Zly(m:Nat)(k:List Int):dotI (List.replicate m 0) k=0:=by
 induction m generalizing k with
 | zero=>rfl
 | succ m ih =>
  cases k with
  | nil=>rfl
  | cons b k=>rw[List.replicate_succ,dotI,ih];simp
theorem Zfg(m:Nat)(k:List Int):∀ (l:List Int) (U:List (List Int)),(∀ u∈U,u.length=m)→(∀ u∈U,dotI u k=0)→dotI (Zeq m l U) k=0
 | [],_,_,_=>by rw[Zeq];exact Zly m k;simp
 | _::_,[],_,_=>by rw[Zeq];exact Zly m k;simp
 | x::l,u::U,h,h0=>by
  rw[Zeq,Zel _ _ _ _ _ (by rw[Zfy m l U fun v hv=>h v (List.mem_cons_of_mem _ hv)];exact h u List.mem_cons_self),h0 u List.mem_cons_self,
   Zfg m k l U (fun v hv=>h v (List.mem_cons_of_mem _ hv)) (fun v hv=>h0 v (List.mem_cons_of_mem _ hv))]
  simp
theorem Zhf(d:Int):∀ (m i s:Nat) (k:List Int),dotI ((List.range' s m).map fun j=>if j=i then d else 0) k=if s≤i∧i<s+m then d*k.getD (i-s) 0 else 0
 | 0,i,s,k=>by
  rw[if_neg (by omega)];rfl
 | m+1,i,s,[]=>by simp[List.range'_succ,dotI]
 | m+1,i,s,b::k=>by
  rw[List.range'_succ,List.map_cons,dotI,Zhf d m i (s+1) k]
  by_cases h:s=i
  ·subst h;rw[if_pos rfl,if_neg (by omega),if_pos (by omega)];simp
  ·rw[if_neg h]
   by_cases h2:s+1≤i∧i<s+1+m
   ·rw[if_pos h2,if_pos (by omega)]
    have e:i-s=(i-(s+1))+1:=by omega
    rw[e];simp
   ·rw[if_neg h2,if_neg (by omega)];simp
def Zpa (a:Int) (L:List Int) (U V:List (List Int)) (d:Int) (K S:Nat):Bool :=
 decide (0<a)&&decide (d≠0) &&
 U.all (fun u=>decide (u.length=L.length)&&decide (Zdh (comb a u (u.headD 0) L)*K+(u.headD 0).natAbs*S<a.natAbs)) &&
 decide (V.length=L.length)&&(List.range L.length).all (fun i=>decide (Zeq L.length (V.getD i []) U=Ze3 L.length i d))
theorem Zt0{a:Int}{L:List Int}{U V:List (List Int)}{d:Int}{K S:Nat}(h:Zpa a L U V d K S=true)(k:List Int)(hk:k.length=L.length)(hK:∀ x∈k,x.natAbs≤K)(hS:(dotI L k).natAbs<S):
  ∀ x∈k,x=0:=by
 unfold Zpa at h;simp only[Bool.and_eq_true,decide_eq_true_eq,List.all_eq_true,List.mem_range] at h;obtain⟨⟨⟨⟨ha,hd⟩,hU⟩,hV⟩,hI⟩:=h;have h0:∀ u∈U,dotI u k=0:=by
  intro u hu;obtain⟨h1,h2⟩:=hU u hu;have e:=Zel a (u.headD 0) u L k h1;have b:=Znm K (comb a u (u.headD 0) L) k hK;generalize u.headD 0=q at *
  generalize dotI u k=f at *
  generalize dotI L k=T at *
  generalize Zdh (comb a u q L)*K=A at *
  rw[e] at b;have h3:(a*f).natAbs≤(a*f-q*T).natAbs+(q*T).natAbs:=by omega
  rw[Int.natAbs_mul,Int.natAbs_mul q T] at h3;have h5:q.natAbs*T.natAbs≤q.natAbs*S:=Nat.mul_le_mul_left _ (by omega)
  have h6:a.natAbs*f.natAbs<a.natAbs*1:=by omega
  have h7:f.natAbs<1:=Nat.lt_of_mul_lt_mul_left h6;omega
 intro x hx;obtain⟨i,hi,rfl⟩:=List.mem_iff_getElem.1 hx;have h1:=hI i (by omega)
 have h2:=Zfg L.length k (V.getD i []) U (fun u hu=>(hU u hu).1) h0
 rw[h1,Ze3,List.range_eq_range',Zhf d _ i 0 k,if_pos (by omega)] at h2
 rw[Nat.sub_zero,List.getD_eq_getElem?_getD,List.getElem?_eq_getElem hi,Option.getD_some] at h2;rcases Int.mul_eq_zero.1 h2 with h3|h3
 ·exact absurd h3 hd
 ·exact h3
def upT:List (Int×Int)→Nat
 | []=>1
 | x::l=>x.1.toNat^x.2.toNat*upT l
def negT (l:List (Int×Int)):List (Int×Int):=l.map fun x=>(x.1,-x.2)
theorem Zli(l:List (Int×Int)):negT (negT l)=l:=by
 unfold negT;rw[List.map_map]
 conv=>rhs;rw[← List.map_id l]
 refine List.map_congr_left fun x _=>?_
 simp
def signT (l:List (Int×Int)):Int:=if upT (negT l)<upT l then 1 else if upT l<upT (negT l) then -1 else 0
structure LogAt (n:Nat) (p:Int) (L:Nat):Prop where
 le:2^L≤p.toNat^(2^n)
 lt:p.toNat^(2^n)<2^(L+1)
 two:p=2→L=2^n
 odd:p≠2→2^L<p.toNat^(2^n)
def hiL (f:Int→Nat) (p:Int):Nat:=if p=2 then f p else f p+1
def loS (f:Int→Nat):List (Int×Int)→Nat
 | []=>0
 | x::l=>x.2.toNat*f x.1+loS f l
def hiS (f:Int→Nat):List (Int×Int)→Nat
 | []=>0
 | x::l=>x.2.toNat*hiL f x.1+hiS f l
theorem Zeb(n:Nat)(f:Int→Nat):∀ l:List (Int×Int),(∀ x∈l,LogAt n x.1 (f x.1))→2^loS f l≤upT l^(2^n)
 | [],_=>by simp[loS,upT]
 | x::l,h=>by
  have ih:=Zeb n f l fun y hy=>h y (List.mem_cons_of_mem _ hy)
  have hx:=(h x List.mem_cons_self).le;rw[loS,upT,Nat.pow_add,Nat.mul_pow];refine Nat.mul_le_mul ?_ ih;rw[← Nat.pow_mul,Nat.mul_comm x.2.toNat,Nat.mul_comm x.2.toNat,Nat.pow_mul,Nat.pow_mul];exact Nat.pow_le_pow_left hx _
theorem Zzf(n:Nat)(f:Int→Nat)(l:List (Int×Int))(h:∀ x∈l,LogAt n x.1 (f x.1)):0<upT l:=by
 have:=Zeb n f l h
 by_cases h0:upT l=0
 ·rw[h0,Nat.zero_pow (Nat.two_pow_pos _)] at this;have:=Nat.two_pow_pos (loS f l)
  omega
 ·omega
theorem Zgc(n:Nat)(f:Int→Nat):∀ l:List (Int×Int),(∀ x∈l,LogAt n x.1 (f x.1))→upT l^(2^n)≤2^hiS f l
 | [],_=>by simp[hiS,upT]
 | x::l,h=>by
  have ih:=Zgc n f l fun y hy=>h y (List.mem_cons_of_mem _ hy)
  have hx:=h x List.mem_cons_self;have hh:x.1.toNat^(2^n)≤2^hiL f x.1:=by
   unfold hiL;split
   ·rename_i e;rw[hx.two e,e];exact Nat.le_refl _
   ·exact Nat.le_of_lt hx.lt
  rw[hiS,upT,Nat.pow_add,Nat.mul_pow];refine Nat.mul_le_mul ?_ ih;rw[← Nat.pow_mul,Nat.mul_comm x.2.toNat,Nat.pow_mul,Nat.mul_comm x.2.toNat,Nat.pow_mul 2];exact Nat.pow_le_pow_left hh _
theorem Zg3{a b c d:Nat}(h:a<b)(h2:c≤d)(hd:0<d):a*c<b*d:=Nat.lt_of_le_of_lt (Nat.mul_le_mul_left _ h2) (Nat.mul_lt_mul_of_pos_right h hd)
theorem Zfu{a b c d:Nat}(h:a≤b)(h2:c<d)(hb:0<b):a*c<b*d:=Nat.lt_of_le_of_lt (Nat.mul_le_mul_right _ h) (Nat.mul_lt_mul_of_pos_left h2 hb)
theorem Zlb(n:Nat)(f:Int→Nat):∀ l:List (Int×Int),(∀ x∈l,LogAt n x.1 (f x.1))→(∃ x∈l,x.1≠2∧0<x.2)→2^loS f l<upT l^(2^n)
 | [],_,h=>by obtain⟨_,h,_⟩:=h;cases h
 | x::l,h,h2=>by
  have hl:∀ y∈l,LogAt n y.1 (f y.1):=fun y hy=>h y (List.mem_cons_of_mem _ hy)
  have ih0:=Zeb n f l hl;have hx:=h x List.mem_cons_self;have hp0:=Nat.pow_pos (n:=2^n) (Zzf n f l hl);rw[loS,upT,Nat.pow_add,Nat.mul_pow];have e1:2^(x.2.toNat*f x.1)=(2^f x.1)^x.2.toNat:=by rw[Nat.mul_comm,Nat.pow_mul]
  have e2:(x.1.toNat^x.2.toNat)^(2^n)=(x.1.toNat^(2^n))^x.2.toNat:=by rw[← Nat.pow_mul,Nat.mul_comm,Nat.pow_mul]
  rw[e1,e2];obtain⟨y,hy,hy2,hy0⟩:=h2;rcases List.mem_cons.1 hy with rfl|hy
  ·exact Zg3 (Nat.pow_lt_pow_left (hx.odd hy2) (by omega)) ih0 hp0
  ·have ih:=Zlb n f l hl ⟨y,hy,hy2,hy0⟩;exact Zfu (Nat.pow_le_pow_left hx.le _) ih (Nat.pow_pos (Nat.lt_of_lt_of_le (Nat.two_pow_pos _) hx.le))
theorem Zkq(n:Nat)(f:Int→Nat):∀ l:List (Int×Int),(∀ x∈l,LogAt n x.1 (f x.1))→(∃ x∈l,x.1≠2∧0<x.2)→upT l^(2^n)<2^hiS f l
 | [],_,h=>by obtain⟨_,h,_⟩:=h;cases h
 | x::l,h,h2=>by
  have hl:∀ y∈l,LogAt n y.1 (f y.1):=fun y hy=>h y (List.mem_cons_of_mem _ hy)
  have ih0:=Zgc n f l hl;have hx:=h x List.mem_cons_self;have hh:x.1.toNat^(2^n)≤2^hiL f x.1:=by
   unfold hiL;split
   ·rename_i e;rw[hx.two e,e];exact Nat.le_refl _
   ·exact Nat.le_of_lt hx.lt
  rw[hiS,upT,Nat.pow_add,Nat.mul_pow];have e1:2^(x.2.toNat*hiL f x.1)=(2^hiL f x.1)^x.2.toNat:=by rw[Nat.mul_comm,Nat.pow_mul]
  have e2:(x.1.toNat^x.2.toNat)^(2^n)=(x.1.toNat^(2^n))^x.2.toNat:=by rw[← Nat.pow_mul,Nat.mul_comm,Nat.pow_mul]
  rw[e1,e2];obtain⟨y,hy,hy2,hy0⟩:=h2;rcases List.mem_cons.1 hy with rfl|hy
  ·refine Zg3 (Nat.pow_lt_pow_left ?_ (by omega)) ih0 (Nat.two_pow_pos _)
   unfold hiL;rw[if_neg hy2];exact hx.lt
  ·have ih:=Zkq n f l hl ⟨y,hy,hy2,hy0⟩;exact Zfu (Nat.pow_le_pow_left hh _) ih (Nat.pow_pos (Nat.two_pow_pos _))
theorem Zoq{n:Nat}{f:Int→Nat}{l:List (Int×Int)}(h:∀ x∈l,LogAt n x.1 (f x.1)):∀ x∈negT l,LogAt n x.1 (f x.1):=by
 intro x hx;obtain⟨y,hy,rfl⟩:=List.mem_map.1 hx;exact h y hy
theorem Zvi(n:Nat)(f:Int→Nat)(l:List (Int×Int))(h:∀ x∈l,LogAt n x.1 (f x.1))(h0:∀ x∈l,x.2≠0)(hne:l≠[])(hd:(l.map Prod.fst).Nodup)(hlow:hiS f (negT l)≤loS f l):
  upT (negT l)<upT l:=by
 have hn:∀ x∈negT l,LogAt n x.1 (f x.1):=Zoq h;have c1:=Zgc n f (negT l) hn;have c2:=Zeb n f l h;have c3:2^hiS f (negT l)≤2^loS f l:=Nat.pow_le_pow_right (by decide) hlow
 have key:upT (negT l)^(2^n)<upT l^(2^n)→upT (negT l)<upT l:=fun hk=>(Nat.pow_lt_pow_iff_left (Nat.ne_of_gt (Nat.two_pow_pos n))).1 hk
 by_cases hodd:∃ x∈l,x.1≠2
 ·obtain⟨x,hx,hx2⟩:=hodd;have hx0:=h0 x hx
  by_cases hp:0<x.2
  ·have:=Zlb n f l h ⟨x,hx,hx2,hp⟩
   exact key (by omega)
  ·have:=Zkq n f (negT l) hn ⟨(x.1,-x.2),List.mem_map.2 ⟨x,hx,rfl⟩,hx2,by show 0 < -x.2;omega⟩
   exact key (by omega)
 ·have h2:∀ x∈l,x.1=2:=fun x hx=>Classical.byContradiction fun hh=>hodd ⟨x,hx,hh⟩
  match l,hne,hd,h2,h0,hlow with
  | [x],_,_,h2,h0,hlow =>
   have e:=h2 x List.mem_cons_self;have hx0:=h0 x List.mem_cons_self;have hf:=(h x List.mem_cons_self).two e;have hpos:=Nat.two_pow_pos n;simp only[negT,List.map_cons,List.map_nil,hiS,loS,hiL,if_pos e,upT,Nat.add_zero,Nat.mul_one] at hlow ⊢;rw[hf] at hlow;have h3:(-x.2).toNat≤x.2.toNat:=Nat.le_of_mul_le_mul_right hlow hpos;have h4:0<x.2:=by omega
   have h5:(-x.2).toNat=0:=by omega
   rw[h5,e];exact Nat.one_lt_two_pow (by omega)
  | x::y::r,_,hd,h2,_,_ =>
   exfalso;have e1:=h2 x List.mem_cons_self;have e2:=h2 y (List.mem_cons_of_mem _ List.mem_cons_self);simp only[List.map_cons,List.nodup_cons,List.mem_cons] at hd;exact hd.1 (.inl (by rw[e1,e2]))
theorem sign_low(n:Nat)(f:Int→Nat)(l:List (Int×Int))(h:∀ x∈l,LogAt n x.1 (f x.1))(h0:∀ x∈l,x.2≠0)(hne:l≠[])(hd:(l.map Prod.fst).Nodup)(hlow:hiS f (negT l)≤loS f l):signT l=1:=by
 unfold signT;rw[if_pos (Zvi n f l h h0 hne hd hlow)]
theorem Zr5(l:List (Int×Int)):signT (negT l) = - signT l:=by
 unfold signT;rw[Zli]
 by_cases h:upT (negT l)<upT l
 ·rw[if_pos h,if_neg (by omega),if_pos h]
 ·rw[if_neg h]
  by_cases h2:upT l<upT (negT l)
  ·rw[if_pos h2,if_neg h,if_pos h2];rfl
  ·rw[if_neg h2,if_neg h,if_neg h2];rfl
theorem sign_high(n:Nat)(f:Int→Nat)(l:List (Int×Int))(h:∀ x∈l,LogAt n x.1 (f x.1))(h0:∀ x∈l,x.2≠0)(hne:l≠[])(hd:(l.map Prod.fst).Nodup)(hhigh:hiS f l≤loS f (negT l)):signT l = -1:=by
 have:=sign_low n f (negT l) (Zoq h) (by
  intro x hx;obtain⟨y,hy,rfl⟩:=List.mem_map.1 hx;have:=h0 y hy
  show -y.2≠0
  omega) (by simpa [negT] using hne) (by
  have e:(negT l).map Prod.fst=l.map Prod.fst:=by simp[negT]
  rw[e];exact hd) (by rw[Zli];exact hhigh)
 rw[Zr5] at this;omega
def coefP (p:Int):List (Int×Int)→Int
 | []=>0
 | x::l=>(if x.1=p then x.2 else 0)+coefP p l
theorem Zo3(a b:List Int):∀ (u:List Int) (pr:List Int) (g h:Int→Int),dotI u (pr.map fun p=>g p+h p)=dotI u (pr.map g)+dotI u (pr.map h)
 | [],_,_,_=>by simp[dotI]
 | _::_,[],_,_=>by simp[dotI]
 | c::u,p::pr,g,h=>by
  have ih:=Zo3 a b u pr g h;simp only[List.map_cons,dotI];rw[ih,Int.mul_add];omega
theorem Zlz(f:Int→Int)(c q:Int):∀ pr:List Int,q ∉ pr→dotI (pr.map f) (pr.map fun p=>if q=p then c else 0)=0
 | [],_=>by simp[dotI]
 | p::pr,h=>by
  simp only[List.mem_cons,not_or] at h;simp only[List.map_cons,dotI];rw[if_neg h.1,Zlz f c q pr h.2];simp
theorem Ztm(f:Int→Int)(c q:Int):∀ pr:List Int,pr.Nodup→q∈pr→dotI (pr.map f) (pr.map fun p=>if q=p then c else 0)=c*f q
 | [],_,h=>by simp at h
 | p::pr,hd,h=>by
  simp only[List.nodup_cons] at hd;simp only[List.map_cons,dotI]
  by_cases e:q=p
  ·rw[if_pos e,e,Zlz f c p pr hd.1,Int.mul_comm];omega
  ·rw[if_neg e,Ztm f c q pr hd.2 (by simpa [e] using h)];omega
def sumT (f:Int→Nat):List (Int×Int)→Int
 | []=>0
 | x::l=>x.2*f x.1+sumT f l
theorem dotI_coef(f:Int→Nat)(pr:List Int)(hd:pr.Nodup):∀ l:List (Int×Int),(∀ x∈l,x.1∈pr)→dotI (pr.map fun p=>(f p:Int)) (pr.map fun p=>coefP p l)=sumT f l
 | [],_=>by
  simp only[coefP,sumT];have e:∀ u v:List Int,dotI u (v.map fun _=>0)=0:=by
   intro u
   induction u with
   | nil=>intro v;cases v<;>rfl
   | cons a u ih =>
    intro v;cases v with
    | nil=>rfl
    | cons b v=>simp only[List.map_cons,dotI];rw[ih];simp
  exact e _ _
 | x::l,h=>by
  have ih:=dotI_coef f pr hd l fun y hy=>h y (List.mem_cons_of_mem _ hy)
  simp only[coefP,sumT];rw[Zo3 [] [],ih,Ztm _ _ _ pr hd (h x List.mem_cons_self)]
theorem Zfm(p:Int):∀ l:List (Int×Int),p ∉ l.map Prod.fst→coefP p l=0
 | [],_=>rfl
 | x::l,h=>by
  simp only[List.map_cons,List.mem_cons,not_or] at h;rw[coefP,if_neg (fun e=>h.1 e.symm),Zfm p l h.2];rfl
theorem coefP_mem:∀ l:List (Int×Int),(l.map Prod.fst).Nodup→∀ x∈l,coefP x.1 l=x.2
 | [],_,_,h=>by cases h
 | y::l,hd,x,h=>by
  simp only[List.map_cons,List.nodup_cons] at hd;rcases List.mem_cons.1 h with rfl|h
  ·rw[coefP,if_pos rfl,Zfm _ l hd.1];omega
  ·rw[coefP,if_neg (fun e=>hd.1 (by rw[e];exact List.mem_map.2 ⟨x,h,rfl⟩)),coefP_mem l hd.2 x h];omega
theorem coefP_le(K:Nat)(l:List (Int×Int))(hd:(l.map Prod.fst).Nodup)(hK:∀ x∈l,x.2.natAbs≤K)(p:Int):(coefP p l).natAbs≤K:=by
 by_cases h:p∈l.map Prod.fst
 ·obtain⟨x,hx,rfl⟩:=List.mem_map.1 h;rw[coefP_mem l hd x hx];exact hK x hx
 ·rw[Zfm p l h];simp
theorem hiS_le(f:Int→Nat)(K:Nat):∀ l:List (Int×Int),(∀ x∈l,x.2.natAbs≤K)→hiS f l≤loS f l+l.length*K
 | [],_=>by simp[hiS,loS]
 | x::l,h=>by
  have ih:=hiS_le f K l fun y hy=>h y (List.mem_cons_of_mem _ hy)
  have hx:=h x List.mem_cons_self;have e:hiL f x.1≤f x.1+1:=by unfold hiL;split<;>omega
  have e2:x.2.toNat*hiL f x.1≤x.2.toNat*(f x.1+1):=Nat.mul_le_mul_left _ e;rw[Nat.mul_add] at e2;rw[hiS,loS,List.length_cons,Nat.add_mul];omega
theorem sumT_eq(f:Int→Nat):∀ l:List (Int×Int),sumT f l=(loS f l:Int)-(loS f (negT l):Int)
 | []=>rfl
 | x::l=>by
  have ih:=sumT_eq f l;have e:negT (x::l)=(x.1,-x.2)::negT l:=rfl;rw[sumT,ih,e,loS,loS];rw[Int.natCast_add,Int.natCast_add,Int.natCast_mul,Int.natCast_mul];have h:x.2=(x.2.toNat:Int)-((-x.2).toNat:Int):=by omega
  generalize (x.2.toNat:Int)=a at *
  generalize ((-x.2).toNat:Int)=b at *
  rw[h]
  grind
theorem ends_decide{a d:Int}{pr:List Int}{f:Int→Nat}{U V:List (List Int)}{K S:Nat}(hc:Zpa a (pr.map fun p=>(f p:Int)) U V d K S=true)(hp:pr.Nodup)(l:List (Int×Int))(hl:l.length*K≤S)(hne:l≠[])
  (hm:∀ x∈l,x.1∈pr∧x.2≠0∧x.2.natAbs≤K) (hd:(l.map Prod.fst).Nodup):hiS f (negT l)≤loS f l∨hiS f l≤loS f (negT l):=by
 have h1:=hiS_le f K l fun x hx=>(hm x hx).2.2
 have h2:=hiS_le f K (negT l) (by
  intro x hx;obtain⟨y,hy,rfl⟩:=List.mem_map.1 hx;have:=(hm y hy).2.2
  show (-y.2).natAbs≤K
  omega)
 have e:(negT l).length=l.length:=by simp[negT]
 rw[e] at h2;have h3:=sumT_eq f l
 by_cases hT:(sumT f l).natAbs<S
 ·exfalso;rw[← dotI_coef f pr hp l fun x hx=>(hm x hx).1] at hT
  have h4:=Zt0 hc (pr.map fun p=>coefP p l) (by simp) (by
   intro x hx;obtain⟨p,_,rfl⟩:=List.mem_map.1 hx;exact coefP_le K l hd (fun y hy=>(hm y hy).2.2) p) hT
  match l,hne with
  | x::r,_ =>
   have h5:=h4 _ (List.mem_map.2 ⟨x.1,(hm x List.mem_cons_self).1,rfl⟩);rw[coefP_mem _ hd x List.mem_cons_self] at h5;exact(hm x List.mem_cons_self).2.1 h5
 ·omega
def certL:List Int:=[179769313486231590772930519078902473361797697894230657273430081157732675805500963132708477322407536021120113879871393357658789768814416622492847430639474124377767893424865485276302219601246094119453082952085005768838150682342462881473913110540827237163350510684586298239947245938479716304835356329624224137216,284927620656063089346731796384423062894173922742544388268143673752537756183546571537032060353371466816773127126641744722713352439279873718317761842880439823388246733129821933154999969794940367169528507713597703293501225656468836512330451109106556546484957172329017475735990380315252547391823925065085415830706,417411419582294732896156489886154238448013320157255640262591015340590871398055171674354685851436277043969488387805834784269416499993679630854470083136767565961762416444355884854643698642680661331046329726609798457044907851814692689997919935740891485193992980213442174017676677705033790300799565328174789721477,504676267050488686437106225422580597666894180115835423443227083307798182118129470961836692572602004275197053008847790122226159407050037386686227374490996006831065115100048654528796805287857493370208467706711144940390867662095296958256666553836865344662997681178618211252555414200909783814338893188237609625780,621899647134989863023931440843230302890983592943748869067988172264563165309608343386292530753941856327296297447054373896510077744639892806611394391743834589735893855764598242929310750820193556622274206181954361442867402987237247717098957447016989915817775870019501087911877572648074267091007255239964369023968,665225507727408465455298695894691710776360314087386563812869573730968267223165639273012984180830913649657093046906068992579944353826624953775464535759564037586356204133016200974813196209296864512605219833214582093815415417608006173877679388939375373503941628536552970450384072436140060704944322076520073283839]
def Qbm:List (List Int):=[[1361033472052420067100991309064931182091716853391540550899091113545676748165654069454734507830540625923066749738613742662526501494649565328672781710912470855,2157187015429401542138602315378835738079865318741913695197763694877679196962452355322909935492129080345135728398755778866915216677702864904886518349498144093,3160221856840607851781685108452959817026979136557082784519095198183545416828782748691856911460833185893891199012493182590421586823167653542796686423181411803,3820904016851512035743762372109566630477041885378486680143976467669200300212202542157276498189701081899028256409122481989077119745557940859571796331901780602,4708402227241844230881350710329385429292965180311929874646927949603148181156687490795565250855988629463347595457426767248645121403373850130316622376205655824,5036422317702249347264984242308634347603162440235819245412201338095351364705523284785619822633893970185542775747311911336783041820236677902723153542003541995],
 [299687973565947336953693908348658651332127021025370730890883623972659747075648952750207292919729408951165823130818603758290601433328042680561826125489066428,474994200019139640690896719015381054735292729699790408945830646826654284457084852625941217336849063751168404185314953447875618807762968794960545658399964795,695853925522634307249243517247788056805708280722354982344522670436784936810433857855919843198532036588375876439367016064304325129116049564645826288286436995,841330507671831406218103970697802099080070115711533135025373126392723083358858942563189157022256615979955037365105244659930907228808843221236499661374110289,1036750051479376748850033988793626597154995220661079736838726668451637290619206291200505783075082688000877676034076233903503798073310428799011686117489740735,1108977280432649241595140457724586490268455016437124571879230895310093956060594635296497046358777904624265570982229960398488559448522718359131628436452776618],
 [2001432095227681370883033031250657280124239008502396240436193329269779899751073734437881335263033118934661407649401662184445142860843476241971244864603027187,3172194818675649062031549948976346458446291575480633127138527180430090144149945657870703384176547217957998590193298519253946520383353142275844076215046404066,4647181411918432184657996063106137228541057445042859272797028758732513247711022952874593278003645411586711998681909461184937906440067320029532798507864848774,5618730243701494716647491390234016366368147732801005815257985401286419595231562467358169747618992550500502402060613155528580022043540105943291290066113212642,6923817472786135026020292681272359069572685393380617174853881444661977508302607758245986734774019457876979478431489431680461110991886850855640535885324347296,7406178818342856776067456999577349708314416427421774025318657928833991150289316239750934511444397348343774950016253631819156198089215566095848780701490864144],
 [528536423608438686412855271308878199418637088432614320111589911024224382198177128949494362669026076740489188478845726431331723513448155828996706397443325180,837710411684647310522312564104097923139117177113334471362723484405395424151008043983617035281865417395962957088666166267423693251318731944589703713618244329,1227223571147721963246630617648243717815284933494361643201768985968400112439714151460557394407565771139456530795453357502363423731760793034538519393449417404,1483789330303873215968878480452065504812046379488041405674753539793795422454494893163083848604039861079831537330639296756576330493295598940741832154454008688,1828435615432509255958100752235191297210724831090028852837000190432020360373150501910418670178265213952829967280722348250891518419506460528213470146761147669,1955817174404911741025196141353996465572258277146385975044836535532311654150798060211842806764077658974214099154631403207719281988005843100572202176183955081],
 [-1468711569869691212917947732134083722669835323809775214024289413578456753408037268869249086956462231433613497000907220577351639694601234134310649204034172316,-2327852762618760886438615551826346136370330168494265847894449738559028087832799593039841031943095790346604355658488125946578561954780542160298345901268352557,-3410242657366559293362990450499318662931329652440687467996352748484304130112546146565531321508257651827946757887834523977466162302035935620424198790339117028,-4123194654756628344277387666377040541457073401299737549360184284561605431593927292627723203544564083235736204424728469325429173003124213574712357752737593408,-5080907243465631775491331725106607667567794020555851403113895506647993464455619343303375350433823317991140303009422864311178241460123997725934828520026953170,-5434878627639161137069877451178110586761807883549011422834890840123801581219167459321135220817687924522379993148257513492372263375648300907571638870552930820],
 [-2527278727899951042357277652887687714676139814654455825895183801797394312577171470996587787488447973546590744938596754242248050652665729495409064860168750388,-4005642012591688830853788306767450225437525695850649207367482469960977507820045796608400918880715182390339297186644147711819811945556751576743803637464260210,-5868159481922089932185961686356109783421000151793657433855863935794100273872111461436697788866984813598223636272238364084392763747068349791942404099818116664,-7094968376181407917698486220318039050815038790087114445294460660285453776174777870811938078891803417542019334178004801170201148860672020225345222745338937759,-8742947940406537175524478993752549231321711125631551583381469936189250544112233396909737085879577827848253228263908699479854100689968661105092076296067226517,-9352042583534072783038683109624319367784842669410329692573031045141955386391775295867783423242100705425423420660519481116735025587912157359844666391581864370]]
def Qbl:List (List Int):=[[-5056625427619646027375557688934,22492767048728521515228088672644,100757843318868131663255231251409,-109175424216025810518427626349458,43791622722594357708666376464250,31456010246780842523074201168758],
 [14843321736870989170892935211302,-1566413707272055504716434875294,-13231873144781301898553196621410,-4473938268507226690064737724278,-7234649816335129238870443013471,597916375160099280812978039558],
 [-10106195131634014064109565408074,-23752526617964760938273316614011,-2161618493810056733233408947394,11217398622667791280982723293654,-1919025075220832533891098335435,-6509868020063796828750396523277],
 [6851462341036060952856831869449,6038656074418965050194601037329,-11645716143813286921558515426769,2256681498008609696986867869759,5109170126994287454266492989097,-7313988198921797883712129588856],
 [-20280857652371422586076982416269,3240353442599273281533504304323,-6207198472621478050629739916295,10933570427373787624652298476831,-12444462319387663796445073593709,-5934842575408006771328159897859],
 [15112292982976400489100645344947,1886037157824657007738630660331,-5566814279214676496689364407767,12447496499081282177953624596476,226561372143848006543391518164,6425156145734365554949928231685]]
theorem cert_ok:Zpa (2^1024) certL Qbm Qbl 1 (2^100) (2^503)=true:=by decide +kernel
end Go.Proofs.YtbielfplgbammaaGreatDoor.LN

namespace Go.Proofs.YtbielfplgbammaaGreatDoor
def Zhj (unit:Nat):Nat→Nat×Nat×Nat→Option (Nat×Nat×Nat)
 | 0,s=>some s
 | n+1,s=>(Vm unit s).bind (Zhj unit n)
theorem Zi2(unit:Nat):∀ (n:Nat) (s:Nat×Nat×Nat),Zhj unit (n+1) s=(Zhj unit n s).bind (Vm unit)
 | 0,s=>by simp[Zhj]
 | n+1,s=>by
  show (Vm unit s).bind (Zhj unit (n+1))=((Vm unit s).bind (Zhj unit n)).bind (Vm unit)
  cases Vm unit s with
  | none=>rfl
  | some t=>exact Zi2 unit n t
theorem Znp(p more:Nat):∀ n,Ze p more n=Zhj (2^more) n (p*2^(more-p.log2),p*2^(more-p.log2),p.log2)
 | 0=>rfl
 | n+1=>by rw[Zi2,← Znp p more n];rfl
theorem Zm9(unit:Nat):∀ (n lo hi out:Nat),LN.lgGo unit n lo hi out=(Zhj unit n (lo,hi,out)).map fun s=>s.2.2
 | 0,_,_,_=>rfl
 | n+1,lo,hi,out=>by
  unfold LN.lgGo Zhj Vm;simp only;split
  ·rw[Zm9 unit n];rfl
  ·split
   ·rfl
   ·rw[Zm9 unit n];rfl
theorem Zs7(p n more:Nat):LN.lg p p.log2 n more=(Ze p more n).map fun s=>s.2.2:=by
 rw[Znp];exact Zm9 _ _ _ _ _
structure Zwn (u:Nat) (s t:Nat×Nat×Nat):Prop where
 lo:s.1*u≤t.1
 hi:t.2.1≤s.2.1*u
 out:t.2.2=s.2.2
 le:t.1≤t.2.1
theorem Zqw{unit u:Nat}(hu:0<u)(h0:0<unit){s t s':Nat×Nat×Nat}(h:Zwn u s t)(hs:Vm unit s=some s'):∃ t',Vm (unit*u) t=some t'∧Zwn u s' t':=by
 obtain⟨l,g,o⟩:=s;obtain⟨l2,g2,o2⟩:=t;obtain⟨hl,hg,ho,hle⟩:=h;simp only at hl hg ho hle;subst ho;have q1:l*l/unit*u≤l2*l2/(unit*u):=by
  rw[Nat.le_div_iff_mul_le (Nat.mul_pos h0 hu)];have a:=Nat.div_mul_le_self (l*l) unit
  calc l*l/unit*u*(unit*u)=(l*l/unit*unit)*(u*u):=by ac_rfl
   _≤l*l*(u*u):=Nat.mul_le_mul_right _ a
   _=(l*u)*(l*u):=by ac_rfl
   _≤_:=Nat.mul_le_mul hl hl
 have q2:g2*g2/(unit*u)+1≤(g*g/unit+1)*u:=by
  rw[Nat.add_one_le_iff,Nat.div_lt_iff_lt_mul (Nat.mul_pos h0 hu)];have a:=Nat.lt_div_mul_add (a:=g*g) h0;have b:g*g<(g*g/unit+1)*unit:=by rw[Nat.add_mul,Nat.one_mul];exact a
  calc g2*g2≤(g*u)*(g*u):=Nat.mul_le_mul hg hg
   _=g*g*(u*u):=by ac_rfl
   _<(g*g/unit+1)*unit*(u*u):=Nat.mul_lt_mul_of_pos_right b (Nat.mul_pos hu hu)
   _=_:=by ac_rfl
 have q3:l2*l2/(unit*u)≤g2*g2/(unit*u)+1:=Nat.le_succ_of_le (Nat.div_le_div_right (Nat.mul_le_mul hle hle));have e2:2*(unit*u)=2*unit*u:=by rw[Nat.mul_assoc]
 simp only[Vm] at hs ⊢;generalize l*l/unit=A at *
 generalize g*g/unit+1=B at *
 generalize l2*l2/(unit*u)=A2 at *
 generalize g2*g2/(unit*u)+1=B2 at *
 by_cases h1:2*unit≤A
 ·rw[if_pos h1] at hs;cases hs
  have h2:2*(unit*u)≤A2:=by rw[e2];exact Nat.le_trans (Nat.mul_le_mul_right _ h1) q1
  rw[if_pos h2];refine⟨_,rfl,?_,?_,rfl,by simp only;omega⟩
  ·show A/2*u≤A2/2
   rw[Nat.le_div_iff_mul_le (by decide)]
   calc A/2*u*2=A/2*2*u:=by ac_rfl
    _≤A*u:=Nat.mul_le_mul_right _ (Nat.div_mul_le_self _ _)
    _≤_:=q1
  ·show B2/2+1≤(B/2+1)*u
   have h3:B2/2<(B/2+1)*u:=by
    rw[Nat.div_lt_iff_lt_mul (by decide)]
    have h4:B+1≤(B/2+1)*2:=by omega
    have h5:(B+1)*u≤(B/2+1)*2*u:=Nat.mul_le_mul_right _ h4;have h6:(B/2+1)*2*u=(B/2+1)*u*2:=by ac_rfl
    rw[Nat.add_mul] at h5;omega
   exact h3
 ·rw[if_neg h1] at hs
  by_cases h2:2*unit≤B
  ·rw[if_pos h2] at hs;cases hs
  ·rw[if_neg h2] at hs;cases hs
   have h3:B2<2*(unit*u):=by
    rw[e2];exact Nat.lt_of_le_of_lt q2 (Nat.mul_lt_mul_of_pos_right (by omega) hu)
   rw[if_neg (by omega),if_neg (by omega)]
   exact⟨_,rfl,q1,q2,rfl,q3⟩
theorem Zoz{unit u:Nat}(hu:0<u)(h0:0<unit):∀ (n:Nat) {s t s':Nat×Nat×Nat},Zwn u s t→Zhj unit n s=some s'→∃ t',Zhj (unit*u) n t=some t'∧Zwn u s' t'
 | 0,s,t,s',h,hs=>by cases hs;exact⟨t,rfl,h⟩
 | n+1,s,t,s',h,hs=>by
  obtain⟨m,h1,h2⟩:=Option.bind_eq_some_iff.1 hs;obtain⟨m',h3,h4⟩:=Zqw hu h0 h h1;obtain⟨t',h5,h6⟩:=Zoz hu h0 n h4 h2;exact⟨t',by show (Vm (unit*u) t).bind _=_;rw[h3];exact h5,h6⟩
theorem Ztp{p more m2 n:Nat}(hp:p.log2≤more)(hm:more≤m2){s:Nat×Nat×Nat}(h:Ze p more n=some s):∃ t,Ze p m2 n=some t∧t.2.2=s.2.2:=by
 rw[Znp] at h ⊢;have e:(2:Nat)^m2=2^more*2^(m2-more):=by rw[← Nat.pow_add];congr 1;omega
 have e2:p*2^(m2-p.log2)=p*2^(more-p.log2)*2^(m2-more):=by rw[Nat.mul_assoc,← Nat.pow_add];congr 2;omega
 obtain⟨t,h1,h2⟩:=Zoz (Nat.two_pow_pos (m2-more)) (Nat.two_pow_pos more) n (s:=(p*2^(more-p.log2),p*2^(more-p.log2),p.log2)) (t:=(p*2^(m2-p.log2),p*2^(m2-p.log2),p.log2)) ⟨by rw[e2];exact Nat.le_refl _,by rw[e2];exact Nat.le_refl _,rfl,Nat.le_refl _⟩ h
 rw[e];exact⟨t,h1,h2.out⟩
theorem Zfi{p more:Nat}:∀ {n m:Nat},m≤n→(Ze p more n).isSome=true→(Ze p more m).isSome=true
 | 0,m,h,hs=>by rw[Nat.le_zero.1 h];exact hs
 | n+1,m,h,hs=>by
  rcases Nat.lt_or_eq_of_le h with h|h
  ·refine Zfi (Nat.lt_succ_iff.1 h) ?_;cases hd:Ze p more n with
   | none=>rw[Ze,hd] at hs;cases hs
   | some s=>rfl
  ·rw[h];exact hs
theorem Zhh{p n more:Nat}(h:(LN.lg p p.log2 n more).isSome=true):(Ze p more n).isSome=true:=by
 rw[Zs7] at h
 simpa using h
def Zg2:List Nat:=[3,5,7,11,13,17,19,23,29,31,37,41,43,47,53,59,61,67,71,73,79,83,89,97]
theorem Zzx:Zg2.all (fun p=>(LN.lg p p.log2 1056 1120).isSome)=true:=by decide +kernel
theorem Zjy{p:Nat}(h:p∈Zg2):p.log2≤6:=by
 have:∀ q∈Zg2,q.log2≤6:=by decide
 exact this p h
theorem Zeh{p:Nat}(h:p∈Zg2):p%2=1∧3≤p∧p≤97:=by
 have:∀ q∈Zg2,q%2=1∧3≤q∧q≤97:=by decide
 exact this p h
theorem Zno{p n more:Nat}(hp:p∈Zg2)(hn:n≤1056)(hm:1120≤more):(Ze p more n).isSome=true:=by
 have h:=Zzx;rw[List.all_eq_true] at h;have h1:=Zfi (m:=n) hn (Zhh (h p hp));have hl:=Zjy hp;obtain⟨s,hs⟩:=Option.isSome_iff_exists.1 h1;obtain⟨t,ht,_⟩:=Ztp (m2:=more) (by omega) (by omega) hs
 rw[ht];rfl
theorem Zov{p N a b:Nat}(h1:Qax p N a)(h2:Qax p N b):a=b:=by
 have e1:2^a<2^(b+1):=Nat.lt_of_le_of_lt h1.1 h2.2;have e2:2^b<2^(a+1):=Nat.lt_of_le_of_lt h2.1 h1.2;have f1:=(Nat.pow_lt_pow_iff_right (by decide)).1 e1
 have f2:=(Nat.pow_lt_pow_iff_right (by decide)).1 e2
 omega
def lgN (p:Int) (n:Nat):Nat:=if p=2 then 2^n else match Ze p.toNat 1120 n with
 | some s=>s.2.2
 | none=>0
theorem Zf5{p n more:Nat}(hp:p∈Zg2)(hn:n≤1056)(hm:6≤more){s:Nat×Nat×Nat}(h:Ze p more n=some s):s.2.2=lgN p n:=by
 have hl:=Zjy hp;have ho:=Zeh hp;have h1:=(Zem p more (by omega) (by omega) n s h).lg
 obtain⟨t,ht⟩:=Option.isSome_iff_exists.1 (Zno hp hn (Nat.le_refl 1120));have h2:=(Zem p 1120 (by omega) (by omega) n t ht).lg
 have e:lgN p n=t.2.2:=by
  unfold lgN;rw[if_neg (by omega),Int.toNat_natCast,ht]
 rw[e];exact Zov h1 h2
theorem Zw5{p n:Nat}(hp:p∈Zg2)(hn:n≤1056):Qax p (2^n) (lgN p n):=by
 have hl:=Zjy hp;have ho:=Zeh hp;obtain⟨t,ht⟩:=Option.isSome_iff_exists.1 (Zno hp hn (Nat.le_refl 1120));have h2:=(Zem p 1120 (by omega) (by omega) n t ht).lg
 rw[Zf5 hp hn (by decide) ht] at h2
 exact h2
theorem Zg8(n:Nat):lgN 2 n=2^n:=by unfold lgN;rw[if_pos rfl]
theorem Zzy{p n:Nat}(hp:p=2∨p∈Zg2)(hn:n≤1056):lgN p n<7*2^n:=by
 rcases hp with rfl|hp
 ·have:=Nat.two_pow_pos n
  rw[show ((2:Nat):Int)=2 from rfl,Zg8];omega
 ·have ho:=Zeh hp;have h:=(Zw5 hp hn).1;have h1:p^(2^n)<(2^7)^(2^n):=Nat.pow_lt_pow_left (by omega) (Nat.ne_of_gt (Nat.two_pow_pos n))
  rw[← Nat.pow_mul] at h1;have h2:=Nat.lt_of_le_of_lt h h1;exact(Nat.pow_lt_pow_iff_right (by decide)).1 h2
theorem Zxx(p:Nat)(h:p%2=1)(m:Nat):p^m%2=1:=by
 induction m with
 | zero=>rfl
 | succ m ih=>rw[Nat.pow_succ,Nat.mul_mod,ih,h]
theorem Zzz{p n:Nat}(hp:p=2∨p∈Zg2)(hn:n≤1056):LN.LogAt n (p:Int) (lgN p n):=by
 rcases hp with rfl|hp
 ·rw[show ((2:Nat):Int)=2 from rfl,Zg8]
  exact⟨Nat.le_refl _,Nat.pow_lt_pow_right (by decide) (by omega),fun _=>rfl,fun h=>absurd rfl h⟩
 ·have ho:=Zeh hp;obtain⟨h1,h2⟩:=Zw5 hp hn;refine⟨by rw[Int.toNat_natCast];exact h1,by rw[Int.toNat_natCast];exact h2,fun h=>by omega,fun _=>?_⟩
  rw[Int.toNat_natCast];refine Nat.lt_of_le_of_ne h1 fun e=>?_
  have h3:=Zxx p ho.1 (2^n);rw[← e] at h3
  by_cases h0:lgN p n=0
  ·rw[h0] at h2;have:p^1≤p^(2^n):=Nat.pow_le_pow_right (by omega) (Nat.two_pow_pos n)
   rw[Nat.pow_one] at this;omega
  ·obtain⟨k,hk⟩:=Nat.exists_eq_succ_of_ne_zero h0;rw[hk,Nat.pow_succ] at h3;omega
end Go.Proofs.YtbielfplgbammaaGreatDoor

namespace Go.Proofs.YtbielfplgbammaaGreatDoor
open Go.RowKit
theorem Znr:dec 2=⟨#[50]⟩:=by
 have:(dec 2).data = #[50]:=by decide +kernel
 exact ByteArray.ext this
theorem Vr{x K:Nat}(h:x<2^K)(hK:K<100000):Num x:=by
 unfold Num;have h1:(dec x).size≤K+1:=by
  rw[Zad _ _ (by omega)]
  exact Nat.lt_of_lt_of_le h (Nat.le_trans (Nat.pow_le_pow_left (by decide) K) (Nat.pow_le_pow_right (by decide) (by omega)))
 omega
theorem Zxh(w:World)(n:Nat)(hn:n≤4000)(L:Qx w):Kc Tryz.prog 12 #[.string ⟨#[50]⟩,.int .i64 n] w (.tuple #[.string (dec (2^n)),.int .i64 0]):=by
 unfold Kc;have hs:=Vv w 2;rw[show itx 2=dec 2 by exact Ki 2,show ((2:Int).natAbs)=2 from rfl,Znr,decide_eq_false (by decide)] at hs
 have Hs:=hd_ hs;have Hp:Hid (∀ W,Below w.heap.size w W→Kc Tryz.prog 51 #[.string ⟨#[50]⟩,.int .i64 n] W (.tuple #[.string (dec (2^n)),.int .i64 0])):=fun W hW=>by
  have:=Zp5 W n hn (L.below hW)
  rw[Znr] at this;exact this
 have hN:Num (2^n):=Vr (K:=n+1) (Nat.pow_lt_pow_right (by decide) (by omega)) (by omega)
 have Hj:Hid (∀ W,Kc Tryz.prog 52 #[.bool false,.string (dec (2^n))] W (.string (dec (2^n)))):=fun W=>by
  have:=Vi W false (2^n) hN
  rw[show jz false (2^n)=((2^n:Nat):Int) from rfl,Ki] at this
  exact this
 clear hs L hN;generalize dec (2^n)=s at *
 have h0:¬ (n:Int)<0:=by omega
 have h1:¬ (4000:Int)<n:=by omega
 have hsz:((⟨#[50]⟩:ByteArray).size:Int)=1:=rfl;go_enter Tryz.func12,Tryz.ntmps12
 go_wp2_with fail
 refine cm_ Hs.out ?_;rintro e w1 ⟨rfl,hb⟩;have B1:=hd_ hb;clear hb Hs
 go_wp2_with fail
 refine cm_ (Hp.out _ B1.out) ?_;rintro e w2 ⟨rfl,hb⟩;have B2:=hd_ (B1.out.trans (hb.mono B1.out.size));clear hb Hp B1
 go_wp2_with fail
 refine cm_ (Hj.out _) ?_;rintro e w3 ⟨rfl,hb⟩;have B3:=hd_ (B2.out.trans (hb.mono B2.out.size));clear hb Hj B2
 go_wp2_with fail
 go_ret2
 exact⟨rfl,B3.out⟩
theorem Zzb(w:World)(a b K:Nat)(hK:K<90000)(ha:a<2^K)(hb:b<2^K)(L:Qx w):Kc Tryz.prog 205 #[.string (dec a),.string (dec b)] w (.string (dec (a+b))):=by
 have hn:=Vr ha (by omega)
 have hm:=Vr hb (by omega)
 have hs:Num (a+b):=Vr (K:=K+1) (by rw[Nat.pow_succ];omega) (by omega)
 have:=Zf8 w (a:Int) (b:Int) hn hm hs L
 rw[← Int.natCast_add,Ki,Ki,Ki] at this;exact this
theorem Qbc(w:World)(a b K:Nat)(hK:K<40000)(ha:a<2^K)(hb:b<2^K)(L:Qx w):Kc Tryz.prog 14 #[.string (dec a),.string (dec b)] w (.string (dec (a*b))):=by
 have hn:=Vr ha (by omega)
 have hm:=Vr hb (by omega)
 have hs:Zdf ((a:Int)*b):=Vr (K:=K+K) (by rw[← Int.natCast_mul,Int.natAbs_natCast,Nat.pow_add];exact Nat.mul_lt_mul'' ha hb) (by omega)
 have:=Za4 w (a:Int) (b:Int) hn hm hs L
 rw[← Int.natCast_mul,Ki,Ki,Ki] at this;exact this
theorem Qa5(w:World)(a b K:Nat)(hK:K<90000)(ha:a<2^K)(hb:b<2^K)(h0:0<b)(L:Qx w):Kc Tryz.prog 163 #[.string (dec a),.string (dec b)] w (.tuple #[.string (dec (a/b)),.string (dec (a%b)),.int .i64 0]):=by
 have hn:=Vr ha (by omega)
 have hm:=Vr hb (by omega)
 have hs:Num ((a:Int).natAbs+1):=Vr (K:=K+1) (by rw[Int.natAbs_natCast,Nat.pow_succ];omega) (by omega)
 have:=Zcc w (a:Int) b hn hm h0 hs L
 rw[(Zkb a b).1,(Zkb a b).2,Ki,Ki,Ki] at this;exact this
theorem Qah(_w:World)(a b K:Nat)(hK:K<90000)(ha:a<2^K)(hb:b<2^K):∃ c:Int,(c = -1∨c=0∨c=1)∧(0≤c↔b≤a)∧∀ W,Kc Tryz.prog 17 #[.string (dec a),.string (dec b)] W (.int .i64 c):=by
 have hn:=Vr ha (by omega)
 have hm:=Vr hb (by omega)
 refine⟨Zo7 a b,?_,?_,fun W=>?_⟩
 ·unfold Zo7;split
  ·exact .inl rfl
  ·split
   ·exact .inr (.inl rfl)
   ·exact .inr (.inr rfl)
 ·unfold Zo7;split
  ·constructor<;>omega
  ·split
   ·constructor<;>omega
   ·constructor<;>omega
 ·have:=Zl3 W (a:Int) (b:Int) hn hm
  rw[Ki,Ki] at this;exact this
structure Qcb (more n:Nat) (s:Nat×Nat×Nat):Prop where
 lo:s.1<2*2^more
 hi:s.2.1<2*2^more
 out:s.2.2<2^(n+3)
theorem Zs4(p:Nat)(hp:2≤p)(hp2:p≤97):p.log2≤6:=by
 have:=(Nat.log2_lt (n:=p) (k:=7) (by omega)).2 (by omega)
 omega
theorem Zw9(p more:Nat)(hp:2≤p)(hp2:p≤97)(hm:64≤more):∀ n s,Ze p more n=some s→Qcb more n s
 | 0,s,h=>by
  simp only[Ze,Option.some.injEq] at h;subst h;have h1:p<2^(p.log2+1):=Nat.lt_log2_self;have h2:=Zs4 p hp hp2;have h3:p*2^(more-p.log2)<2^(p.log2+1)*2^(more-p.log2):=Nat.mul_lt_mul_of_pos_right h1 (Nat.two_pow_pos _);rw[← Nat.pow_add,show p.log2+1+(more-p.log2)=1+more by omega,Nat.pow_add,Nat.pow_one] at h3
  exact⟨h3,h3,by show p.log2<2^3;omega⟩
 | n+1,s,h=>by
  simp only[Ze] at h;obtain⟨t,ht,hs⟩:=Option.bind_eq_some_iff.1 h;obtain⟨f1,f2,f3⟩:=Zw9 p more hp hp2 hm n t ht;obtain⟨l,g,o⟩:=t;simp only at f1 f2 f3;simp only[Vm] at hs;have hu:=Nat.two_pow_pos more;have hu2:2^1≤2^more:=Nat.pow_le_pow_right (by decide) (by omega)
  obtain⟨u,eu⟩:∃ u,2^more=u:=⟨_,rfl⟩;rw[eu] at hu hu2 f1 f2 hs;have q1:l*l/u<4*u:=by
   rw[Nat.div_lt_iff_lt_mul hu]
   calc l*l<2*u*(2*u):=Nat.mul_lt_mul'' f1 f1
    _=4*u*u:=by grind
  have q2:g*g/u+1≤4*u-3:=by
   have h1:g*g≤(2*u-1)*(2*u-1):=Nat.mul_le_mul (by omega) (by omega)
   have h2:g*g/u<4*u-3:=by
    rw[Nat.div_lt_iff_lt_mul hu];obtain⟨v,rfl⟩:∃ v,u=v+1:=⟨u-1,by omega⟩
    have e1:2*(v+1)-1=2*v+1:=by omega
    have e2:4*(v+1)-3=4*v+1:=by omega
    rw[e1] at h1;rw[e2];have e3:(2*v+1)*(2*v+1)=4*(v*v)+4*v+1:=by grind
    have e4:(4*v+1)*(v+1)=4*(v*v)+5*v+1:=by grind
    rw[e3] at h1;rw[e4];omega
   omega
  have eo:2^(n+1+3)=2*2^(n+3):=by rw[show n+1+3=n+3+1 by omega,Nat.pow_succ];omega
  by_cases h1:2*u≤l*l/u
  ·rw[if_pos h1] at hs;cases hs
   exact⟨by simp only;rw[eu];omega,by simp only;rw[eu];omega,by simp only;omega⟩
  ·rw[if_neg h1] at hs
   by_cases h2:2*u≤g*g/u+1
   ·rw[if_pos h2] at hs;cases hs
   ·rw[if_neg h2] at hs;cases hs
    exact⟨by simp only;rw[eu];omega,by simp only;rw[eu];omega,by simp only;omega⟩
def Zcd (p n more:Nat):Value:=match Ze p more n with
 | some s => .tuple #[.string (dec s.2.2),.bool true]
 | none => .tuple #[.string ⟨#[]⟩,.bool false]
theorem Zto{p more j n:Nat}(h:Ze p more j=none)(hj:j≤n):Ze p more n=none:=by
 cases hd:Ze p more n with
 | none=>rfl
 | some s =>
  have:=Zfi (m:=j) hj (show (Ze p more n).isSome=true by rw[hd];rfl)
  rw[h] at this;cases this
theorem Zmx(w:World)(p n more:Nat)(hp:2≤p)(hp2:p≤97)(hn:n≤4000)(hm:64≤more)(hm2:more≤4000)(L:Qx w):
  Kc Tryz.prog 283 #[.int .i64 p,.int .i64 n,.int .i64 more] w (Zcd p n more):=by
 unfold Kc;have hl:=Zs4 p hp hp2;have hln:=hd_ (Tryz.bits_Len p w (by omega) (by omega))
 rw[show ((p:Nat):Int).toNat=p from rfl,Zja p (by omega) hp2] at hln
 have hw1:IntKind.i64.wrap (((p.log2+1:Nat):Int)-1)=(p.log2:Int):=by rw[show ((p.log2+1:Nat):Int)-1=(p.log2:Int) by omega];exact iw_ _ (by omega)
 have hw2:IntKind.u64.wrap (p:Int)=p:=IntWalk.u64_in _ (by omega)
 have hw3:IntKind.i64.wrap ((more:Int)-(p.log2:Int))=((more-p.log2:Nat):Int):=by rw[show (more:Int)-(p.log2:Int)=((more-p.log2:Nat):Int) by omega];exact iw_ _ (by omega)
 have HL:=hd_ L;clear L;obtain⟨K,hK⟩:∃ K:Nat,K=4050:=⟨_,rfl⟩;have HK:=hd_ hK;have Hm2:=hd_ hm2;have Hn:=hd_ hn;have Hdb:Hid (∀ j lo hi o,Ze p more j=some (lo,hi,o)→lo<2*2^more∧hi<2*2^more∧o<2^(j+3)):=fun j lo hi o h=>by
  have:=Zw9 p more hp hp2 hm j _ h
  exact⟨this.lo,this.hi,this.out⟩
 have Hnext:Hid (∀ j s,Ze p more j=some s→Ze p more (j+1)=Vm (2^more) s):=fun j s h=>by
  simp only[Ze,h,Option.bind_some]
 have Hu0:Hid (0<2^more):=Nat.two_pow_pos more;have Hu:Hid (2^more<2^K):=Nat.pow_lt_pow_right (by decide) (by omega)
 have Huu:Hid (2^more+2^more=2*2^more):=(Nat.two_mul _).symm;have Hu2:Hid (2*2^more<2^K):=by
  show _<_
  rw[Nat.mul_comm,← Nat.pow_succ];exact Nat.pow_lt_pow_right (by decide) (by omega)
 have Hp2:Hid (∀ W,Below w.heap.size w W→Kc Tryz.prog 12 #[.string ⟨#[50]⟩,.int .i64 more] W (.tuple #[.string (dec (2^more)),.int .i64 0])):=fun W hW=>Zxh W more hm2 (HL.out.below hW)
 have Hp3:Hid (∀ W,Below w.heap.size w W→Kc Tryz.prog 12 #[.string ⟨#[50]⟩,.int .i64 (more-p.log2:Nat)] W (.tuple #[.string (dec (2^(more-p.log2))),.int .i64 0])):=fun W hW=>Zxh W (more-p.log2) (by omega) (HL.out.below hW)
 have H0:Hid (Ze p more 0=some (p*2^(more-p.log2),p*2^(more-p.log2),p.log2)):=rfl;have Hof1:Hid (∀ W,Below w.heap.size w W→Kc Tryz.prog 13 #[.int .i64 p] W (.string (dec p))):=fun W hW=>by
  have:=Zb6 W p (by omega) (by omega) (HL.out.below hW)
  rw[Ki] at this;exact this
 have Hof2:Hid (∀ W,Below w.heap.size w W→Kc Tryz.prog 13 #[.int .i64 p.log2] W (.string (dec p.log2))):=fun W hW=>by
  have:=Zb6 W p.log2 (by omega) (by omega) (HL.out.below hW)
  rw[Ki] at this;exact this
 have Had1:Hid (∀ W,Below w.heap.size w W→Kc Tryz.prog 205 #[.string (dec (2^more)),.string (dec (2^more))] W (.string (dec (2*2^more)))):=fun W hW=>by
  have:=Zzb W (2^more) (2^more) K (by have:=HK.out;omega) Hu.out Hu.out (HL.out.below hW)
  rw[Huu.out] at this;exact this
 have Hmu1:Hid (∀ W,Below w.heap.size w W→Kc Tryz.prog 14 #[.string (dec p),.string (dec (2^(more-p.log2)))] W (.string (dec (p*2^(more-p.log2))))):=fun W hW =>
  Qbc W p (2^(more-p.log2)) (K+K) (by have:=HK.out;omega) (Nat.lt_of_lt_of_le (show p<2^7 by omega) (Nat.pow_le_pow_right (by decide) (by have:=HK.out;omega))) (Nat.pow_lt_pow_right (by decide) (by omega)) (HL.out.below hW)
 have B0:=hd_ (Below.refl w.heap.size w);have hnn:(n:Int)≤4000:=by omega
 rw[show ((more-p.log2:Nat):Int)=(more:Int)-(p.log2:Int) by omega] at Hp3
 clear hp hp2 hK hw3;have Hd1:=hd_ Zcf;have Hd2:=hd_ Znr;generalize hlp:p.log2=lp at *
 clear hlp;generalize 2^more=unit at *
 generalize hvv:Zcd p n more=vv at *
 have Hvv:=hd_ hvv;clear hvv;go_enter Tryz.func283,Tryz.ntmps283
 go_wp2_with fail
 refine cm_ hln.out ?_;rintro e w1 ⟨rfl,rfl⟩;clear hln
 go_wp2_with fail
 refine cm_ (Hp2.out _ B0.out) ?_;rintro e w2 ⟨rfl,hb⟩;have B2:=hd_ (B0.out.trans (hb.mono B0.out.size));clear hb B0
 go_wp2_with fail
 refine cm_ (Had1.out _ B2.out) ?_;rintro e w3 ⟨rfl,hb⟩;have B3:=hd_ (B2.out.trans (hb.mono B2.out.size));clear hb B2
 go_wp2_with fail
 refine cm_ (Hp3.out _ B3.out) ?_;rintro e w4 ⟨rfl,hb⟩;have B4:=hd_ (B3.out.trans (hb.mono B3.out.size));clear hb B3
 go_wp2_with fail
 refine cm_ (Hof1.out _ B4.out) ?_;rintro e w5 ⟨rfl,hb⟩;have B5:=hd_ (B4.out.trans (hb.mono B4.out.size));clear hb B4
 go_wp2_with fail
 refine cm_ (Hmu1.out _ B5.out) ?_;rintro e w6 ⟨rfl,hb⟩;have B6:=hd_ (B5.out.trans (hb.mono B5.out.size));clear hb B5
 go_wp2_with fail
 refine cm_ (Hof2.out _ B6.out) ?_;rintro e w7 ⟨rfl,hb⟩;have B7:=hd_ (B6.out.trans (hb.mono B6.out.size));clear hb B6
 go_wp2_with fail
 clear Hp2 Had1 Hp3 Hof1 Hmu1 Hof2;generalize p*2^(more-lp)=st at *
 go_loopw [14,15,16,50] (fun a b c i wr=>∃ (j lo hi o:Nat),j≤n∧Hid (Ze p more j=some (lo,hi,o))∧a = .string (dec lo)∧b = .string (dec hi)∧c = .string (dec o)∧i = .int .i64 j∧Hid (Below w1.heap.size w1 wr)) (fun _ _ _ i _=>n-(intOf i).toNat)
 case atStart=>exact⟨0,_,_,_,by omega,H0,rfl,rfl,rfl,rfl,B7⟩
 case round =>
  clear B7 H0;obtain⟨j,lo,hi,o,hj,Hd,rfl,rfl,rfl,rfl,B1⟩:=hrel
  by_cases hlt:j<n
  ·have hlt':(j:Int)<n:=by omega
   obtain⟨f1,f2,f3⟩:=Hdb.out j _ _ _ Hd.out;have g1:lo<2^K:=Nat.lt_trans f1 Hu2.out;have g2:hi<2^K:=Nat.lt_trans f2 Hu2.out;have g3:o<2^K:=Nat.lt_of_lt_of_le f3 (Nat.pow_le_pow_right (by decide) (by have:=Hn.out;have:=HK.out;omega))
   clear f1 f2 f3;have k1:lo*lo<2^(K+K):=by rw[Nat.pow_add];exact Nat.mul_lt_mul'' g1 g1
   have k2:hi*hi<2^(K+K):=by rw[Nat.pow_add];exact Nat.mul_lt_mul'' g2 g2
   have k3:unit<2^(K+K):=Nat.lt_trans Hu.out (Nat.pow_lt_pow_right (by decide) (by have:=HK.out;omega))
   have k4:2*unit<2^(K+K+1):=Nat.lt_trans Hu2.out (Nat.pow_lt_pow_right (by decide) (by have:=HK.out;omega))
   have k5:lo*lo/unit<2^(K+K):=Nat.lt_of_le_of_lt (Nat.div_le_self _ _) k1;have k6:hi*hi/unit<2^(K+K):=Nat.lt_of_le_of_lt (Nat.div_le_self _ _) k2;have one:1<2^(K+K):=Nat.one_lt_two_pow (by have:=HK.out;omega)
   have k7:hi*hi/unit+1<2^(K+K+1):=by rw[Nat.pow_succ 2 (K+K)];omega
   have k8:lo*lo/unit<2^(K+K+1):=Nat.lt_trans k5 (Nat.pow_lt_pow_right (by decide) (by have:=HK.out;omega))
   have k9:(hi*hi/unit+1)/2<2^(K+K+1):=Nat.lt_of_le_of_lt (Nat.div_le_self _ _) k7;have one1:1<2^(K+K+1):=Nat.one_lt_two_pow (by have:=HK.out;omega)
   have two1:2<2^(K+K+1):=by
    have:2^2≤2^(K+K+1):=Nat.pow_le_pow_right (by decide) (by have:=HK.out;omega)
    omega
   have g3':o<2^(K+K):=Nat.lt_trans g3 (Nat.pow_lt_pow_right (by decide) (by have:=HK.out;omega))
   have k10:o+o<2^(K+K+1):=by rw[Nat.pow_succ 2 (K+K)];omega
   have BL:=fun W (hW:Below wr.heap.size wr W)=>HL.out.below (B1.out.trans (hW.mono B1.out.size))
   have M1:Hid (∀ W,Below wr.heap.size wr W→Kc Tryz.prog 14 #[.string (dec lo),.string (dec lo)] W (.string (dec (lo*lo)))):=fun W hW=>Qbc W lo lo K (by have:=HK.out;omega) g1 g1 (BL W hW)
   have M2:Hid (∀ W,Below wr.heap.size wr W→Kc Tryz.prog 14 #[.string (dec hi),.string (dec hi)] W (.string (dec (hi*hi)))):=fun W hW=>Qbc W hi hi K (by have:=HK.out;omega) g2 g2 (BL W hW)
   have D1:Hid (∀ W,Below wr.heap.size wr W→Kc Tryz.prog 163 #[.string (dec (lo*lo)),.string (dec unit)] W (.tuple #[.string (dec (lo*lo/unit)),.string (dec (lo*lo%unit)),.int .i64 0])):=fun W hW=>Qa5 W _ unit (K+K) (by have:=HK.out;omega) k1 k3 Hu0.out (BL W hW)
   have D2:Hid (∀ W,Below wr.heap.size wr W→Kc Tryz.prog 163 #[.string (dec (hi*hi)),.string (dec unit)] W (.tuple #[.string (dec (hi*hi/unit)),.string (dec (hi*hi%unit)),.int .i64 0])):=fun W hW=>Qa5 W _ unit (K+K) (by have:=HK.out;omega) k2 k3 Hu0.out (BL W hW)
   have A1:Hid (∀ W,Below wr.heap.size wr W→Kc Tryz.prog 205 #[.string (dec (hi*hi/unit)),.string ⟨#[49]⟩] W (.string (dec (hi*hi/unit+1)))):=fun W hW=>by
    have:=Zzb W _ 1 (K+K) (by have:=HK.out;omega) k6 one (BL W hW)
    rw[Hd1.out] at this;exact this
   have A2:Hid (∀ W,Below wr.heap.size wr W→Kc Tryz.prog 205 #[.string (dec o),.string (dec o)] W (.string (dec (o+o)))):=fun W hW=>Zzb W o o K (by have:=HK.out;omega) g3 g3 (BL W hW)
   have A3:Hid (∀ W,Below wr.heap.size wr W→Kc Tryz.prog 205 #[.string (dec (o+o)),.string ⟨#[49]⟩] W (.string (dec (o+o+1)))):=fun W hW=>by
    have:=Zzb W _ 1 (K+K+1) (by have:=HK.out;omega) k10 one1 (BL W hW)
    rw[Hd1.out] at this;exact this
   have D3:Hid (∀ W,Below wr.heap.size wr W→Kc Tryz.prog 163 #[.string (dec (lo*lo/unit)),.string ⟨#[50]⟩] W (.tuple #[.string (dec (lo*lo/unit/2)),.string (dec (lo*lo/unit%2)),.int .i64 0])):=fun W hW=>by
    have:=Qa5 W _ 2 (K+K+1) (by have:=HK.out;omega) k8 two1 (by decide) (BL W hW)
    rw[Hd2.out] at this;exact this
   have D4:Hid (∀ W,Below wr.heap.size wr W→Kc Tryz.prog 163 #[.string (dec (hi*hi/unit+1)),.string ⟨#[50]⟩] W (.tuple #[.string (dec ((hi*hi/unit+1)/2)),.string (dec ((hi*hi/unit+1)%2)),.int .i64 0])):=fun W hW=>by
    have:=Qa5 W _ 2 (K+K+1) (by have:=HK.out;omega) k7 two1 (by decide) (BL W hW)
    rw[Hd2.out] at this;exact this
   have A4:Hid (∀ W,Below wr.heap.size wr W→Kc Tryz.prog 205 #[.string (dec ((hi*hi/unit+1)/2)),.string ⟨#[49]⟩] W (.string (dec ((hi*hi/unit+1)/2+1)))):=fun W hW=>by
    have:=Zzb W _ 1 (K+K+1) (by have:=HK.out;omega) k9 one1 (BL W hW)
    rw[Hd1.out] at this;exact this
   obtain⟨c1,hc1,hc1',C1⟩:=Qah wr (lo*lo/unit) (2*unit) (K+K+1) (by have:=HK.out;omega) k8 k4
   obtain⟨c2,hc2,hc2',C2⟩:=Qah wr (hi*hi/unit+1) (2*unit) (K+K+1) (by have:=HK.out;omega) k7 k4
   have HC1:=hd_ C1;have HC2:=hd_ C2;have Hc1:=hd_ hc1';have Hc2:=hd_ hc2';have Hst:=hd_ (Hnext.out j _ Hd.out);simp only[Vm] at Hst;have Hoo:Hid (2*o=o+o):=Nat.two_mul o;rw[Hoo.out] at Hst;clear C1 C2 hc1' hc2' BL k1 k2 k3 k4 k5 k6 k7 k8 k9 k10 one one1 two1 g1 g2 g3 g3' Hoo;generalize lo*lo/unit=X1 at *
   generalize hi*hi/unit=X2 at *
   generalize lo*lo%unit=r1 at *
   generalize hi*hi%unit=r2 at *
   generalize lo*lo=q1 at *
   generalize hi*hi=q2 at *
   generalize X1%2=r3 at *
   generalize (X2+1)%2=r4 at *
   obtain⟨Y1,hY1⟩:∃ y,X1/2=y:=⟨_,rfl⟩;obtain⟨Y2,hY2⟩:∃ y,(X2+1)/2+1=y:=⟨_,rfl⟩;obtain⟨Y3,hY3⟩:∃ y,X2+1=y:=⟨_,rfl⟩;rw[hY1] at D3 Hst;rw[hY2] at A4 Hst;rw[hY3] at D4 A1 HC2 Hst Hc2 A4;clear hY1 hY2 hY3;generalize Y3/2=Y4 at *
   generalize dec lo=slo at *
   generalize dec hi=shi at *
   generalize dec o=so at *
   generalize o+o=oo at *
   have P0:=hd_ (Below.refl wr.heap.size wr);clear Hnext Hdb
   by_cases h1:0≤c1
   ·have Hst1:Hid (Ze p more (j+1)=some (Y1,Y2,oo+1)):=by
     show _=_
     rw[Hst.out,if_pos (Hc1.out.1 h1)]
    clear Hst Hc1 Hc2 HC2
    go_wp2_with fail
    refine cm_ (M1.out _ P0.out) ?_;rintro e w1 ⟨rfl,hb⟩;have P1:=hd_ (P0.out.trans (hb.mono P0.out.size));clear hb P0 M1
    go_wp2_with fail
    refine cm_ (D1.out _ P1.out) ?_;rintro e w2 ⟨rfl,hb⟩;have P2:=hd_ (P1.out.trans (hb.mono P1.out.size));clear hb P1 D1
    go_wp2_with fail
    refine cm_ (M2.out _ P2.out) ?_;rintro e w3 ⟨rfl,hb⟩;have P3:=hd_ (P2.out.trans (hb.mono P2.out.size));clear hb P2 M2
    go_wp2_with fail
    refine cm_ (D2.out _ P3.out) ?_;rintro e w4 ⟨rfl,hb⟩;have P4:=hd_ (P3.out.trans (hb.mono P3.out.size));clear hb P3 D2
    go_wp2_with fail
    refine cm_ (A1.out _ P4.out) ?_;rintro e w5 ⟨rfl,hb⟩;have P5:=hd_ (P4.out.trans (hb.mono P4.out.size));clear hb P4 A1
    go_wp2_with fail
    refine cm_ (A2.out _ P5.out) ?_;rintro e w6 ⟨rfl,hb⟩;have P6:=hd_ (P5.out.trans (hb.mono P5.out.size));clear hb P5 A2
    go_wp2_with fail
    refine cm_ (HC1.out _) ?_;rintro e w7 ⟨rfl,hb⟩;have P7:=hd_ (P6.out.trans (hb.mono P6.out.size));clear hb P6 HC1
    go_wp2_with fail
    refine cm_ (A3.out _ P7.out) ?_;rintro e w8 ⟨rfl,hb⟩;have P8:=hd_ (P7.out.trans (hb.mono P7.out.size));clear hb P7 A3
    go_wp2_with fail
    refine cm_ (D3.out _ P8.out) ?_;rintro e w9 ⟨rfl,hb⟩;have P9:=hd_ (P8.out.trans (hb.mono P8.out.size));clear hb P8 D3
    go_wp2_with fail
    refine cm_ (D4.out _ P9.out) ?_;rintro e w10 ⟨rfl,hb⟩;have P10:=hd_ (P9.out.trans (hb.mono P9.out.size));clear hb P9 D4
    go_wp2_with fail
    refine cm_ (A4.out _ P10.out) ?_;rintro e w11 ⟨rfl,hb⟩;have P11:=hd_ (P10.out.trans (hb.mono P10.out.size));clear hb P10 A4
    go_wp2_with fail
    have B9:=hd_ (B1.out.trans (P11.out.mono B1.out.size))
    go_roundw
    case rel=>exact⟨j+1,Y1,Y2,oo+1,by omega,Hst1,rfl,rfl,rfl,by go_num,B9⟩
    case measure=>simp[intOf];omega
   ·have h1':c1<0:=by omega
    by_cases h2:0≤c2
    ·have Hst1:Hid (Ze p more (j+1)=none):=by
      show _=_
      rw[Hst.out,if_neg (fun h=>h1 (Hc1.out.2 h)),if_pos (Hc2.out.1 h2)]
     have Hv1:Hid (vv = .tuple #[.string ⟨#[]⟩,.bool false]):=by
      show _=_
      rw[← Hvv.out];unfold Zcd;rw[Zto Hst1.out (by omega)]
     clear Hst Hc1 Hc2 A3 D3 D4 A4
     go_wp2_with fail
     refine cm_ (M1.out _ P0.out) ?_;rintro e w1 ⟨rfl,hb⟩;have P1:=hd_ (P0.out.trans (hb.mono P0.out.size));clear hb P0 M1
     go_wp2_with fail
     refine cm_ (D1.out _ P1.out) ?_;rintro e w2 ⟨rfl,hb⟩;have P2:=hd_ (P1.out.trans (hb.mono P1.out.size));clear hb P1 D1
     go_wp2_with fail
     refine cm_ (M2.out _ P2.out) ?_;rintro e w3 ⟨rfl,hb⟩;have P3:=hd_ (P2.out.trans (hb.mono P2.out.size));clear hb P2 M2
     go_wp2_with fail
     refine cm_ (D2.out _ P3.out) ?_;rintro e w4 ⟨rfl,hb⟩;have P4:=hd_ (P3.out.trans (hb.mono P3.out.size));clear hb P3 D2
     go_wp2_with fail
     refine cm_ (A1.out _ P4.out) ?_;rintro e w5 ⟨rfl,hb⟩;have P5:=hd_ (P4.out.trans (hb.mono P4.out.size));clear hb P4 A1
     go_wp2_with fail
     refine cm_ (A2.out _ P5.out) ?_;rintro e w6 ⟨rfl,hb⟩;have P6:=hd_ (P5.out.trans (hb.mono P5.out.size));clear hb P5 A2
     go_wp2_with fail
     refine cm_ (HC1.out _) ?_;rintro e w7 ⟨rfl,hb⟩;have P7:=hd_ (P6.out.trans (hb.mono P6.out.size));clear hb P6 HC1
     go_wp2_with fail
     refine cm_ (HC2.out _) ?_;rintro e w8 ⟨rfl,hb⟩;have P8:=hd_ (P7.out.trans (hb.mono P7.out.size));clear hb P7 HC2
     go_wp2_with fail
     have B9:=hd_ (B1.out.trans (P8.out.mono B1.out.size))
     go_ret2
     exact⟨by rw[Hv1.out];rfl,B9.out⟩
    ·have h2':c2<0:=by omega
     have Hst1:Hid (Ze p more (j+1)=some (X1,Y3,oo)):=by
      show _=_
      rw[Hst.out,if_neg (fun h=>h1 (Hc1.out.2 h)),if_neg (fun h=>h2 (Hc2.out.2 h))]
     clear Hst Hc1 Hc2 A3 D3 D4 A4
     go_wp2_with fail
     refine cm_ (M1.out _ P0.out) ?_;rintro e w1 ⟨rfl,hb⟩;have P1:=hd_ (P0.out.trans (hb.mono P0.out.size));clear hb P0 M1
     go_wp2_with fail
     refine cm_ (D1.out _ P1.out) ?_;rintro e w2 ⟨rfl,hb⟩;have P2:=hd_ (P1.out.trans (hb.mono P1.out.size));clear hb P1 D1
     go_wp2_with fail
     refine cm_ (M2.out _ P2.out) ?_;rintro e w3 ⟨rfl,hb⟩;have P3:=hd_ (P2.out.trans (hb.mono P2.out.size));clear hb P2 M2
     go_wp2_with fail
     refine cm_ (D2.out _ P3.out) ?_;rintro e w4 ⟨rfl,hb⟩;have P4:=hd_ (P3.out.trans (hb.mono P3.out.size));clear hb P3 D2
     go_wp2_with fail
     refine cm_ (A1.out _ P4.out) ?_;rintro e w5 ⟨rfl,hb⟩;have P5:=hd_ (P4.out.trans (hb.mono P4.out.size));clear hb P4 A1
     go_wp2_with fail
     refine cm_ (A2.out _ P5.out) ?_;rintro e w6 ⟨rfl,hb⟩;have P6:=hd_ (P5.out.trans (hb.mono P5.out.size));clear hb P5 A2
     go_wp2_with fail
     refine cm_ (HC1.out _) ?_;rintro e w7 ⟨rfl,hb⟩;have P7:=hd_ (P6.out.trans (hb.mono P6.out.size));clear hb P6 HC1
     go_wp2_with fail
     refine cm_ (HC2.out _) ?_;rintro e w8 ⟨rfl,hb⟩;have P8:=hd_ (P7.out.trans (hb.mono P7.out.size));clear hb P7 HC2
     go_wp2_with fail
     have B9:=hd_ (B1.out.trans (P8.out.mono B1.out.size))
     go_roundw
     case rel=>exact⟨j+1,X1,Y3,oo,by omega,Hst1,rfl,rfl,rfl,by go_num,B9⟩
     case measure=>simp[intOf];omega
  ·have hlt':¬ (j:Int)<n:=by omega
   have hjn:j=n:=by omega
   subst hjn;have Hv1:Hid (vv = .tuple #[.string (dec o),.bool true]):=by
    show _=_
    rw[← Hvv.out];unfold Zcd;rw[Hd.out]
   clear Hnext Hdb
   go_wp2_with fail
   go_ret2
   exact⟨by rw[Hv1.out];rfl,B1.out⟩
theorem Znn{p n:Nat}(ho:p∈Zg2)(hn:n≤1056):∀ more,1120≤more→(Ze p more n).isSome=true:=by
 intro more hm;exact Zno (p:=p) (n:=n) (more:=more) ho hn hm
theorem Zyl{p n:Nat}(ho:p∈Zg2)(hn:n≤1056):∀ more s,64≤more→Ze p more n=some s→dec (lgN p n)=dec s.2.2:=by
 intro more s hm h;have h1:6≤more:=Nat.le_trans (by decide) hm
 have:=Zf5 (p:=p) (n:=n) (more:=more) ho hn h1 h
 rw[this]
theorem Zx3(w:World)(p n:Nat)(hp:p=2∨p∈Zg2)(hn:n≤1056)(L:Qx w):Kc Tryz.prog 232 #[.int .i64 p,.int .i64 n] w (.string (dec (lgN p n))):=by
 unfold Kc
 by_cases h2:p=2
 ·subst h2;have Hp:=hd_ (Zxh w n (by omega) L)
  rw[show ((2:Nat):Int)=2 from rfl,Zg8]
  clear L hp;generalize dec (2^n)=s at *
  go_enter Tryz.func232,Tryz.ntmps232
  go_wp2_with fail
  refine cm_ Hp.out ?_;rintro e w1 ⟨rfl,hb⟩;have B1:=hd_ hb;clear hb Hp
  go_wp2_with fail
  go_ret;exact⟨rfl,B1.out⟩
 ·have ho:=hp.resolve_left h2;have hodd:=Zeh ho;have h2':((p:Int)==2)=false:=by rw[beq_eq_false_iff_ne];omega
  have HL:=hd_ L;have Hdg:Hid (∀ (more:Nat) W,64≤more→more≤4000→Below w.heap.size w W→Kc Tryz.prog 283 #[.int .i64 p,.int .i64 n,.int .i64 more] W (Zcd p n more)):=fun more W h1 h2 hW =>
   Zmx W p n more (by omega) (by omega) (by omega) h1 h2 (HL.out.below hW)
  have Hok:Hid (∀ more:Nat,1120≤more→(Ze p more n).isSome=true):=hd_ (Znn ho hn);have Hlg:Hid (∀ (more:Nat) s,64≤more→Ze p more n=some s→dec (lgN p n)=dec s.2.2):=hd_ (Zyl ho hn);have hw1:IntKind.i64.wrap ((n:Int)+64)=((n+64:Nat):Int):=by rw[show (n:Int)+64=((n+64:Nat):Int) by omega];exact iw_ _ (by omega)
  have B0:=hd_ (Below.refl w.heap.size w);clear L hp ho h2 hodd;generalize dec (lgN p n)=vv at *
  go_enter Tryz.func232,Tryz.ntmps232
  go_wp2_with fail
  go_loopw [7] (fun a wr=>∃ (more:Nat),Hid (64≤more)∧more≤4000∧a = .int .i64 more∧Hid (Below w.heap.size w wr)) (fun a _=>4000-(intOf a).toNat)
  case atStart=>exact⟨n+64,by show _≤_;omega,by omega,rfl,B0⟩
  case round =>
   clear B0;obtain⟨more,H64,h4000,rfl,B1⟩:=hrel;have Hd:=hd_ (Hdg.out more wr H64.out h4000 B1.out);cases hd:Ze p more n with
   | some s =>
    have Hs:Hid (Zcd p n more = .tuple #[.string (dec s.2.2),.bool true]):=by show _=_;unfold Zcd;rw[hd]
    have Hv:Hid (vv=dec s.2.2):=Hlg.out more s H64.out hd;rw[Hs.out] at Hd;clear hd Hs Hlg Hok Hdg
    go_wp2_with fail
    refine cm_ Hd.out ?_;rintro e w1 ⟨rfl,hb⟩;have B2:=hd_ (B1.out.trans (hb.mono B1.out.size));clear hb Hd
    go_wp2_with fail
    go_ret;exact⟨by rw[Hv.out];rfl,B2.out⟩
   | none =>
    have Hs:Hid (Zcd p n more = .tuple #[.string ⟨#[]⟩,.bool false]):=by show _=_;unfold Zcd;rw[hd]
    rw[Hs.out] at Hd;have hlt:more<1120:=by
     refine Nat.lt_of_not_le fun h=>?_
     have:=Hok.out more h
     rw[hd] at this;cases this
    have hw2:IntKind.i64.wrap ((more:Int)*2)=((more*2:Nat):Int):=by rw[show (more:Int)*2=((more*2:Nat):Int) by omega];exact iw_ _ (by omega)
    clear hd Hs Hlg Hok Hdg
    go_wp2_with fail
    refine cm_ Hd.out ?_;rintro e w1 ⟨rfl,hb⟩;have B2:=hd_ (B1.out.trans (hb.mono B1.out.size));clear hb Hd
    go_wp2_with fail
    go_roundw
    case rel=>exact⟨more*2,by have:=H64.out;show _≤_;omega,by omega,rfl,B2⟩
    case measure=>have:=H64.out;simp[intOf];omega
end Go.Proofs.YtbielfplgbammaaGreatDoor

namespace Go.Proofs.YtbielfplgbammaaGreatDoor.LN
def sg (x:Rat):Int:=if 1<x then 1 else if x<1 then -1 else 0
theorem Zoj:sg 1=0:=by decide
theorem Zk2{x:Rat}:sg x=1↔1<x:=by
 unfold sg
 by_cases h:1<x
 ·simp[h]
 ·rw[if_neg h];split<;>simp[h]
theorem Zk3{x:Rat}:sg x = -1↔x<1:=by
 unfold sg
 by_cases h:1<x
 ·rw[if_pos h];constructor
  ·intro h2;cases h2
  ·intro h2;exact absurd h2 (by grind)
 ·rw[if_neg h];split<;>simp_all
theorem Zu0{x:Rat}:0≤sg x↔1≤x:=by
 constructor
 ·intro h;refine Rat.not_lt.1 fun h2=>?_
  rw[Zk3.2 h2] at h;omega
 ·intro h;unfold sg;split
  ·decide
  ·split
   ·rename_i h2;exact absurd h (Rat.not_le.2 h2)
   ·decide
theorem Zuz{x:Rat}:sg x≤0↔x≤1:=by
 constructor
 ·intro h;refine Rat.not_lt.1 fun h2=>?_
  rw[Zk2.2 h2] at h;omega
 ·intro h;unfold sg;split
  ·rename_i h2;exact absurd h (Rat.not_le.2 h2)
  ·split<;>decide
theorem Zr7{x:Rat}:sg x=0↔x=1:=by
 constructor
 ·intro h;exact Rat.le_antisymm (Zuz.1 (by omega)) (Zu0.1 (by omega))
 ·rintro rfl;exact Zoj
theorem sg_cases(x:Rat):sg x=1∨sg x=0∨sg x = -1:=by
 unfold sg;split
 ·exact .inl rfl
 ·split
  ·exact .inr (.inr rfl)
  ·exact .inr (.inl rfl)
theorem Zir{x y:Rat}(hx:1≤x)(hy:1≤y):1≤x*y:=by
 have h:=Rat.mul_le_mul_of_nonneg_left hy (show 0≤x by grind)
 rw[Rat.mul_one] at h;exact Rat.le_trans hx h
theorem Ziq{x y:Rat}(hx:1<x)(hy:1≤y):1<x*y:=by
 have h:=Rat.mul_le_mul_of_nonneg_left hy (show 0≤x by grind)
 rw[Rat.mul_one] at h
 grind
theorem Ziu{x y:Rat}(h0:0<x)(hx:x≤1)(hy:y≤1):x*y≤1:=by
 have h:=Rat.mul_le_mul_of_nonneg_left hy (show 0≤x by grind)
 rw[Rat.mul_one] at h
 grind
theorem Zit{x y:Rat}(h0:0<x)(hx:x<1)(hy:y≤1):x*y<1:=by
 have h:=Rat.mul_le_mul_of_nonneg_left hy (show 0≤x by grind)
 rw[Rat.mul_one] at h
 grind
theorem Ze9{x:Rat}(hx:1≤x):∀ m:Nat,1≤x^m
 | 0=>by rw[Rat.pow_zero];exact Rat.le_refl
 | m+1=>by rw[Rat.pow_succ];exact Zir (Ze9 hx m) hx
theorem Zin{x:Rat}(hx:1<x)(m:Nat)(hm:0<m):1<x^m:=by
 obtain⟨k,rfl⟩:=Nat.exists_eq_succ_of_ne_zero (by omega:m≠0)
 rw[Rat.pow_succ,Rat.mul_comm];exact Ziq hx (Ze9 (by grind) k)
theorem Zio{x:Rat}(h0:0<x)(hx:x≤1):∀ m:Nat,x^m≤1
 | 0=>by rw[Rat.pow_zero];exact Rat.le_refl
 | m+1=>by rw[Rat.pow_succ];exact Ziu (Rat.pow_pos h0) (Zio h0 hx m) hx
theorem Zp6{x:Rat}(h0:0<x)(hx:x<1)(m:Nat)(hm:0<m):x^m<1:=by
 obtain⟨k,rfl⟩:=Nat.exists_eq_succ_of_ne_zero (by omega:m≠0)
 rw[Rat.pow_succ,Rat.mul_comm];exact Zit h0 hx (Zio h0 (by grind) k)
theorem Zwu{x:Rat}(h0:0<x){m:Nat}(hm:0<m):sg (x^m)=sg x:=by
 rcases sg_cases x with h|h|h
 ·rw[h];exact Zk2.2 (Zin (Zk2.1 h) m hm)
 ·rw[h];rw[Zr7.1 h];have:(1:Rat)^m=1:=by
   clear hm
   induction m with
   | zero=>rfl
   | succ m ih=>rw[Rat.pow_succ,ih,Rat.mul_one]
  rw[this];exact Zoj
 ·rw[h];exact Zk3.2 (Zp6 h0 (Zk3.1 h) m hm)
theorem Zzq{x:Rat}(h0:0<x):sg x⁻¹ = - sg x:=by
 have h1:=Rat.inv_pos.2 h0;have e:=Rat.mul_inv_cancel x (by grind)
 rcases sg_cases x with h|h|h
 ·rw[h];have hx:=Zk2.1 h;refine Zk3.2 (Rat.not_le.1 fun h2=>?_)
  have:=Ziq hx h2
  rw[e] at this;exact Rat.lt_irrefl this
 ·rw[h,Zr7.1 h,Rat.inv_eq_of_mul_eq_one (Rat.mul_one 1),Zoj];rfl
 ·rw[h];have hx:=Zk3.1 h;refine Zk2.2 (Rat.not_le.1 fun h2=>?_)
  have:=Zit h0 hx h2
  rw[e] at this;exact Rat.lt_irrefl this
theorem Zr9{x y:Rat}(hx:0≤sg x)(hy:0≤sg y):0≤sg (x*y):=Zu0.2 (Zir (Zu0.1 hx) (Zu0.1 hy))
theorem Zr8{x y:Rat}(h0:0<x)(hx:sg x≤0)(hy:sg y≤0):sg (x*y)≤0:=Zuz.2 (Ziu h0 (Zuz.1 hx) (Zuz.1 hy))
def vp:List Int→List Int→Rat
 | p::ps,k::ks=>(p:Rat)^k*vp ps ks
 | _,_=>1
theorem Zid:∀ (ps ks:List Int),(∀ p∈ps,0<p)→0<vp ps ks
 | [],_,_=>by simp only[vp];decide
 | _::_,[],_=>by simp only[vp];decide
 | p::ps,k::ks,h=>by
  simp only[vp];exact Rat.mul_pos (Rat.zpow_pos (by have:=h p List.mem_cons_self;exact Rat.intCast_pos.2 this)) (Zid ps ks fun q hq=>h q (List.mem_cons_of_mem _ hq))
theorem Zoa:∀ (ps ks ms:List Int),(∀ p∈ps,0<p)→ks.length=ms.length→vp ps (List.zipWith (· + ·) ks ms)=vp ps ks*vp ps ms
 | [],_,_,_,_=>by simp only[vp];rw[Rat.mul_one]
 | _::_,[],[],_,_=>by simp[vp]
 | p::ps,k::ks,m::ms,h,hl=>by
  have ih:=Zoa ps ks ms (fun q hq=>h q (List.mem_cons_of_mem _ hq)) (by simpa using hl)
  have hp:=h p List.mem_cons_self;have hp0:(p:Rat)≠0:=by have:=Rat.intCast_pos.2 hp;grind
  simp only[List.zipWith_cons_cons,vp];rw[ih,Rat.zpow_add hp0]
  grind
theorem Zjd:∀ (ps ks:List Int),(∀ k∈ks,k=0)→vp ps ks=1
 | [],_,_=>rfl
 | _::_,[],_=>rfl
 | p::ps,k::ks,h=>by
  simp only[vp];rw[h k List.mem_cons_self,Zjd ps ks fun x hx=>h x (List.mem_cons_of_mem _ hx),Rat.zpow_zero,Rat.mul_one]
theorem Zze(ps ks:List Int)(h:∀ p∈ps,0<p):vp ps (ks.map fun k => -k)=(vp ps ks)⁻¹:=by
 have e:=Zoa ps ks (ks.map fun k => -k) h (by simp)
 have z:vp ps (List.zipWith (· + ·) ks (ks.map fun k => -k))=1:=by
  refine Zjd _ _ fun k hk=>?_
  rw[List.zipWith_map_right] at hk;rw[List.mem_iff_getElem] at hk;obtain⟨i,hi,rfl⟩:=hk;simp;omega
 rw[z] at e;exact(Rat.inv_eq_of_mul_eq_one e.symm).symm
theorem Zje(ps ks:List Int)(h:∀ p∈ps,0<p):∀ m:Nat,vp ps (ks.map fun k=>(m:Int)*k)=vp ps ks^m
 | 0=>by
  rw[Rat.pow_zero];refine Zjd _ _ fun k hk=>?_
  obtain⟨x,_,rfl⟩:=List.mem_map.1 hk;simp
 | m+1=>by
  have ih:=Zje ps ks h m;have e:=Zoa ps (ks.map fun k=>(m:Int)*k) ks h (by simp)
  rw[Rat.pow_succ,← ih,← e];congr 1;rw[List.zipWith_map_left];refine List.ext_getElem (by simp) fun i h1 h2=>?_
  simp;rw[Int.add_mul,Int.one_mul]
def vt:List (Int×Int)→Rat
 | []=>1
 | x::l=>(x.1:Rat)^x.2*vt l
theorem natCast_pow(a n:Nat):((a^n:Nat):Rat)=(a:Rat)^n:=by
 induction n with
 | zero=>rw[Nat.pow_zero,Rat.pow_zero];rfl
 | succ n ih=>rw[Nat.pow_succ,Rat.pow_succ,Rat.natCast_mul,ih]
theorem Zzd:∀ l:List (Int×Int),(∀ x∈l,0<x.1)→((upT l:Nat):Rat)=vt l*((upT (negT l):Nat):Rat)
 | [],_=>by simp[upT,negT,vt]
 | x::l,h=>by
  have ih:=Zzd l fun y hy=>h y (List.mem_cons_of_mem _ hy)
  have hx:=h x List.mem_cons_self;have e:negT (x::l)=(x.1,-x.2)::negT l:=rfl;rw[e];simp only[upT,vt];rw[Rat.natCast_mul,Rat.natCast_mul,ih,natCast_pow,natCast_pow];have hp:((x.1.toNat:Nat):Rat)=(x.1:Rat):=by
   rw[← Rat.intCast_natCast,Int.toNat_of_nonneg (by omega)]
  rw[hp];have hp0:(x.1:Rat)≠0:=by have:=Rat.intCast_pos.2 hx;grind
  have key:(x.1:Rat)^x.2.toNat=(x.1:Rat)^x.2*(x.1:Rat)^(-x.2).toNat:=by
   rw[← Rat.zpow_natCast,← Rat.zpow_natCast,← Rat.zpow_add hp0];congr 1;omega
  rw[key]
  grind
theorem Zrp:∀ l:List (Int×Int),(∀ x∈l,0<x.1)→0<upT l
 | [],_=>by simp[upT]
 | x::l,h=>by
  have hx:=h x List.mem_cons_self;exact Nat.mul_pos (Nat.pow_pos (by omega)) (Zrp l fun y hy=>h y (List.mem_cons_of_mem _ hy))
theorem Zoi(l:List (Int×Int))(h:∀ x∈l,0<x.1):signT l=sg (vt l):=by
 have e:=Zzd l h;have hd:(0:Rat)<((upT (negT l):Nat):Rat):=by
  have:=Zrp (negT l) (by
   intro x hx;obtain⟨y,hy,rfl⟩:=List.mem_map.1 hx;exact h y hy)
  exact Rat.natCast_pos.2 this
 have c1:upT (negT l)<upT l↔1<vt l:=by
  rw[← Rat.natCast_lt_natCast,e];constructor
  ·intro h1;refine Rat.lt_of_mul_lt_mul_right (c:=((upT (negT l):Nat):Rat)) ?_ (Rat.le_of_lt hd);rw[Rat.one_mul];exact h1
  ·intro h1;have:=Rat.mul_lt_mul_of_pos_right h1 hd
   rw[Rat.one_mul] at this;exact this
 have c2:upT l<upT (negT l)↔vt l<1:=by
  rw[← Rat.natCast_lt_natCast,e];constructor
  ·intro h1;refine Rat.lt_of_mul_lt_mul_right (c:=((upT (negT l):Nat):Rat)) ?_ (Rat.le_of_lt hd);rw[Rat.one_mul];exact h1
  ·intro h1;have:=Rat.mul_lt_mul_of_pos_right h1 hd
   rw[Rat.one_mul] at this;exact this
 unfold signT sg;simp only[c1,c2]
theorem mkRat_den'(n:Int)(d:Nat)(h:d≠0):(mkRat n d).den=d/Nat.gcd n.natAbs d:=by
 rw[← Rat.normalize_eq_mkRat h,Rat.den_normalize]
theorem Zjz{q:Rat}:0<q.num↔0<q:=by
 have h1:=@Rat.num_nonneg q;have h2:=@Rat.num_eq_zero q;constructor
 ·intro h;have:=h1.1 (by omega)
  have h3:q≠0:=fun e=>by have:=h2.2 e;omega
  grind
 ·intro h;have:=h1.2 (by grind)
  have h3:q.num≠0:=fun e=>by have:=h2.1 e;grind
  omega
theorem Zu7{q:Rat}:q.num<0↔q<0:=by
 have h1:=@Zjz (-q);rw[Rat.neg_num] at h1;constructor
 ·intro h;have:=h1.1 (by omega)
  grind
 ·intro h;have:=h1.2 (by grind)
  omega
theorem Zxv(q:Rat):q<0∨q=0∨0<q:=by grind
theorem Zor(q:Rat):q*(q.den:Rat)=(q.num:Rat):=by
 have h:mkRat q.num q.den=(q.num:Rat)/((q.den:Nat):Rat):=Rat.mkRat_eq_div _ _;rw[Rat.mkRat_self] at h;have h2:((q.den:Nat):Rat)≠0:=by have:=Rat.natCast_pos.2 q.den_pos;grind
 have h3:=Rat.div_mul_cancel (a:=(q.num:Rat)) h2;rw[← h] at h3;exact h3
def ex (D:Nat) (q:Rat):Int:=q.num*((D/q.den:Nat):Int)
theorem ex_eq{D:Nat}{q:Rat}(h:q.den ∣ D):(ex D q:Rat)=q*(D:Rat):=by
 obtain⟨m,rfl⟩:=h;unfold ex;rw[Nat.mul_div_cancel_left _ q.den_pos,Rat.intCast_mul,Rat.intCast_natCast,Rat.natCast_mul];have h1:=Zor q
 grind
theorem Qac{D:Nat}{a b:Rat}(ha:a.den ∣ D)(hb:b.den ∣ D)(hc:(a+b).den ∣ D):ex D (a+b)=ex D a+ex D b:=by
 rw[← Rat.intCast_inj,Rat.intCast_add,ex_eq ha,ex_eq hb,ex_eq hc]
 grind
theorem Qab{D:Nat}{a:Rat}:ex D (-a) = - ex D a:=by
 unfold ex;rw[Rat.neg_num,Rat.neg_den]
 grind
theorem ex_mul{D m:Nat}{a:Rat}(ha:a.den ∣ D):ex (m*D) a=(m:Int)*ex D a:=by
 have:a.den ∣ m*D:=Nat.dvd_trans ha (Nat.dvd_mul_left ..)
 rw[← Rat.intCast_inj,Rat.intCast_mul,ex_eq ha,ex_eq this,Rat.natCast_mul,Rat.intCast_natCast]
 grind
theorem ex_zero{D:Nat}(a:Rat)(h:a.num=0):ex D a=0:=by unfold ex;rw[h];simp
theorem Zn9(D:Nat):∀ (ps:List Int) (l:List Rat),vt (Ve D ps l)=vp ps (l.map (ex D))
 | [],_=>rfl
 | _::_,[]=>rfl
 | p::ps,q::l=>by
  have ih:=Zn9 D ps l;unfold Ve at ih ⊢;rw[List.zip_cons_cons,List.filterMap_cons]
  by_cases h:q.num=0
  ·simp only[h,if_true,List.map_cons,vp];rw[ih,ex_zero q h,Rat.zpow_zero,Rat.one_mul]
  ·simp only[h,if_false,List.map_cons,vp,vt];rw[ih];rfl
theorem Zxk(l:List Rat):∀ d:Nat,d ∣ l.foldl (fun d q=>Nat.lcm d q.den) d∧∀ q∈l,q.den ∣ l.foldl (fun d q=>Nat.lcm d q.den) d:=by
 induction l with
 | nil=>intro d;exact⟨Nat.dvd_refl _,by simp⟩
 | cons a l ih =>
  intro d;obtain⟨h1,h2⟩:=ih (Nat.lcm d a.den);refine⟨Nat.dvd_trans (Nat.dvd_lcm_left ..) h1,fun q hq=>?_⟩
  rcases List.mem_cons.1 hq with rfl|hq
  ·exact Nat.dvd_trans (Nat.dvd_lcm_right ..) h1
  ·exact h2 q hq
theorem tden_dvd{l:List Rat}{q:Rat}(h:q∈l):q.den ∣ Qu l:=(Zxk l 1).2 q h
theorem Zpr(l:List Rat):∀ (D d:Nat),d ∣ D→(∀ q∈l,q.den ∣ D)→l.foldl (fun d q=>Nat.lcm d q.den) d ∣ D:=by
 induction l with
 | nil=>intro D d h _;exact h
 | cons a l ih =>
  intro D d h h2;exact ih D _ (Nat.lcm_dvd h (h2 a List.mem_cons_self)) fun q hq=>h2 q (List.mem_cons_of_mem _ hq)
theorem tden_min{l:List Rat}{D:Nat}(h:∀ q∈l,q.den ∣ D):Qu l ∣ D:=Zpr l D 1 (Nat.one_dvd _) h
theorem tden_pos'(l:List Rat):0<Qu l:=by
 have:∀ (l:List Rat) (d:Nat),0<d→0<l.foldl (fun d q=>Nat.lcm d q.den) d:=by
  intro l
  induction l with
  | nil=>intro d h;exact h
  | cons a l ih=>intro d h;exact ih _ (Nat.lcm_pos h a.den_pos)
 exact this l 1 Nat.one_pos
def sz (ps:List Int) (l:List Rat):Int:=signT (Ve (Qu l) ps l)
theorem Zku{D:Nat}{ps:List Int}{l:List Rat}(hp:∀ p∈ps,0<p):∀ x∈Ve D ps l,0<x.1:=by
 intro x hx;unfold Ve at hx;obtain⟨y,hy,he⟩:=List.mem_filterMap.1 hx;have h1:=(List.of_mem_zip hy).1;split at he
 ·cases he
 ·cases he;exact hp _ h1
theorem Zkv{ps:List Int}{l:List Rat}{D:Nat}(hp:∀ p∈ps,0<p)(hD:0<D)(h:∀ q∈l,q.den ∣ D):sz ps l=sg (vp ps (l.map (ex D))):=by
 unfold sz;rw[Zoi _ (Zku hp),Zn9];obtain⟨m,rfl⟩:=tden_min h;have hm:0<m:=Nat.pos_of_mul_pos_left hD;have e:l.map (ex (Qu l*m))=(l.map (ex (Qu l))).map fun k=>(m:Int)*k:=by
  rw[List.map_map];refine List.map_congr_left fun q hq=>?_
  rw[Nat.mul_comm,ex_mul (tden_dvd hq)];rfl
 rw[e,Zje _ _ hp,Zwu (Zid _ _ hp) hm]
theorem sz_neg{ps:List Int}{l:List Rat}(hp:∀ p∈ps,0<p):sz ps (l.map fun q => -q) = - sz ps l:=by
 have h1:∀ q∈l.map (fun q:Rat => -q),q.den ∣ Qu l:=by
  intro q hq;obtain⟨x,hx,rfl⟩:=List.mem_map.1 hq;rw[Rat.neg_den];exact tden_dvd hx
 rw[Zkv hp (tden_pos' l) h1,Zkv hp (tden_pos' l) fun q hq=>tden_dvd hq,← Zzq (Zid _ _ hp),← Zze _ _ hp]
 congr 2;rw[List.map_map,List.map_map];exact List.map_congr_left fun q _=>Qab
theorem Zwo{ps:List Int}{a b c:List Rat}(hp:∀ p∈ps,0<p)(hab:a.length=b.length)(hc:c=List.zipWith (· + ·) a b):
  ∃ x y:Rat,0<x∧0<y∧sz ps a=sg x∧sz ps b=sg y∧sz ps c=sg (x*y):=by
 obtain⟨D,hD⟩:∃ D,D=Qu a*Qu b*Qu c:=⟨_,rfl⟩;have ha:∀ q∈a,q.den ∣ D:=fun q hq=>Nat.dvd_trans (tden_dvd hq) (by rw[hD];exact Nat.dvd_trans (Nat.dvd_mul_right _ _) (Nat.dvd_mul_right _ _))
 have hb:∀ q∈b,q.den ∣ D:=fun q hq=>Nat.dvd_trans (tden_dvd hq) (by rw[hD];exact Nat.dvd_trans (Nat.dvd_mul_left _ _) (Nat.dvd_mul_right _ _))
 have hcc:∀ q∈c,q.den ∣ D:=fun q hq=>Nat.dvd_trans (tden_dvd hq) (by rw[hD];exact Nat.dvd_mul_left _ _)
 have h0:0<D:=by rw[hD];exact Nat.mul_pos (Nat.mul_pos (tden_pos' _) (tden_pos' _)) (tden_pos' _)
 refine⟨vp ps (a.map (ex D)),vp ps (b.map (ex D)),Zid _ _ hp,Zid _ _ hp,Zkv hp h0 ha,Zkv hp h0 hb,?_⟩;rw[Zkv hp h0 hcc,← Zoa _ _ _ hp (by simp[hab])]
 congr 2;refine List.ext_getElem (by rw[hc];simp) fun i h1 h2=>?_
 have i1:i<a.length:=by simp at h2;omega
 have i2:i<b.length:=by omega
 have i3:i<c.length:=by simpa using h1
 have e:c[i]=a[i]+b[i]:=by simp only[hc,List.getElem_zipWith]
 simp only[List.getElem_map,List.getElem_zipWith];have h3:=hcc c[i] (List.getElem_mem i3);rw[e] at h3 ⊢;exact Qac (ha _ (List.getElem_mem i1)) (hb _ (List.getElem_mem i2)) h3
theorem sz_add_ge{ps:List Int}{a b c:List Rat}(hp:∀ p∈ps,0<p)(hab:a.length=b.length)(hc:c=List.zipWith (· + ·) a b)(h1:0≤sz ps a)(h2:0≤sz ps b):0≤sz ps c:=by
 obtain⟨x,y,_,_,e1,e2,e3⟩:=Zwo hp hab hc;rw[e1] at h1;rw[e2] at h2;rw[e3];exact Zr9 h1 h2
theorem sz_add_le{ps:List Int}{a b c:List Rat}(hp:∀ p∈ps,0<p)(hab:a.length=b.length)(hc:c=List.zipWith (· + ·) a b)(h1:sz ps a≤0)(h2:sz ps b≤0):sz ps c≤0:=by
 obtain⟨x,y,hx,_,e1,e2,e3⟩:=Zwo hp hab hc;rw[e1] at h1;rw[e2] at h2;rw[e3];exact Zr8 hx h1 h2
theorem sz_zero{ps:List Int}{l:List Rat}(hp:∀ p∈ps,0<p)(h:∀ q∈l,q=0):sz ps l=0:=by
 rw[Zkv hp (tden_pos' l) fun q hq=>tden_dvd hq,Zjd,Zoj]
 intro k hk;obtain⟨q,hq,rfl⟩:=List.mem_map.1 hk;exact ex_zero q (by rw[h q hq];rfl)
theorem Zig{ps:List Int}{l:List Rat}(hp:∀ p∈ps,0<p)(k:Rat)(hk:0<k):sz ps (l.map fun q=>k*q)=sz ps l:=by
 have hn:0<k.num:=Zjz.2 hk;obtain⟨n,hn'⟩:∃ n:Nat,k.num=n:=⟨k.num.toNat,by omega⟩
 have hn0:0<n:=by omega
 have h1:∀ q∈l,q.den ∣ Qu l:=fun q hq=>tden_dvd hq
 have hm:∀ q∈l,(k*q).den ∣ k.den*Qu l:=by
  intro q hq;refine Nat.dvd_trans ?_ (Nat.mul_dvd_mul (Nat.dvd_refl _) (h1 q hq));rw[Rat.mul_def',mkRat_den' _ _ (Nat.mul_ne_zero k.den_nz q.den_nz)];exact Nat.div_dvd_of_dvd (Nat.gcd_dvd_right _ _)
 have h2:∀ q∈l.map (fun q=>k*q),q.den ∣ k.den*Qu l:=by
  intro q hq;obtain⟨x,hx,rfl⟩:=List.mem_map.1 hq;exact hm x hx
 rw[Zkv hp (Nat.mul_pos k.den_pos (tden_pos' l)) h2,Zkv hp (tden_pos' l) h1];have e:(l.map fun q=>k*q).map (ex (k.den*Qu l))=(l.map (ex (Qu l))).map fun z=>(n:Int)*z:=by
  rw[List.map_map,List.map_map];refine List.map_congr_left fun q hq=>?_
  show ex _ (k*q)=(n:Int)*ex (Qu l) q
  rw[← Rat.intCast_inj,ex_eq (hm q hq),Rat.intCast_mul,ex_eq (h1 q hq),Rat.natCast_mul,← hn'];have h3:=Zor k;rw[← h3]
  grind
 rw[e,Zje _ _ hp,Zwu (Zid _ _ hp) hn0]
theorem sz_mul{ps:List Int}{l:List Rat}(hp:∀ p∈ps,0<p)(k:Rat):sz ps (l.map fun q=>k*q)=k.num.sign*sz ps l:=by
 rcases Zxv k with h|h|h
 ·have e:(l.map fun q=>k*q)=(l.map fun q=>(-k)*q).map fun q => -q:=by
   rw[List.map_map];refine List.map_congr_left fun q _=>?_
   show k*q = -(-k*q)
   grind
  rw[e,sz_neg hp,Zig hp _ (by grind),Int.sign_eq_neg_one_of_neg (Zu7.2 h)]
  omega
 ·rw[h,sz_zero hp]
  ·simp
  ·intro q hq;obtain⟨x,_,rfl⟩:=List.mem_map.1 hq
   grind
 ·rw[Zig hp k h,Int.sign_eq_one_of_pos (Zjz.2 h)];omega
end Go.Proofs.YtbielfplgbammaaGreatDoor.LN
