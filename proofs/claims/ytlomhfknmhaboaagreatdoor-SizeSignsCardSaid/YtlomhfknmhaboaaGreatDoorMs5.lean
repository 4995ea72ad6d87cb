/- For any two sizes with small coefficients, Sign, Compare and Abs are those of the real numbers (by products of primes, if the exponents are at most 500). No condition: the statement holds for every input. -/
import Derived.StillTail
import Derived.Lib.QuietBelow
import Derived.BigQuiet
import Derived.Test.YtlomhfknmhaboaaGreatDoorCards
import Derived.Test.YtlomhfknmhaboaaGreatDoorTie
import Derived.SevenTiedAt
import Derived.Test.YtlomhfknmhaboaaGreatDoorMs4
namespace Go.Proofs.YtlomhfknmhaboaaGreatDoor.RY
open Go Go.Sort Go.Proofs.YtlomhfknmhaboaaGreatDoor
section
variable {P:Program} {ops:Array Oper} {md:Region.Mode} {C:World→Prop}
def noEnter:Op→Bool
 | .move _ | .assign _ | .load _ _ | .fieldAddr _ _ _ | .indexAddr _ _ _ | .extract _ _ | .binOp _ _ _ _ _ | .convert _ _ _=>true
 | .call c=>match c.callee with
  | .builtin .min | .builtin .max | .builtin .len=>true
  | _=>false
 | _=>false
theorem value_no_enter {s:Sem Value} {w w':World} {f:FuncId} {args:Array Value} (h:(do pure (Next.value (← s)):Sem Next).run P w = .ok (.enter f args) w'):False:=by
 simp only [Sem.run_bind,Sem.run_pure] at h
 cases hs:s.run P w with
 | ok v w1=>rw [hs] at h; simp [Result.andThen] at h
 | halt x w1=>rw [hs] at h; simp [Result.andThen] at h
theorem no_enter {o:Oper} {a:Act} {w w':World} {f:FuncId} {args:Array Value} (ho:noEnter o.op=true) (h:(execOp a.eval o).run P w = .ok (.enter f args) w'):False:=by
 have cases5:(∃ x,o.op = .move x)∨(∃ x,o.op = .assign x)∨(∃ t x,o.op = .load t x)∨(∃ t x k,o.op = .fieldAddr t x k)∨(∃ t x y,o.op = .indexAddr t x y)∨(∃ x k,o.op = .extract x k)∨(∃ b t x y r,o.op = .binOp b t x y r)∨(∃ s d x,o.op = .convert s d x)∨(∃ c,o.op = .call c):=by
  cases hop:o.op <;> rw [hop] at ho <;> first | (simp [noEnter] at ho; done) | simp
 rcases cases5 with ⟨x,hop⟩ | ⟨x,hop⟩ | ⟨t,x,hop⟩ | ⟨t,x,k,hop⟩ | ⟨t,x,y,hop⟩ | ⟨x,k,hop⟩ | ⟨b,t,x,y,r,hop⟩ | ⟨s,d,x,hop⟩ | ⟨c,hop⟩
 ·rw [BigFrame.run_move x hop] at h; cases h
 ·rw [BigFrame.run_assign x hop] at h; cases h
 ·unfold execOp at h; rw [hop] at h; exact value_no_enter h
 ·unfold execOp at h; rw [hop] at h; exact value_no_enter h
 ·unfold execOp at h; rw [hop] at h; exact value_no_enter h
 ·unfold execOp at h; rw [hop] at h; exact value_no_enter h
 ·unfold execOp at h; rw [hop] at h; exact value_no_enter h
 ·unfold execOp at h; rw [hop] at h; exact value_no_enter h
 ·rw [hop] at ho
  unfold execOp at h
  rw [hop] at h
  unfold noEnter at ho
  simp only at ho h
  unfold resolve at h
  cases hc:c.callee with
  | value x=>rw [hc] at ho; cases ho
  | invoke x y=>rw [hc] at ho; cases ho
  | builtin b =>
   rw [hc] at ho h
   simp only [Sem.run_bind,Sem.run_pure,Result.andThen_ok,invoke] at h
   cases b <;> first | (simp at ho; done) | (unfold builtin at h; exact value_no_enter h)
theorem still_of_quiet {o:Oper} {a:Act} {w:World} {v:Value} (ho:noEnter o.op=true) (h:o.quietAt P a C w v) {K:Act→World→Prop} (hk:K (a.put o.dst v) w):o.wp P a w K (fun _ _ _=>False):=by
 unfold Oper.quietAt at h
 unfold Oper.wp
 have hne:=@no_enter P o a w
 generalize (execOp a.eval o).run P w=r at *
 cases r with
 | ok n w' =>
  cases n <;> simp only [Oper.quietUpon] at h <;> simp only [Oper.upon]
  case value u=>obtain ⟨rfl,rfl⟩:=h; exact hk
  case skip=>obtain ⟨rfl,rfl⟩:=h; exact hk
  case enter f args=>exact (hne ho rfl).elim
 | halt x w'=>simp only [Oper.quietUpon] at h
def safeW (C:World→Prop) (s:Nat) (listed:Array Bool) (w:World):Prop:=listed.getD s false=true∨C w
def anyR (P:Program) (md:Region.Mode) (ops:Array Oper) (C:World→Prop) (s:Nat) (Q:Act→World→Prop):Nat→Array Bool→Act→World→Prop
 | 0,listed,a,w=>Region.ready md ops listed=[]∧Q a w
 | f + 1,listed,a,w=>Region.ready md ops listed≠[]∧∀ i∈Region.ready md ops listed,
   wpOp P ops (fun _ _ _=>False) i (fun a' w'=>safeW C s (listed.setIfInBounds i true) w'∧anyR P md ops C s Q f (listed.setIfInBounds i true) a' w') a w
theorem wp_weaken {o:Oper} {a:Act} {w:World} {K:Act→World→Prop} {Q':Exit→Act→World→Prop} (h:o.wp P a w K (fun _ _ _=>False)):o.wp P a w K Q':=by
 unfold Oper.wp at *
 generalize (execOp a.eval o).run P w=r at *
 cases r with
 | ok n w' =>
  cases n <;> simp only [Oper.upon] at h ⊢ <;>
   first
    | exact h
    | exact Calls.mono h (fun e w'' he=>by cases e <;> first | exact he | exact he.elim | (obtain ⟨_,_,hf⟩:=he; exact hf.elim))
    | exact Rows.mono h (fun _ _ he=>he)
 | halt x w'=>cases x <;> simp only [Oper.upon] at h <;> exact h.elim
theorem wpOp_weaken {i:Nat} {a:Act} {w:World} {K K':Act→World→Prop} {Q':Exit→Act→World→Prop} (hk:∀ a w,K a w→K' a w) (h:wpOp P ops (fun _ _ _=>False) i K a w):wpOp P ops Q' i K' a w:=by
 unfold wpOp at *
 split
 ·rename_i ho; simp only [ho] at h; exact hk _ _ h
 ·rename_i o ho
  simp only [ho] at h
  split
  ·rename_i hw
   simp only [hw,if_true] at h
   rcases h with h | ⟨_,_,_,hf⟩
   ·exact .inl (Oper.wp_mono hk (wp_weaken h))
   ·exact hf.elim
  ·rename_i hw; simp only [hw] at h; exact hk _ _ h
theorem wpOp_strong {i:Nat} {a:Act} {w:World} {K:Act→World→Prop} {Q':Exit→Act→World→Prop} (hq:∀ e a w,Q' e a w→e = .normal) (h:wpOp P ops Q' i K a w):wpOp P ops (fun _ _ _=>False) i K a w:=by
 have hout:¬ LetsOut Q':=fun ⟨a,w,h⟩=>by have:=hq _ _ _ h; cases this
 unfold wpOp at *
 split
 ·rename_i ho; simp only [ho] at h; exact h
 ·rename_i o ho
  simp only [ho] at h
  split
  ·rename_i hw
   simp only [hw,if_true] at h
   rcases h with h | ⟨_,h⟩
   ·left
    unfold Oper.wp at *
    generalize (execOp a.eval o).run P w=r at *
    cases r with
    | ok n w' =>
     cases n <;> simp only [Oper.upon] at h ⊢ <;>
      first
       | exact h
       | exact Calls.mono h (fun e w'' he=>by cases e <;> first | exact he | (have:=hq _ _ _ he; cases this) | exact absurd he hout)
       | exact Rows.mono h (fun _ _ he=>he)
    | halt x w'=>cases x <;> simp only [Oper.upon] at h <;> first | exact h.elim | (have:=hq _ _ _ h; cases this)
   ·exact absurd h hout
  ·rename_i hw; simp only [hw] at h; exact h
theorem anyR_any {s:Nat} {Q:Act→World→Prop} {Q':Exit→Act→World→Prop} (hQ:∀ a w,Q a w→Q' .normal a w) :
  ∀ (f:Nat) (listed:Array Bool) (a:Act) (w:World),anyR P md ops C s Q f listed a w→wpAny P md ops Q' f listed a w
 | 0,_,_,_,h=>⟨h.1,hQ _ _ h.2⟩
 | f + 1,_,_,_,h=>⟨fun h0=>absurd h0 h.1,fun i hi=>wpOp_weaken (fun a' w' h'=>anyR_any hQ f _ a' w' h'.2) (h.2 i hi)⟩
structure RInv (md:Region.Mode) (ops:Array Oper) (listed:Array Bool):Prop where
 size:listed.size=ops.size
 closed:∀ j oj,ops[j]?=some oj→listed.getD j false=true→∀ e∈oj.after,Region.binds md e=true→listed.getD e.on false=true
theorem RInv.set {i:Nat} {listed:Array Bool} (inv:RInv md ops listed) (hi:i∈Region.ready md ops listed):RInv md ops (listed.setIfInBounds i true):=by
 obtain ⟨_,oi,hoi,hall⟩:=mem_ready.1 hi
 refine ⟨by simp [inv.size],fun j oj hj hl e he hb=>?_⟩
 by_cases hij:i=j
 ·subst hij
  have:oj=oi:=Option.some.inj (hj.symm.trans hoi)
  subst this
  exact getD_set_true (hall e he hb)
 ·rw [getD_set_ne false hij] at hl
  exact getD_set_true (inv.closed j oj hj hl e he hb)
def reachB (md:Region.Mode) (ops:Array Oper):Nat→Nat→Nat→Bool
 | 0,_,_=>false
 | f + 1,s,i=>match ops[s]? with
  | some o=>o.after.any fun e=>Region.binds md e && (e.on == i || reachB md ops f e.on i)
  | none=>false
theorem reach_listed {listed:Array Bool} (inv:RInv md ops listed):∀ (f s i:Nat),reachB md ops f s i=true→listed.getD s false=true→listed.getD i false=true
 | 0,_,_,h,_=>by cases h
 | f + 1,s,i,h,hs=>by
  unfold reachB at h
  split at h
  ·rename_i o ho
   obtain ⟨e,he,hb⟩:=Array.any_eq_true'.1 h
   simp only [Bool.and_eq_true,Bool.or_eq_true,beq_iff_eq] at hb
   have hl:=inv.closed s o ho hs e he hb.1
   rcases hb.2 with h2 | h2
   ·rw [← h2]; exact hl
   ·exact reach_listed inv f e.on i h2 hl
  ·cases h
def ReadsIn (P:Program) (ops:Array Oper) (md:Region.Mode) (C:World→Prop) (s i:Nat) (o:Oper) (v:Value) (a:Act):Prop :=
 (reachB md ops 4 s i=true∧YieldsIn P ops C o v a)∨YieldsIn P ops (fun _=>True) o v a
theorem ReadsIn.of_same {s i:Nat} {o:Oper} {v:Value} {a a':Act} (hy:ReadsIn P ops md C s i o v a) (he:execOp a'.eval o=execOp a.eval o)
  (hw:Region.wanted o (yielded ops a'.tmps)=Region.wanted o (yielded ops a.tmps)):ReadsIn P ops md C s i o v a' :=
 hy.imp (fun ⟨h1,h2⟩=>⟨h1,h2.of_same he hw⟩) (fun h=>h.of_same he hw)
theorem reads_op {s i:Nat} {o:Oper} {v:Value} {a:Act} {w:World} {listed:Array Bool} (hi:ops[i]?=some o) (hne:noEnter o.op=true) (inv:RInv md ops listed) (hr:i∈Region.ready md ops listed) (hs:safeW C s listed w)
  (hy:ReadsIn P ops md C s i o v a) {K:Act→World→Prop} (hk:K (a.put o.dst v) w):wpOp P ops (fun _ _ _=>False) i K a w:=by
 have key:∀ D:World→Prop,D w→YieldsIn P ops D o v a→wpOp P ops (fun _ _ _=>False) i K a w:=fun D hD h=>by
  unfold wpOp
  simp only [hi]
  rcases h with ⟨h1,h2⟩ | ⟨h1,rfl⟩
  ·simp only [h1,if_true]
   exact .inl (still_of_quiet hne (h2 w hD) hk)
  ·simp only [h1,Bool.false_eq_true,if_false]
   exact hk
 rcases hy with ⟨hw,h⟩ | h
 ·refine key C ?_ h
  rcases hs with hs | hs
  ·have:=reach_listed inv 4 s i hw hs
   rw [getD_both (mem_ready.1 hr).1] at this
   cases this
  ·exact hs
 ·exact key _ trivial h
theorem wpOp_put {j:Nat} {oi oj:Oper} {v:Value} (hj:ops[j]?=some oj) (hap:oi.apart ops oj=true)
  (hsi:∀ cs b,oi.op ≠ .select cs b) (hsj:∀ cs b,oj.op ≠ .select cs b) {s i:Nat} {K:Act→World→Prop} {a:Act} {w:World}
  (hy:ReadsIn P ops md C s i oi v a) (h:wpOp P ops (fun _ _ _=>False) j K (a.put oi.dst v) w) :
  wpOp P ops (fun _ _ _=>False) j (fun a' w'=>ReadsIn P ops md C s i oi v a'∧K (a'.put oi.dst v) w') a w:=by
 obtain ⟨h1,h2,h3⟩:=Oper.apart_spec hap
 have keep:∀ (a:Act),ReadsIn P ops md C s i oi v a→∀ u,ReadsIn P ops md C s i oi v (a.put oj.dst u):=fun a hy u =>
  hy.of_same (execOp_put oi hsi a oj.dst u h3) (wanted_put oi a oj.dst u h3)
 have keepd:∀ d,ReadsIn P ops md C s i oi v ({ a with defers:=d :: a.defers }:Act):=fun d=>hy.of_same rfl rfl
 unfold wpOp at *
 simp only [hj] at *
 rw [wanted_put oj a oi.dst v h1] at h
 split
 ·rename_i hw
  simp only [hw,if_true] at h
  left
  rcases h with h | ⟨_,_,_,hf⟩
  ·unfold Oper.wp at *
   rw [execOp_put oj hsj a oi.dst v h1] at h
   generalize (execOp a.eval oj).run P w=r at *
   cases r with
   | ok n w' =>
    cases n <;> simp only [Oper.upon] at h ⊢
    case value u=>exact ⟨keep a hy u,by rw [← Act.put_comm a v u h2]; exact h⟩
    case skip=>exact ⟨keep a hy undef,by rw [← Act.put_comm a v undef h2]; exact h⟩
    case defer d =>
     refine ⟨keep _ (keepd d) undef,?_⟩
     rw [Act.put_defers] at h
     rw [← Act.put_comm _ v undef h2]
     exact h
    case enter f args =>
     exact Calls.mono h (fun e w'' he=>by
      cases e
      case returned u=>exact ⟨keep a hy u,by rw [← Act.put_comm a v u h2]; exact he⟩
      case panicked c=>exact he
      case outgrown=>obtain ⟨_,_,hf⟩:=he; exact hf.elim)
    case row row args=>exact Rows.mono h (fun u w'' he=>⟨keep a hy u,by rw [← Act.put_comm a v u h2]; exact he⟩)
    all_goals exact h
   | halt x w'=>cases x <;> simp only [Oper.upon] at h <;> exact h.elim
  ·exact hf.elim
 ·rename_i hw
  simp only [hw] at h
  exact ⟨keep a hy _,by rw [← Act.put_comm a v undef h2]; exact h⟩
theorem anyR_first {s i:Nat} {oi:Oper} {v:Value} {Q:Act→World→Prop} (hi:ops[i]?=some oi) (his:i≠s) (hne:noEnter oi.op=true) (hsel:∀ (j:Nat) (o:Oper) cs b,ops[j]?=some o→o.op ≠ .select cs b) :
  ∀ (f:Nat) (listed:Array Bool) (a:Act) (w:World),RInv md ops listed →
   (∀ j oj,ops[j]?=some oj→j≠i→listed.getD j true=false→(∀ e∈oj.after,Region.binds md e=true→e.on≠i)→oi.apart ops oj=true) →
   i∈Region.ready md ops listed→ReadsIn P ops md C s i oi v a→safeW C s listed w →
   anyR P md ops C s Q f (listed.setIfInBounds i true) (a.put oi.dst v) w→anyR P md ops C s Q (f + 1) listed a w:=by
 intro f
 induction f with
 | zero =>
  intro listed a w inv _ hr hy hs H
  refine ⟨fun h=>(by rw [h] at hr; cases hr),fun j hj=>?_⟩
  by_cases hji:j=i
  ·subst hji
   exact reads_op hi hne inv hr hs hy ⟨hs.imp (fun h=>getD_set_true h) id,H⟩
  ·have:=ready_mono hj hji
   rw [H.1] at this
   cases this
 | succ f ih =>
  intro listed a w inv hfree hr hy hs H
  have hun:=(mem_ready.1 hr).1
  refine ⟨fun h=>(by rw [h] at hr; cases hr),fun j hj=>?_⟩
  by_cases hji:j=i
  ·subst hji
   exact reads_op hi hne inv hr hs hy ⟨hs.imp (fun h=>getD_set_true h) id,H⟩
  ·have h1:=H.2 j (ready_mono hj hji)
   obtain ⟨hjun,oj,hoj,hall⟩:=mem_ready.1 hj
   have hnot:∀ e∈oj.after,Region.binds md e=true→e.on≠i:=fun e he hb heq=>by
    have h1:=hall e he hb
    rw [heq,getD_both hun] at h1
    cases h1
   have h2:=wpOp_put hoj (hfree j oj hoj hji hjun hnot) (fun cs b=>hsel i oi cs b hi) (fun cs b=>hsel j oj cs b hoj) hy h1
   have hfree':∀ k ok,ops[k]?=some ok→k≠i→(listed.setIfInBounds j true).getD k true=false →
     (∀ e∈ok.after,Region.binds md e=true→e.on≠i)→oi.apart ops ok=true:=fun k ok hk hki hun hno=>by
    refine hfree k ok hk hki ?_ hno
    by_cases hjk:j=k
    ·subst hjk; exact hjun
    ·rw [getD_set_ne true hjk] at hun; exact hun
   have hr':=ready_mono hr (Ne.symm hji)
   refine wpOp_mono (fun a' w' h3=>?_) h2
   obtain ⟨hy',hs',H'⟩:=h3
   have hs2:safeW C s (listed.setIfInBounds j true) w':=by
    rcases hs' with h | h
    ·rw [Array.setIfInBounds_comm _ _ (Ne.symm hji),getD_set_ne false his] at h
     exact .inl h
    ·exact .inr h
   refine ⟨hs2,ih (listed.setIfInBounds j true) a' w' (inv.set hj) hfree' hr' hy' hs2 ?_⟩
   rw [Array.setIfInBounds_comm _ _ hji]
   exact H'
def ordB (md:Region.Mode) (ops:Array Oper) (s:Nat):List (Nat×Nat)→Array Bool→Bool
 | [],listed=>(Region.ready md ops listed).isEmpty
 | (k,i) :: l,listed =>
  (if k=0 then decide (Region.ready md ops listed=[i])
  else (Region.ready md ops listed).contains i && Region.free md ops listed i && (match ops[i]? with | some o=>noEnter o.op | none=>false) && decide (i≠s) && (k == 2 || reachB md ops 4 s i)) &&
  ordB md ops s l (listed.setIfInBounds i true)
def walkR (P:Program) (ops:Array Oper) (C:World→Prop) (s:Nat) (Q:Act→World→Prop):List (Nat×Nat)→Bool→Act→World→Prop
 | [],_,a,w=>Q a w
 | (k,i) :: l,b,a,w =>
  if k=0 then wpList P ops (fun e a' w'=>e = .normal∧((b || i == s)=true∨C w')∧walkR P ops C s Q l (b || i == s) a' w') (ops[i]?).toList a w
  else if k=2 then wpQuiet P ops (fun _=>True) (fun a'=>walkR P ops C s Q l b a' w) (ops[i]?).toList a
  else wpQuiet P ops C (fun a'=>walkR P ops C s Q l b a' w) (ops[i]?).toList a
theorem qOp_of_list {i:Nat} {o:Oper} {a:Act} {D:World→Prop} {K:Act→Prop} (hi:ops[i]?=some o) (h:wpQuiet P ops D K (ops[i]?).toList a):qOp P ops D i K a:=by
 rw [hi] at h
 unfold qOp
 simp only [hi]
 exact h
theorem anyR_walk {s:Nat} {Q:Act→World→Prop} (hsel:Region.noSelect ops=true) :
  ∀ (l:List (Nat×Nat)) (listed:Array Bool) (a:Act) (w:World),RInv md ops listed→safeW C s listed w→ordB md ops s l listed=true →
   walkR P ops C s Q l (listed.getD s false) a w→anyR P md ops C s Q l.length listed a w
 | [],listed,a,w,_,_,hB,h=>⟨by simpa [ordB] using hB,h⟩
 | (k,i) :: l,listed,a,w,inv,hs,hB,h=>by
  simp only [ordB,Bool.and_eq_true] at hB
  obtain ⟨hB1,hB2⟩:=hB
  by_cases hk:k=0
  ·subst hk
   simp only [if_true,decide_eq_true_eq] at hB1
   have hr:i∈Region.ready md ops listed:=by rw [hB1]; exact List.mem_singleton.2 rfl
   have hgs:(listed.setIfInBounds i true).getD s false=(listed.getD s false || i == s):=by
    by_cases his:i=s
    ·subst his
     obtain ⟨hun,o,ho,_⟩:=mem_ready.1 hr
     have hlt:i < listed.size:=by rw [inv.size]; exact (Array.getElem?_eq_some_iff.1 ho).1
     simp [hlt]
    ·rw [getD_set_ne false his]
     simp [his]
   refine ⟨by rw [hB1]; simp,fun j hj=>?_⟩
   rw [hB1] at hj
   obtain rfl:=List.mem_singleton.1 hj
   obtain ⟨hun,o,ho,_⟩:=mem_ready.1 hr
   simp only [walkR,if_true,ho,Option.toList] at h
   have h2:wpOp P ops (fun e a' w'=>e = .normal∧((listed.getD s false || j == s)=true∨C w')∧walkR P ops C s Q l (listed.getD s false || j == s) a' w') j (fun a' w'=>((listed.getD s false || j == s)=true∨C w')∧walkR P ops C s Q l (listed.getD s false || j == s) a' w') a w:=by
    unfold wpOp
    simp only [ho]
    simp only [wpList,true_and] at h
    exact h
   have h3:=wpOp_strong (fun e a' w' hq=>hq.1) h2
   refine wpOp_mono (fun a' w' h4=>?_) h3
   have hs2:safeW C s (listed.setIfInBounds j true) w':=by unfold safeW; rw [hgs]; exact h4.1
   exact ⟨hs2,anyR_walk hsel l _ a' w' (inv.set hr) hs2 hB2 (by rw [hgs]; exact h4.2)⟩
  ·rw [if_neg hk] at hB1
   simp only [Bool.and_eq_true,decide_eq_true_eq,Bool.or_eq_true,beq_iff_eq] at hB1
   obtain ⟨⟨⟨⟨hr,hf⟩,hne⟩,his⟩,hw⟩:=hB1
   have hr':i∈Region.ready md ops listed:=by simpa using hr
   obtain ⟨_,o,ho,_⟩:=mem_ready.1 hr'
   have hne':noEnter o.op=true:=by rw [ho] at hne; exact hne
   have hgs:(listed.setIfInBounds i true).getD s false=listed.getD s false:=getD_set_ne false his
   have hs2:safeW C s (listed.setIfInBounds i true) w:=by unfold safeW; rw [hgs]; exact hs
   simp only [walkR,if_neg hk] at h
   have hread:∃ v,ReadsIn P ops md C s i o v a∧walkR P ops C s Q l (listed.getD s false) (a.put o.dst v) w:=by
    by_cases h2:k=2
    ·rw [if_pos h2] at h
     obtain ⟨v,hy,hK⟩:=yieldsIn_of_qOp ho (qOp_of_list ho h)
     exact ⟨v,.inr hy,hK⟩
    ·rw [if_neg h2] at h
     obtain ⟨v,hy,hK⟩:=yieldsIn_of_qOp ho (qOp_of_list ho h)
     exact ⟨v,.inl ⟨hw.resolve_left h2,hy⟩,hK⟩
   obtain ⟨v,hy,hK⟩:=hread
   exact anyR_first ho his hne' (Region.noSelect_spec hsel) l.length listed a w inv (Region.free_spec ho hf) hr' hy hs
    (anyR_walk hsel l _ _ w (inv.set hr') hs2 hB2 (by rw [hgs]; exact hK))
theorem pick_one:∀ (l:List Oper) (i:Nat),(l.toArray[i]?).toList=(l.drop i).take 1
 | [],i=>by simp
 | o :: l,0=>by simp
 | o :: l,i + 1=>by
  have:=pick_one l i
  simpa using this
theorem walkR_read {s i:Nat} {Q:Act→World→Prop} {l:List (Nat×Nat)} {b:Bool} {a:Act} {w:World} {lo:List Oper} (h:wpQuiet P lo.toArray C (fun a'=>walkR P lo.toArray C s Q l b a' w) ((lo.drop i).take 1) a):walkR P lo.toArray C s Q ((1,i) :: l) b a w:=by
 simp only [walkR,pick_one]
 exact h
theorem walkR_any {s i:Nat} {Q:Act→World→Prop} {l:List (Nat×Nat)} {b:Bool} {a:Act} {w:World} {lo:List Oper} (h:wpQuiet P lo.toArray (fun _=>True) (fun a'=>walkR P lo.toArray C s Q l b a' w) ((lo.drop i).take 1) a):walkR P lo.toArray C s Q ((2,i) :: l) b a w:=by
 simp only [walkR,pick_one]
 exact h
theorem walkR_move {s i:Nat} {Q:Act→World→Prop} {l:List (Nat×Nat)} {b:Bool} {a:Act} {w:World} {lo:List Oper}
  (h:wpList P lo.toArray (fun e a' w'=>e = .normal∧((b || i == s)=true∨C w')∧walkR P lo.toArray C s Q l (b || i == s) a' w') ((lo.drop i).take 1) a w):walkR P lo.toArray C s Q ((0,i) :: l) b a w:=by
 simp only [walkR,pick_one]
 exact h
theorem wp_region_readers {id:Nat} {Q:Exit→Act→World→Prop} {a:Act} {w:World} {l:List Oper} (s:Nat) (ord:List (Nat×Nat)) (C:World→Prop) (hm:P.follows .mixedOrders=true)
  (hB:(Region.noSelect l.toArray && decide (ord.length=l.length) && ordB .any l.toArray s ord (Array.replicate l.length false))=true)
  (hC:C { w with drawn:=w.drawn + 1 }) (h:walkR P l.toArray C s (fun a' w'=>Q .normal a' w') ord false a { w with drawn:=w.drawn + 1 }):(Code.region id l.toArray true).wp P Q a w:=by
 simp only [Bool.and_eq_true,decide_eq_true_eq] at hB
 obtain ⟨⟨hsel,hlen⟩,hord⟩:=hB
 refine wp_region_any hm ?_
 have inv0:RInv .any l.toArray (Array.replicate l.length false):=⟨by simp,fun j oj _ hl=>(by rw [getD_replicate_false] at hl; cases hl)⟩
 have H:=anyR_walk (md := .any) hsel ord _ a _ inv0 (.inr hC) hord (by rw [getD_replicate_false]; exact h)
 have:=anyR_any (Q':=Q) (fun a w h=>h) _ _ _ _ H
 rw [hlen] at this
 simpa using this
end
section
variable {P:Program} {ops:Array Oper} {md:Region.Mode} {C:World→Prop}
inductive RTree where
 | nil:RTree
 | rd:Nat→Nat→RTree→RTree
 | mv:Nat→RTree→RTree
 | two:Nat→Nat→RTree→RTree→RTree
def RTree.len:RTree→Nat
 | .nil=>0
 | .rd _ _ t=>t.len + 1
 | .mv _ t=>t.len + 1
 | .two _ _ t _=>t.len + 1
def ordT (md:Region.Mode) (ops:Array Oper) (s:Nat):RTree→Array Bool→Bool
 | .nil,listed=>(Region.ready md ops listed).isEmpty
 | .rd k i t,listed =>
  ((Region.ready md ops listed).contains i && Region.free md ops listed i && (match ops[i]? with | some o=>noEnter o.op | none=>false) && decide (i≠s) && (k == 2 || reachB md ops 4 s i)) &&
  ordT md ops s t (listed.setIfInBounds i true)
 | .mv i t,listed=>decide (Region.ready md ops listed=[i]) && ordT md ops s t (listed.setIfInBounds i true)
 | .two i j t u,listed=>(decide (Region.ready md ops listed=[i,j]) && decide (t.len=u.len)) && (ordT md ops s t (listed.setIfInBounds i true) && ordT md ops s u (listed.setIfInBounds j true))
def walkT (P:Program) (ops:Array Oper) (C:World→Prop) (s:Nat) (Q:Act→World→Prop):RTree→Bool→Act→World→Prop
 | .nil,_,a,w=>Q a w
 | .rd k i t,b,a,w=>if k=2 then wpQuiet P ops (fun _=>True) (fun a'=>walkT P ops C s Q t b a' w) (ops[i]?).toList a else wpQuiet P ops C (fun a'=>walkT P ops C s Q t b a' w) (ops[i]?).toList a
 | .mv i t,b,a,w=>wpList P ops (fun e a' w'=>e = .normal∧((b || i == s)=true∨C w')∧walkT P ops C s Q t (b || i == s) a' w') (ops[i]?).toList a w
 | .two i j t u,b,a,w =>
  wpList P ops (fun e a' w'=>e = .normal∧((b || i == s)=true∨C w')∧walkT P ops C s Q t (b || i == s) a' w') (ops[i]?).toList a w ∧
  wpList P ops (fun e a' w'=>e = .normal∧((b || j == s)=true∨C w')∧walkT P ops C s Q u (b || j == s) a' w') (ops[j]?).toList a w
theorem set_getD {s i:Nat} {listed:Array Bool} (inv:RInv md ops listed) (hr:i∈Region.ready md ops listed):(listed.setIfInBounds i true).getD s false=(listed.getD s false || i == s):=by
 by_cases his:i=s
 ·subst his
  obtain ⟨hun,o,ho,_⟩:=mem_ready.1 hr
  have hlt:i < listed.size:=by rw [inv.size]; exact (Array.getElem?_eq_some_iff.1 ho).1
  simp [hlt]
 ·rw [getD_set_ne false his]
  simp [his]
theorem step_mv {s j:Nat} {K:Act→World→Prop} {listed:Array Bool} {a:Act} {w:World} (inv:RInv md ops listed) (hr:j∈Region.ready md ops listed)
  (h:wpList P ops (fun e a' w'=>e = .normal∧((listed.getD s false || j == s)=true∨C w')∧K a' w') (ops[j]?).toList a w) :
  wpOp P ops (fun _ _ _=>False) j (fun a' w'=>safeW C s (listed.setIfInBounds j true) w'∧K a' w') a w:=by
 obtain ⟨hun,o,ho,_⟩:=mem_ready.1 hr
 simp only [ho,Option.toList] at h
 have h2:wpOp P ops (fun e a' w'=>e = .normal∧((listed.getD s false || j == s)=true∨C w')∧K a' w') j (fun a' w'=>((listed.getD s false || j == s)=true∨C w')∧K a' w') a w:=by
  unfold wpOp
  simp only [ho]
  simp only [wpList,true_and] at h
  exact h
 have h3:=wpOp_strong (fun e a' w' hq=>hq.1) h2
 refine wpOp_mono (fun a' w' h4=>⟨?_,h4.2⟩) h3
 unfold safeW
 rw [set_getD inv hr]
 exact h4.1
theorem anyR_tree {s:Nat} {Q:Act→World→Prop} (hsel:Region.noSelect ops=true) :
  ∀ (l:RTree) (listed:Array Bool) (a:Act) (w:World),RInv md ops listed→safeW C s listed w→ordT md ops s l listed=true →
   walkT P ops C s Q l (listed.getD s false) a w→anyR P md ops C s Q l.len listed a w
 | .nil,listed,a,w,_,_,hB,h=>⟨by simpa [ordT] using hB,h⟩
 | .mv i t,listed,a,w,inv,hs,hB,h=>by
  simp only [ordT,Bool.and_eq_true,decide_eq_true_eq] at hB
  obtain ⟨hB1,hB2⟩:=hB
  have hr:i∈Region.ready md ops listed:=by rw [hB1]; exact List.mem_singleton.2 rfl
  refine ⟨by rw [hB1]; simp,fun j hj=>?_⟩
  rw [hB1] at hj
  obtain rfl:=List.mem_singleton.1 hj
  refine wpOp_mono (fun a' w' h4=>⟨h4.1,anyR_tree hsel t _ a' w' (inv.set hr) h4.1 hB2 ?_⟩) (step_mv inv hr h)
  rw [set_getD inv hr]
  exact h4.2
 | .two i k t u,listed,a,w,inv,hs,hB,h=>by
  simp only [ordT,Bool.and_eq_true,decide_eq_true_eq] at hB
  obtain ⟨⟨hB1,hlen⟩,hB2,hB3⟩:=hB
  have hr:i∈Region.ready md ops listed:=by rw [hB1]; simp
  have hr2:k∈Region.ready md ops listed:=by rw [hB1]; simp
  refine ⟨by rw [hB1]; simp,fun j hj=>?_⟩
  rw [hB1] at hj
  simp only [List.mem_cons,List.not_mem_nil,or_false] at hj
  by_cases hji:j=i
  ·subst hji
   refine wpOp_mono (fun a' w' h4=>⟨h4.1,anyR_tree hsel t _ a' w' (inv.set hr) h4.1 hB2 ?_⟩) (step_mv inv hr h.1)
   rw [set_getD inv hr]
   exact h4.2
  ·have hjk:j=k:=hj.resolve_left hji
   subst hjk
   have:=wpOp_mono (fun a' w' (h4:safeW C s (listed.setIfInBounds j true) w'∧walkT P ops C s Q u (listed.getD s false || j == s) a' w')=>(⟨h4.1,anyR_tree hsel u _ a' w' (inv.set hr2) h4.1 hB3 (by rw [set_getD inv hr2]; exact h4.2)⟩:safeW C s (listed.setIfInBounds j true) w'∧anyR P md ops C s Q u.len (listed.setIfInBounds j true) a' w')) (step_mv inv hr2 h.2)
   rw [← hlen] at this
   exact this
 | .rd k i t,listed,a,w,inv,hs,hB,h=>by
  simp only [ordT,Bool.and_eq_true] at hB
  obtain ⟨hB1,hB2⟩:=hB
  simp only [decide_eq_true_eq,Bool.or_eq_true,beq_iff_eq] at hB1
  obtain ⟨⟨⟨⟨hr,hf⟩,hne⟩,his⟩,hw⟩:=hB1
  have hr':i∈Region.ready md ops listed:=by simpa using hr
  obtain ⟨_,o,ho,_⟩:=mem_ready.1 hr'
  have hne':noEnter o.op=true:=by rw [ho] at hne; exact hne
  have hgs:(listed.setIfInBounds i true).getD s false=listed.getD s false:=getD_set_ne false his
  have hs2:safeW C s (listed.setIfInBounds i true) w:=by unfold safeW; rw [hgs]; exact hs
  simp only [walkT] at h
  have hread:∃ v,ReadsIn P ops md C s i o v a∧walkT P ops C s Q t (listed.getD s false) (a.put o.dst v) w:=by
   by_cases h2:k=2
   ·rw [if_pos h2] at h
    obtain ⟨v,hy,hK⟩:=yieldsIn_of_qOp ho (qOp_of_list ho h)
    exact ⟨v,.inr hy,hK⟩
   ·rw [if_neg h2] at h
    obtain ⟨v,hy,hK⟩:=yieldsIn_of_qOp ho (qOp_of_list ho h)
    exact ⟨v,.inl ⟨hw.resolve_left h2,hy⟩,hK⟩
  obtain ⟨v,hy,hK⟩:=hread
  exact anyR_first ho his hne' (Region.noSelect_spec hsel) t.len listed a w inv (Region.free_spec ho hf) hr' hy hs
   (anyR_tree hsel t _ _ w (inv.set hr') hs2 hB2 (by rw [hgs]; exact hK))
theorem walkT_read {s i:Nat} {Q:Act→World→Prop} {l:RTree} {b:Bool} {a:Act} {w:World} {lo:List Oper} (h:wpQuiet P lo.toArray C (fun a'=>walkT P lo.toArray C s Q l b a' w) ((lo.drop i).take 1) a):walkT P lo.toArray C s Q (.rd 1 i l) b a w:=by
 simp only [walkT,pick_one]
 exact h
theorem walkT_move {s i:Nat} {Q:Act→World→Prop} {l:RTree} {b:Bool} {a:Act} {w:World} {lo:List Oper}
  (h:wpList P lo.toArray (fun e a' w'=>e = .normal∧((b || i == s)=true∨C w')∧walkT P lo.toArray C s Q l (b || i == s) a' w') ((lo.drop i).take 1) a w):walkT P lo.toArray C s Q (.mv i l) b a w:=by
 simp only [walkT,pick_one]
 exact h
theorem walkT_two {s i j:Nat} {Q:Act→World→Prop} {l m:RTree} {b:Bool} {a:Act} {w:World} {lo:List Oper}
  (h1:wpList P lo.toArray (fun e a' w'=>e = .normal∧((b || i == s)=true∨C w')∧walkT P lo.toArray C s Q l (b || i == s) a' w') ((lo.drop i).take 1) a w)
  (h2:wpList P lo.toArray (fun e a' w'=>e = .normal∧((b || j == s)=true∨C w')∧walkT P lo.toArray C s Q m (b || j == s) a' w') ((lo.drop j).take 1) a w):walkT P lo.toArray C s Q (.two i j l m) b a w:=by
 simp only [walkT,pick_one]
 exact ⟨h1,h2⟩
theorem wp_region_tree {id:Nat} {Q:Exit→Act→World→Prop} {a:Act} {w:World} {l:List Oper} (s:Nat) (ord:RTree) (C:World→Prop) (hm:P.follows .mixedOrders=true)
  (hB:(Region.noSelect l.toArray && decide (ord.len=l.length) && ordT .any l.toArray s ord (Array.replicate l.length false))=true)
  (hC:C { w with drawn:=w.drawn + 1 }) (h:walkT P l.toArray C s (fun a' w'=>Q .normal a' w') ord false a { w with drawn:=w.drawn + 1 }):(Code.region id l.toArray true).wp P Q a w:=by
 simp only [Bool.and_eq_true,decide_eq_true_eq] at hB
 obtain ⟨⟨hsel,hlen⟩,hord⟩:=hB
 refine wp_region_any hm ?_
 have inv0:RInv .any l.toArray (Array.replicate l.length false):=⟨by simp,fun j oj _ hl=>(by rw [getD_replicate_false] at hl; cases hl)⟩
 have H:=anyR_tree (md := .any) hsel ord _ a _ inv0 (.inr hC) hord (by rw [getD_replicate_false]; exact h)
 have:=anyR_any (Q':=Q) (fun a w h=>h) _ _ _ _ H
 rw [hlen] at this
 simpa using this
end
end Go.Proofs.YtlomhfknmhaboaaGreatDoor.RY

namespace Go.Proofs.YtlomhfknmhaboaaGreatDoor
open Go.RowKit Go.Proofs.YtlomhfknmhaboaaGreatDoor.RY
set_option maxRecDepth 100000 in
set_option maxHeartbeats 8000000 in
theorem Sign_dec (w:World) (ps:List Int) (a0 a1:Option Addr) (c0 c1:Nat) (la:List Rat) (A:SizeOk w ps a0 a1 la 30) (hp:pcode ps=0) (g:Good ps la) (L:Laid w) :
  Gives Tryz.prog 27 #[.slice a0 ps.length c0,.slice a1 ps.length c1] w (.tuple #[.int .i64 (LN.sz ps la),.int .i64 0]):=by
 unfold Gives
 have hn:=A.n
 have Hc:Hid (Gives Tryz.prog 51 #[.slice a0 ps.length c0,.slice a1 ps.length c1] w (.int .i64 0)):=by
  have:=sizeCheck_any w a0 a1 c0 c1 ps (la.map qs) A.rp A.i64 (by omega) A.rl (by rw [List.length_map,A.len]; omega) (ssz_ok A.sm) L
  rw [List.length_map,A.len] at this
  unfold ccode at this
  rw [if_pos hp,scode_ok A.sm A.len] at this
  exact this
 have Ht:Hid (∀ W,Below w.heap.size w W→Calls Tryz.prog 66 #[.slice a0 ps.length c0,.slice a1 ps.length c1] W fun e w'=>∃ b1 d1 b2 d2,e = .returned (.agg (tcells b1 d1 b2 d2 (tlQ ps la).length (tden la)))∧TermsAt w' (tlQ ps la) b1 b2∧Below W.heap.size W w'):=fun W hW=>by
  have:=terms_ok (c0:=c0) (c:=c1) (A.below hW) (L.below hW)
  rw [A.len] at this
  exact this
 have Hs:Hid (∀ W b1 b2 d1 d2,TermsAt W (tlQ ps la) b1 b2→Below w.heap.size w W→Gives Tryz.prog 67 #[.agg (tcells b1 d1 b2 d2 (tlQ ps la).length (tden la))] W (.int .i64 (LN.sz ps la))):=fun W b1 b2 d1 d2 T hW =>
  sign_dec W b1 b2 d1 d2 _ 101 _ T g.trt (by decide) g.lt (g.dec hn) (L.below hW)
 clear A hp g L hn
 generalize LN.sz ps la=r at *
 generalize ps.length=n at *
 go_enter Tryz.func27,Tryz.ntmps27
 go_wp2_with fail
 refine Calls.mono Hc.out ?_
 rintro e w1 ⟨rfl,hb⟩
 have B1:=Lib.hid hb
 clear hb Hc
 go_wp2_with fail
 refine Calls.mono (Ht.out _ B1.out) ?_
 rintro e w2 ⟨b1,d1,b2,d2,rfl,T,hb⟩
 have B2:=Lib.hid (B1.out.trans (hb.mono B1.out.size))
 have Hs2:=Lib.hid (Hs.out w2 b1 b2 d1 d2 T B2.out)
 clear hb Ht T Hs
 go_wp2_with fail
 refine Calls.mono Hs2.out ?_
 rintro e w3 ⟨rfl,hb⟩
 have B3:=Lib.hid (B2.out.trans (hb.mono B2.out.size))
 clear hb Hs2
 go_wp2_with fail
 go_ret2
 exact ⟨rfl,B3.out⟩
end Go.Proofs.YtlomhfknmhaboaaGreatDoor

namespace Go.Proofs.YtlomhfknmhaboaaGreatDoor
open Go.RowKit
theorem primesL_small:∀ k,k < 10→(∀ p∈primesL k,p∈smallP)∧(primesL k).Nodup:=by decide +kernel
theorem smallP_pos {ps:List Int} (h:∀ p∈ps,p∈smallP):∀ p∈ps,0 < p:=fun p hp=>by
 have key:∀ q∈smallP,0 < q:=by decide
 exact key p (h p hp)
def Sml (N M:Nat) (l:List Rat):Prop:=∀ q∈l,q.den ∣ M∧(LN.ex M q).natAbs≤N
theorem Sml.le {N K M:Nat} {l:List Rat} (h:Sml N M l) (hK:N≤K):Sml K M l:=fun q hq=>⟨(h q hq).1,Nat.le_trans (h q hq).2 hK⟩
theorem ex_den {M:Nat} {q:Rat} (z:Int) (hM:0 < M) (h:q * (M:Rat)=(z:Rat)):q.den ∣ M∧LN.ex M q=z:=by
 have hM':(M:Rat)≠0:=by have:=Rat.natCast_pos.2 hM; grind
 have e:q=mkRat z M:=by
  rw [Rat.mkRat_eq_div]
  have:=Rat.mul_div_cancel (a:=q) hM'
  rw [← h]; exact this.symm
 have hd:q.den ∣ M:=by
  rw [e,LN.mkRat_den' _ _ (by omega)]
  exact Nat.div_dvd_of_dvd (Nat.gcd_dvd_right _ _)
 refine ⟨hd,?_⟩
 rw [← Rat.intCast_inj,LN.ex_eq hd,h]
theorem Sml.comb {N K M:Nat} {la lb:List Rat} (hM:0 < M) (ha:Sml N M la) (hb:Sml K M lb) (f g:Int):Sml (N * f.natAbs + K * g.natAbs) M (combineQ la lb (f:Rat) (g:Rat)):=by
 intro q hq
 obtain ⟨i,hi,rfl⟩:=List.mem_iff_getElem.1 hq
 have hi':i < la.length∧i < lb.length:=by simp [combineQ] at hi; omega
 simp only [combineQ,List.getElem_zipWith]
 obtain ⟨d1,n1⟩:=ha _ (List.getElem_mem hi'.1)
 obtain ⟨d2,n2⟩:=hb _ (List.getElem_mem hi'.2)
 have h:(la[i]'hi'.1 * (f:Rat) + lb[i]'hi'.2 * (g:Rat)) * (M:Rat)=((LN.ex M (la[i]'hi'.1) * f + LN.ex M (lb[i]'hi'.2) * g:Int):Rat):=by
  rw [Rat.intCast_add,Rat.intCast_mul,Rat.intCast_mul,LN.ex_eq d1,LN.ex_eq d2]
  grind
 obtain ⟨r1,r2⟩:=ex_den _ hM h
 refine ⟨r1,?_⟩
 rw [r2]
 refine Nat.le_trans (Int.natAbs_add_le _ _) ?_
 rw [Int.natAbs_mul,Int.natAbs_mul]
 exact Nat.add_le_add (Nat.mul_le_mul_right _ n1) (Nat.mul_le_mul_right _ n2)
theorem Sml.good {N M:Nat} {ps:List Int} {l:List Rat} (hM:0 < M) (h:Sml N M l) (hN:N≤Kb) (h1:∀ p∈ps,p∈smallP) (h2:ps.Nodup):Good ps l:=by
 refine ⟨h1,h2,fun x hx=>?_⟩
 obtain ⟨_,q,hq,_,he⟩:=tlist_mem hx
 have e:x.2=LN.ex (tden l) q:=he
 obtain ⟨m,hm⟩:=LN.tden_min (fun q hq=>(h q hq).1)
 have h3:=(h q hq).2
 rw [hm,Nat.mul_comm,LN.ex_mul (LN.tden_dvd hq),Int.natAbs_mul,Int.natAbs_natCast] at h3
 have hm0:0 < m:=by
  rcases Nat.eq_zero_or_pos m with h0 | h0
  ·rw [h0,Nat.mul_zero] at hm; omega
  ·exact h0
 rw [e]
 have h4:1 * (LN.ex (tden l) q).natAbs≤m * (LN.ex (tden l) q).natAbs:=Nat.mul_le_mul_right _ hm0
 omega
def difQ (la lb:List Rat):List Rat:=combineQ la lb ((1:Int):Rat) ((-1:Int):Rat)
theorem difQ_length (la lb:List Rat) (h:la.length=lb.length):(difQ la lb).length=la.length:=combineQ_length _ _ _ _ h
theorem sz_ne {ps:List Int} {l:List Rat} (g:Good ps l) (hn:ps.length≤100) (hl:l.length=ps.length) (h:∃ q∈l,q≠0):LN.sz ps l≠0:=by
 have hne:tlQ ps l≠[]:=by
  obtain ⟨q,hq,h0⟩:=h
  obtain ⟨i,hi,rfl⟩:=List.mem_iff_getElem.1 hq
  intro e
  have hm:(ps[i]'(by omega),l[i].num * ((tden l / l[i].den:Nat):Int))∈tlQ ps l:=by
   unfold tlQ tlist
   refine List.mem_filterMap.2 ⟨(ps[i]'(by omega),l[i]),?_,?_⟩
   ·exact List.mem_iff_getElem.2 ⟨i,by simp; omega,by simp⟩
   ·rw [if_neg]
    intro hz
    exact h0 (Rat.num_eq_zero.1 hz)
  rw [e] at hm
  cases hm
 show LN.signT (tlQ ps l)≠0
 rcases g.dec hn hne with h | h
 ·rw [sign_of_lo g.trt (by decide) hne h]; decide
 ·rw [sign_of_hi g.trt (by decide) hne h]; decide
end Go.Proofs.YtlomhfknmhaboaaGreatDoor

namespace Go.Proofs.YtlomhfknmhaboaaGreatDoor
open Go.RowKit
theorem densL_dvd:∀ d,d < 6→0 < densL d∧densL d ∣ 12:=by decide
theorem rat_one_int:((1:Int):Rat)=1:=rfl
theorem rat_mone_int:((-1:Int):Rat) = -1:=by decide +kernel
theorem mkRat_mul_den (z:Int) (d:Nat) (hd:0 < d):mkRat z d * (d:Rat)=(z:Rat):=by
 rw [Rat.mkRat_eq_div]
 exact Rat.div_mul_cancel (by have:=Rat.natCast_pos.2 hd; grind)
theorem fracQ_twelve (n:Int) (d:Nat):∃ z:Int,fracQ n d * ((12:Nat):Rat)=(z:Rat)∧z.natAbs≤480:=by
 obtain ⟨h1,m,hm⟩:=densL_dvd (d % 6) (Nat.mod_lt _ (by decide))
 have t1:=Int.tmod_lt_of_pos n (show (0:Int) < 41 by decide)
 have t2:=Int.lt_tmod_of_pos n (show (0:Int) < 41 by decide)
 refine ⟨n.tmod 41 * m,?_,?_⟩
 ·unfold fracQ
  have e:=mkRat_mul_den (n.tmod 41) (densL (d % 6)) h1
  rw [hm,Rat.natCast_mul,← Rat.mul_assoc,e,Rat.intCast_mul,Rat.intCast_natCast]
 ·have hm2:m≤12:=by
   have:1 * m≤densL (d % 6) * m:=Nat.mul_le_mul_right _ h1
   omega
  rw [Int.natAbs_mul,Int.natAbs_natCast]
  exact Nat.le_trans (Nat.mul_le_mul (show (n.tmod 41).natAbs≤40 by omega) hm2) (by decide)
theorem partsQ_sml (nu:Nat→Int) (de:Nat→Nat) (m:Nat):Sml 480 12 (partsQ nu de m):=by
 intro q hq
 obtain ⟨i,_,rfl⟩:=List.mem_map.1 hq
 obtain ⟨z,h,hz⟩:=fracQ_twelve (nu i) (de i)
 obtain ⟨r1,r2⟩:=ex_den z (by decide) h
 exact ⟨r1,by rw [r2]; exact hz⟩
theorem cmp_ok {W:World} {ps:List Int} {a0 a1 a2:Option Addr} (c0 c1 c2:Nat) {la lb:List Rat} (hp:pcode ps=0) (h13:∀ p∈ps,2≤p∧p≤13) (hn:ps.length≤100) (rp:Rd W a0 (ints ps)) (r1:Rd W a1 (cellsQ la)) (r2:Rd W a2 (cellsQ lb))
  (l1:la.length=ps.length) (l2:lb.length=ps.length) (s1:∀ q∈la,Sm 30 q) (s2:∀ q∈lb,Sm 30 q) (g:Good ps (difQ la lb)) (L:Laid W) :
  Gives Tryz.prog 21 #[.slice a0 ps.length c0,.slice a1 ps.length c1,.slice a2 ps.length c2] W (.tuple #[.int .i64 (LN.sz ps (difQ la lb)),.int .i64 0]):=by
 have e:sumQ ps.length [la,lb] [1,-1]=difQ la lb:=by
  rw [sumQ_two _ _ _ _ _ l1 l2]
  unfold difQ
  rw [rat_one_int,rat_mone_int]
 have h97:∀ p∈ps,2≤p∧p≤97:=fun p hp=>by have:=h13 p hp; omega
 have h:=Compare_dec W ps a0 a1 a2 c0 c1 c2 la lb ⟨rp,r1,l1,hn,h97,s1,by decide⟩ ⟨rp,r2,l2,hn,h97,s2,by decide⟩ hp L (by rw [e]; exact g)
 rw [e,l1,l2] at h
 exact h
theorem sz_cases {ps:List Int} (hp:∀ p∈ps,0 < p) (l:List Rat):LN.sz ps l=1∨LN.sz ps l=0∨LN.sz ps l = -1:=by
 rw [LN.sz_of_vt hp]; exact LN.sg_cases _
theorem pow_kb {a:Nat} (h:a≤1000000000):a≤Kb:=by
 have:(1000000000:Nat)≤Kb:=by decide
 omega
end Go.Proofs.YtlomhfknmhaboaaGreatDoor

namespace Go.Proofs.YtlomhfknmhaboaaGreatDoor
open Go.RowKit
set_option maxRecDepth 100000 in
set_option maxHeartbeats 16000000 in
theorem Abs_dec (w:World) (ps:List Int) (a0 a1:Option Addr) (c0 c1:Nat) (la:List Rat) (A:SizeOk w ps a0 a1 la 30) (hp:pcode ps=0) (hpos:∀ p∈ps,0 < p) (g:Good ps la) (L:Laid w) :
  Calls Tryz.prog 28 #[.slice a0 ps.length c0,.slice a1 ps.length c1] w fun e w'=>∃ a c,e = .returned (.tuple #[.slice a ps.length c,.int .i64 0])∧Rd w' a (cellsQ (combineQ la la ((LN.sz ps la:Int):Rat) 0))∧Below w.heap.size w w':=by
 have hn:=A.n
 have Hc:=Lib.hid (Sign_dec w ps a0 a1 c0 c1 la A hp g L)
 have hr:=sz_cases hpos la
 generalize LN.sz ps la=r at *
 have hrb : -1≤r∧r≤1:=by omega
 have hfac:max r (-r) * (2 * max r 0 - 1)=r:=by rcases hr with h | h | h <;> rw [h] <;> rfl
 have hk:Sm 2 (r:Rat):=⟨by rw [Rat.num_intCast]; omega,by rw [Rat.den_intCast]; decide⟩
 have Hnum:Hid (∀ W,Below w.heap.size w W→Gives Tryz.prog 65 #[.int .i64 r] W (.agg #[.string (itx r),.string (dec 1)])):=fun W hW=>number_any W r (by omega) (by omega) (L.below hW)
 have HS:Hid (∀ W g1 g2,Below w.heap.size w W→W.heap[g1]?=some (.cells #[.slice a1 ps.length c1] 34 (0,0))→W.heap[g2]?=some (.cells #[.string (itx r),.string (dec 1)] 30 (0,0)) →
   Calls Tryz.prog 59 #[.int .i64 ps.length,.slice (some ⟨g1,0,none⟩) 1 1,.slice (some ⟨g2,0,none⟩) 1 1] W fun e w'=>∃ a c,e = .returned (.slice a ps.length c)∧Rd w' a (cellsQ (combineQ la la (r:Rat) 0))∧Below W.heap.size W w'):=fun W g1 g2 hW h1 h2=>by
  have h:=sum_one W g1 g2 a1 c1 ps.length 30 la (r:Rat) (by rw [A.len]; exact h1) (by rw [Rat.num_intCast,Rat.den_intCast]; exact h2) (A.below hW).rl A.len A.sm hk (by omega) (by decide) (L.below hW)
  rw [sumQ_onek _ _ _ A.len] at h
  unfold GivesQ at h
  rw [combineQ_length _ _ _ _ rfl,A.len] at h
  refine Calls.mono h ?_
  rintro e w' ⟨a,c,rfl,ho,hb⟩
  exact ⟨a,c,rfl,ho.rd,hb⟩
 clear A hp L hr hk hpos g
 generalize combineQ la la (r:Rat) 0=S at *
 generalize ps.length=n at *
 generalize itx r=s1 at *
 generalize dec 1=s2 at *
 obtain ⟨m1,hm1⟩:∃ m,max r (-r)=m:=⟨_,rfl⟩
 obtain ⟨m2,hm2⟩:∃ m,max r 0=m:=⟨_,rfl⟩
 have b1:0≤m1∧m1≤1:=by omega
 have b2:0≤m2∧m2≤1:=by omega
 rw [hm1,hm2] at hfac
 go_enter Tryz.func28,Tryz.ntmps28
 go_wp2_with fail
 refine Calls.mono Hc.out ?_
 rintro e w1 ⟨rfl,hb⟩
 have B1:=Lib.hid hb
 clear hb Hc
 go_wp2_with fail
 have K1:=Lib.hid (heap_at w1 #[.slice a1 n c1] 34 _ rfl)
 have B2:=Lib.hid (B1.out.alloc B1.out.size (.cells #[.slice a1 n c1] 34))
 generalize hw2:w1.alloc (.cells #[.slice a1 n c1] 34)=w2 at *
 clear hw2 B1
 refine Calls.mono (Hnum.out _ B2.out) ?_
 rintro e w3 ⟨rfl,hb⟩
 have K3:=Lib.hid (heap_kept K1.out hb nr_)
 have B3:=Lib.hid (B2.out.trans (hb.mono B2.out.size))
 clear hb K1 B2
 go_wp2_with fail
 have K4:=Lib.hid (heap_old K3.out (.cells #[.string s1,.string s2] 30))
 have B4:=Lib.hid (B3.out.alloc B3.out.size (.cells #[.string s1,.string s2] 30))
 have M4:=Lib.hid (heap_at w3 #[.string s1,.string s2] 30 _ rfl)
 generalize hw4:w3.alloc (.cells #[.string s1,.string s2] 30)=w4 at *
 clear hw4 B3 K3
 refine Calls.mono (HS.out _ _ _ B4.out K4.out M4.out) ?_
 rintro e w5 ⟨a5,c5,rfl,ho,hb⟩
 have R5:=Lib.hid ho
 have B5:=Lib.hid (B4.out.trans (hb.mono B4.out.size))
 clear hb ho HS
 go_wp2_with fail
 go_ret2
 exact ⟨a5,c5,rfl,R5.out,B5.out⟩
end Go.Proofs.YtlomhfknmhaboaaGreatDoor

namespace Go.Proofs.YtlomhfknmhaboaaGreatDoor
open Go.RowKit
theorem part_one':mkRat 1 1=1:=by decide +kernel
theorem part_mone':mkRat (-1) 1=((-1:Int):Rat):=by decide +kernel
theorem part_zero':mkRat 0 1=0:=by decide +kernel
theorem combineQ_one (la:List Rat):combineQ la la ((1:Int):Rat) 0=la:=by
 rw [rat_one_int]
 refine List.ext_getElem (by simp [combineQ]) fun i h1 h2=>?_
 simp only [combineQ,List.getElem_zipWith]
 grind
theorem combineQ_none (la:List Rat) (h:∀ q∈la,q=0):combineQ la la ((0:Int):Rat) 0=la:=by
 refine List.ext_getElem (by simp [combineQ]) fun i h1 h2=>?_
 have:=h la[i] (List.getElem_mem h2)
 simp only [combineQ,List.getElem_zipWith]
 rw [this]
 grind
set_option maxRecDepth 100000 in
set_option maxHeartbeats 64000000 in
theorem lawSigns (w:World) (pn:Nat) (nA:Nat→Int) (dA:Nat→Nat) (nB:Nat→Int) (dB:Nat→Nat) (hpn:pn < 256) (hnA:∀ k,-128≤nA k∧nA k≤127) (hdA:∀ k,dA k < 256) (hnB:∀ k,-128≤nB k∧nB k≤127) (hdB:∀ k,dB k < 256) (L:Laid w) :
  Gives Tryz.prog 6 #[.agg (pairV pn nA dA nB dB)] w (.bool true):=by
 unfold Gives
 have hp:=primesL_ok (pn % 10) (Nat.mod_lt _ (by decide))
 have hps:=primesL_small (pn % 10) (Nat.mod_lt _ (by decide))
 have HPr:=Lib.hid (fun W=>primes_any W pn hpn)
 generalize primesL (pn % 10)=ps at *
 obtain ⟨hp0,hp4,hp1,hp2⟩:=hp
 obtain ⟨hq1,hq2⟩:=hps
 have hpos:=smallP_pos hq1
 have hp100:ps.length≤100:=by omega
 have h97:∀ p∈ps,2≤p∧p≤97:=fun p hp=>by have:=hp2 p hp; omega
 have FF:AddFacts w ps (partsQ nA dA ps.length) (partsQ nB dB ps.length) ⟨#[]⟩ ⟨#[]⟩:=⟨fun x hx=>by have:=hp2 x hx; omega,hp0,partsQ_length ..,partsQ_length ..,partsQ_sm _ _ _,partsQ_sm _ _ _,by decide,by decide,L⟩
 have HK:Hid (∀ W,Below w.heap.size w W→Gives Tryz.prog 12 #[] W (.bool true)):=fun W hW=>known_ok W (L.below hW)
 have HA:Hid (∀ W a0 c0,Below w.heap.size w W→Calls Tryz.prog 15 #[.slice a0 ps.length c0,.agg #[.int .i8 (nA 0),.int .u8 (dA 0),.int .i8 (nA 1),.int .u8 (dA 1),.int .i8 (nA 2),.int .u8 (dA 2),.int .i8 (nA 3),.int .u8 (dA 3)]] W fun e w'=>∃ a c,e = .returned (.slice a ps.length c)∧Rd w' a (cellsQ (partsQ nA dA ps.length))∧Below W.heap.size W w'):=fun W a0 c0 hW=>by
  refine Calls.mono (make_any W a0 c0 ps.length hp4 nA dA hnA hdA (L.below hW)) ?_
  rintro e w' ⟨a,c,rfl,ho,hb⟩
  exact ⟨a,c,rfl,ho.rd,hb⟩
 have HB:Hid (∀ W a0 c0,Below w.heap.size w W→Calls Tryz.prog 15 #[.slice a0 ps.length c0,.agg #[.int .i8 (nB 0),.int .u8 (dB 0),.int .i8 (nB 1),.int .u8 (dB 1),.int .i8 (nB 2),.int .u8 (dB 2),.int .i8 (nB 3),.int .u8 (dB 3)]] W fun e w'=>∃ a c,e = .returned (.slice a ps.length c)∧Rd w' a (cellsQ (partsQ nB dB ps.length))∧Below W.heap.size W w'):=fun W a0 c0 hW=>by
  refine Calls.mono (make_any W a0 c0 ps.length hp4 nB dB hnB hdB (L.below hW)) ?_
  rintro e w' ⟨a,c,rfl,ho,hb⟩
  exact ⟨a,c,rfl,ho.rd,hb⟩
 obtain ⟨u,hu⟩:∃ q:Rat,q=((1:Int):Rat):=⟨_,rfl⟩
 obtain ⟨v,hv⟩:∃ q:Rat,q=((-1:Int):Rat):=⟨_,rfl⟩
 obtain ⟨o,ho⟩:∃ q:Rat,q=0:=⟨_,rfl⟩
 have HU:Hid (∀ W,Below w.heap.size w W→Gives Tryz.prog 18 #[.int .i64 1,.int .i64 1] W (fr u)):=fun W hW=>by subst hu; rw [rat_one_int,← part_one']; exact partR W 1 1 (by decide) (by decide) (by decide) (by decide) (L.below hW)
 have HV:Hid (∀ W,Below w.heap.size w W→Gives Tryz.prog 18 #[.int .i64 (-1),.int .i64 1] W (fr v)):=fun W hW=>by subst hv; rw [← part_mone']; exact partR W (-1) 1 (by decide) (by decide) (by decide) (by decide) (L.below hW)
 have HO:Hid (∀ W,Below w.heap.size w W→Gives Tryz.prog 18 #[.int .i64 0,.int .i64 1] W (fr o)):=fun W hW=>by subst ho; rw [← part_zero']; exact partR W 0 1 (by decide) (by decide) (by decide) (by decide) (L.below hW)
 have ma:=partsQ_sml nA dA ps.length
 have mb:=partsQ_sml nB dB ps.length
 generalize partsQ nA dA ps.length=la at *
 generalize partsQ nB dB ps.length=lb at *
 have su:Sm 400 u:=by rw [hu,rat_one_int]; exact sm_one.le (by decide)
 have sv:Sm 400 v:=by rw [hv]; exact sm_mone.le (by decide)
 have so:Sm 400 o:=by rw [ho]; exact Sm.zero.le (by decide)
 have s30:∀ {l:List Rat},(∀ q∈l,Sm 2 q)→∀ q∈l,Sm 30 q:=fun h q hq=>(h q hq).le (by decide)
 have G:=fun {l:List Rat} {N M:Nat} (hM:0 < M) (h:Sml N M l) (hN:N≤Kb)=>h.good (ps:=ps) hM hN hq1 hq2
 have ga:=G (by decide) ma (pow_kb (by decide))
 have gab:=G (by decide) (Sml.comb (by decide) ma mb 1 (-1)) (pow_kb (by decide))
 have hcd:combineQ la lb u v=difQ la lb:=by rw [hu,hv]; rfl
 have sd:∀ q∈difQ la lb,Sm 30 q:=by
  rw [← hcd,hu,hv]
  exact fun q hq=>(combineQ_sm FF.s1 FF.s2 (by rw [rat_one_int]; exact sm_one) sm_mone q hq).le (by decide)
 have ld:(difQ la lb).length=ps.length:=(difQ_length _ _ (FF.l1.trans FF.l2.symm)).trans FF.l1
 have hr:=sz_cases hpos la
 have hr2:=sz_cases hpos (difQ la lb)
 have HSg:Hid (∀ (W:World) (a0 a1:Option Addr) (c0 c1:Nat),Below w.heap.size w W→Rd W a0 (ints ps)→Rd W a1 (cellsQ la)→Gives Tryz.prog 27 #[.slice a0 ps.length c0,.slice a1 ps.length c1] W (.tuple #[.int .i64 (LN.sz ps la),.int .i64 0])):=fun W a0 a1 c0 c1 hW r0 r1 =>
  Sign_dec W ps a0 a1 c0 c1 la ⟨r0,r1,FF.l1,hp100,h97,s30 FF.s1,by decide⟩ hp0 ga (L.below hW)
 have HCm:Hid (∀ (W:World) (a0 a1 a2:Option Addr) (c0 c1 c2:Nat),Below w.heap.size w W→Rd W a0 (ints ps)→Rd W a1 (cellsQ la)→Rd W a2 (cellsQ lb)→Gives Tryz.prog 21 #[.slice a0 ps.length c0,.slice a1 ps.length c1,.slice a2 ps.length c2] W (.tuple #[.int .i64 (LN.sz ps (difQ la lb)),.int .i64 0])):=fun W a0 a1 a2 c0 c1 c2 hW r0 r1 r2 =>
  cmp_ok c0 c1 c2 hp0 hp2 hp100 r0 r1 r2 FF.l1 FF.l2 (s30 FF.s1) (s30 FF.s2) gab (L.below hW)
 have HAb:Hid (∀ (W:World) (a0 a1:Option Addr) (c0 c1:Nat),Below w.heap.size w W→Rd W a0 (ints ps)→Rd W a1 (cellsQ la)→Calls Tryz.prog 28 #[.slice a0 ps.length c0,.slice a1 ps.length c1] W fun e w'=>∃ a c,e = .returned (.tuple #[.slice a ps.length c,.int .i64 0])∧Rd w' a (cellsQ (combineQ la la ((LN.sz ps la:Int):Rat) 0))∧Below W.heap.size W w'):=fun W a0 a1 c0 c1 hW r0 r1 =>
  Abs_dec W ps a0 a1 c0 c1 la ⟨r0,r1,FF.l1,hp100,h97,s30 FF.s1,by decide⟩ hp0 hpos ga (L.below hW)
 have HL1:Hid (∀ (W:World) (a0 a1:Option Addr) (c0 c1:Nat),Below w.heap.size w W→Rd W a0 (ints ps)→Rd W a1 (cellsQ la)→Calls Tryz.prog 29 #[.slice a0 ps.length c0,.slice a1 ps.length c1] W fun e w'=>∃ (v:Int) (ok:Bool),e = .returned (.tuple #[.int .i64 v,.bool ok])∧(ok=true→v=LN.sz ps la)∧Below W.heap.size W w'):=fun W a0 a1 c0 c1 hW r0 r1 =>
  lsign_any W ps a0 a1 c0 c1 30 la ⟨r0,r1,FF.l1,hp100,h97,s30 FF.s1,by decide⟩ (L.below hW)
 have HL2:Hid (∀ (W:World) (a0 a1:Option Addr) (c0 c1:Nat),Below w.heap.size w W→Rd W a0 (ints ps)→Rd W a1 (cellsQ (combineQ la lb u v))→Calls Tryz.prog 29 #[.slice a0 ps.length c0,.slice a1 ps.length c1] W fun e w'=>∃ (v:Int) (ok:Bool),e = .returned (.tuple #[.int .i64 v,.bool ok])∧(ok=true→v=LN.sz ps (difQ la lb))∧Below W.heap.size W w'):=fun W a0 a1 c0 c1 hW r0 r1=>by
  rw [hcd] at r1
  exact lsign_any W ps a0 a1 c0 c1 30 _ ⟨r0,r1,ld,hp100,h97,sd,by decide⟩ (L.below hW)
 have HC1:Hid (∀ (W:World) (a1 a2:Option Addr) (c1 c2:Nat),Below w.heap.size w W→Rd W a1 (cellsQ la)→Rd W a2 (cellsQ lb)→Calls Tryz.prog 17 #[.slice a1 ps.length c1,.slice a2 ps.length c2,.agg #[.string (itx u.num),.string (dec u.den)],.agg #[.string (itx v.num),.string (dec v.den)]] W fun e w'=>∃ a c,e = .returned (.tuple #[.slice a ps.length c,.bool (shortAll (combineQ la lb u v))])∧Rd w' a (cellsQ (combineQ la lb u v))∧Below W.heap.size W w'):=fun W a1 a2 c1 c2 hW r1 r2=>FF.comb hW c1 c2 u v su sv FF.l1 FF.l2 FF.s1 FF.s2 r1 r2
 have HC2:Hid (∀ (W:World) (a1 a2:Option Addr) (c1 c2:Nat),Below w.heap.size w W→Rd W a1 (cellsQ la)→Rd W a2 (cellsQ la)→Calls Tryz.prog 17 #[.slice a1 ps.length c1,.slice a2 ps.length c2,.agg #[.string (itx v.num),.string (dec v.den)],.agg #[.string (itx o.num),.string (dec o.den)]] W fun e w'=>∃ a c,e = .returned (.tuple #[.slice a ps.length c,.bool (shortAll (combineQ la la v o))])∧Rd w' a (cellsQ (combineQ la la v o))∧Below W.heap.size W w'):=fun W a1 a2 c1 c2 hW r1 r2=>FF.comb hW c1 c2 v o sv so FF.l1 FF.l1 FF.s1 FF.s1 r1 r2
 have HE:Hid (∀ (W:World) (a1 a2:Option Addr) (c1 c2:Nat) (lx:List Rat),lx.length=ps.length→Rd W a1 (cellsQ lx)→Rd W a2 (cellsQ lx)→Gives Tryz.prog 20 #[.slice a1 ps.length c1,.slice a2 ps.length c2] W (.bool true)):=fun W a1 a2 c1 c2 lx hx r1 r2=>FF.equal c1 c2 hx r1 r2
 have Hla:=Lib.hid FF.l1
 have Hlm:Hid ((combineQ la la v o).length=ps.length):=(combineQ_length _ _ _ _ rfl).trans FF.l1
 have Hneg:Hid (LN.sz ps la < 0→combineQ la la ((LN.sz ps la:Int):Rat) 0=combineQ la la v o):=fun h=>by
  rw [show LN.sz ps la = -1 by omega,hv,ho]
 have Hnon:Hid (¬ LN.sz ps la < 0→combineQ la la ((LN.sz ps la:Int):Rat) 0=la):=fun h=>by
  rcases hr with h1 | h1 | h1
  ·rw [h1]; exact combineQ_one la
  ·rw [h1]
   refine combineQ_none la fun q hq=>Classical.byContradiction fun hq0=>?_
   exact sz_ne ga hp100 FF.l1 ⟨q,hq,hq0⟩ h1
  ·omega
 unfold fr fv at HU HV HO
 generalize LN.sz ps la=n1 at *
 generalize LN.sz ps (difQ la lb)=n2 at *
 have b1 : -1≤n1∧n1≤1:=by omega
 have b2 : -1≤n2∧n2≤1:=by omega
 clear FF L hu hv ho su sv so hpn hnA hdA hnB hdB hp0 hp1 hp2 hp4 hq1 hq2 hpos hp100 h97 ma mb s30 G ga gab hcd sd ld hr hr2
 generalize combineQ la lb u v=ld at *
 generalize combineQ la la v o=lm at *
 generalize combineQ la la (n1:Rat) 0=lz at *
 generalize shortAll ld=z1 at *
 generalize shortAll lm=z2 at *
 generalize itx u.num=us at *
 generalize dec u.den=ut at *
 generalize itx v.num=vs at *
 generalize dec v.den=vt at *
 generalize itx o.num=os at *
 generalize dec o.den=ot at *
 generalize ps.length=n at *
 unfold pairV
 have B0:=Lib.hid ((Below.refl w.heap.size w).alloc nr_ (.cells #[.int .u8 pn,.int .i8 (nA 0),.int .u8 (dA 0),.int .i8 (nA 1),.int .u8 (dA 1),.int .i8 (nA 2),.int .u8 (dA 2),.int .i8 (nA 3),.int .u8 (dA 3),.int .i8 (nB 0),.int .u8 (dB 0),.int .i8 (nB 1),.int .u8 (dB 1),.int .i8 (nB 2),.int .u8 (dB 2),.int .i8 (nB 3),.int .u8 (dB 3)] 50))
 have P0:=Lib.hid (heap_at w #[.int .u8 pn,.int .i8 (nA 0),.int .u8 (dA 0),.int .i8 (nA 1),.int .u8 (dA 1),.int .i8 (nA 2),.int .u8 (dA 2),.int .i8 (nA 3),.int .u8 (dA 3),.int .i8 (nB 0),.int .u8 (dB 0),.int .i8 (nB 1),.int .u8 (dB 1),.int .i8 (nB 2),.int .u8 (dB 2),.int .i8 (nB 3),.int .u8 (dB 3)] 50 _ rfl)
 go_enter Tryz.func6,Tryz.ntmps6
 go_wp2_with fail
 generalize w.alloc (.cells #[.int .u8 pn,.int .i8 (nA 0),.int .u8 (dA 0),.int .i8 (nA 1),.int .u8 (dA 1),.int .i8 (nA 2),.int .u8 (dA 2),.int .i8 (nA 3),.int .u8 (dA 3),.int .i8 (nB 0),.int .u8 (dB 0),.int .i8 (nB 1),.int .u8 (dB 1),.int .i8 (nB 2),.int .u8 (dB 2),.int .i8 (nB 3),.int .u8 (dB 3)] 50)=w0 at *
 refine Calls.mono (HK.out _ B0.out) ?_
 rintro e_ w1 ⟨rfl,hb_⟩
 have B_1:=Lib.hid (B0.out.trans (hb_.mono B0.out.size))
 replace P0:=Lib.hid (heap_kept P0.out hb_ nr_)
 clear hb_ B0 HK
 have p0:w1.cell? ⟨w.heap.size,0,none⟩=some (.int .u8 pn):=by rw [cell_of_row _ _ _ _ _ _ P0.out]; rfl
 go_wp2_with fail
 clear p0
 refine Calls.mono (HPr.out _) ?_
 rintro e_ w2 ⟨gp,rfl,rp_,hb_⟩
 have B_2:=Lib.hid (B_1.out.trans (hb_.mono B_1.out.size))
 replace P0:=Lib.hid (heap_kept P0.out hb_ nr_)
 have Rp:=Lib.hid rp_
 clear hb_ rp_ HPr B_1
 have p1:w2.cell? ⟨w.heap.size,1,none⟩=some (.int .i8 (nA 0)):=by rw [cell_of_row _ _ _ _ _ _ P0.out]; rfl
 have p2:w2.cell? ⟨w.heap.size,2,none⟩=some (.int .u8 (dA 0)):=by rw [cell_of_row _ _ _ _ _ _ P0.out]; rfl
 have p3:w2.cell? ⟨w.heap.size,3,none⟩=some (.int .i8 (nA 1)):=by rw [cell_of_row _ _ _ _ _ _ P0.out]; rfl
 have p4:w2.cell? ⟨w.heap.size,4,none⟩=some (.int .u8 (dA 1)):=by rw [cell_of_row _ _ _ _ _ _ P0.out]; rfl
 have p5:w2.cell? ⟨w.heap.size,5,none⟩=some (.int .i8 (nA 2)):=by rw [cell_of_row _ _ _ _ _ _ P0.out]; rfl
 have p6:w2.cell? ⟨w.heap.size,6,none⟩=some (.int .u8 (dA 2)):=by rw [cell_of_row _ _ _ _ _ _ P0.out]; rfl
 have p7:w2.cell? ⟨w.heap.size,7,none⟩=some (.int .i8 (nA 3)):=by rw [cell_of_row _ _ _ _ _ _ P0.out]; rfl
 have p8:w2.cell? ⟨w.heap.size,8,none⟩=some (.int .u8 (dA 3)):=by rw [cell_of_row _ _ _ _ _ _ P0.out]; rfl
 have p9:w2.cell? ⟨w.heap.size,9,none⟩=some (.int .i8 (nB 0)):=by rw [cell_of_row _ _ _ _ _ _ P0.out]; rfl
 have p10:w2.cell? ⟨w.heap.size,10,none⟩=some (.int .u8 (dB 0)):=by rw [cell_of_row _ _ _ _ _ _ P0.out]; rfl
 have p11:w2.cell? ⟨w.heap.size,11,none⟩=some (.int .i8 (nB 1)):=by rw [cell_of_row _ _ _ _ _ _ P0.out]; rfl
 have p12:w2.cell? ⟨w.heap.size,12,none⟩=some (.int .u8 (dB 1)):=by rw [cell_of_row _ _ _ _ _ _ P0.out]; rfl
 have p13:w2.cell? ⟨w.heap.size,13,none⟩=some (.int .i8 (nB 2)):=by rw [cell_of_row _ _ _ _ _ _ P0.out]; rfl
 have p14:w2.cell? ⟨w.heap.size,14,none⟩=some (.int .u8 (dB 2)):=by rw [cell_of_row _ _ _ _ _ _ P0.out]; rfl
 have p15:w2.cell? ⟨w.heap.size,15,none⟩=some (.int .i8 (nB 3)):=by rw [cell_of_row _ _ _ _ _ _ P0.out]; rfl
 have p16:w2.cell? ⟨w.heap.size,16,none⟩=some (.int .u8 (dB 3)):=by rw [cell_of_row _ _ _ _ _ _ P0.out]; rfl
 have q1:=BW.cell p1
 have q2:=BW.cell p2
 have q3:=BW.cell p3
 have q4:=BW.cell p4
 have q5:=BW.cell p5
 have q6:=BW.cell p6
 have q7:=BW.cell p7
 have q8:=BW.cell p8
 have q9:=BW.cell p9
 have q10:=BW.cell p10
 have q11:=BW.cell p11
 have q12:=BW.cell p12
 have q13:=BW.cell p13
 have q14:=BW.cell p14
 have q15:=BW.cell p15
 have q16:=BW.cell p16
 have hnon:Nonempty (BW w2):=⟨⟨w2,Below.refl _ _⟩⟩
 have I:Hid (Below w2.heap.size w2 w2.drew):=(Below.refl _ _).drew
 go_wp2_with fail
 clear p1 p2 p3 p4 p5 p6 p7 p8 p9 p10 p11 p12 p13 p14 p15 p16 P0
 refine RX.wp_region_readers 9 [(1,0),(1,1),(1,2),(1,4),(1,5),(1,6),(0,3),(0,7),(0,8),(0,9)] (fun w'=>∃ p:BW w2,w'=p.w) (by kernel_rfl) (by kernel_rfl) ?_ ?_
 ·exact ⟨⟨_,I.out⟩,rfl⟩
 iterate 6 (refine RX.walkR_read ?_; simp only [dsc_,dz_,tsc_,tz_]; go_big_quiet_step (fail); refine wpQuiet_nil ?_)
 clear hnon q1 q2 q3 q4 q5 q6 q7 q8 q9 q10 q11 q12 q13 q14 q15 q16
 refine RX.walkR_move ?_
 simp only [dsc_,dz_,tsc_,tz_]
 go_wp2_with fail
 refine Calls.mono (HA.out _ _ _ (B_2.out.drew)) ?_
 rintro e_ wa ⟨aa,ca,rfl,ra_,hb_⟩
 have Wa:Hid (Below w2.heap.size w2 wa):=(Below.refl w2.heap.size w2).drew.trans hb_
 have Ra:=Lib.hid ra_
 clear hb_ ra_ HA I
 go_wp2_with fail
 refine ⟨⟨⟨_,Wa.out⟩,rfl⟩,?_⟩
 refine RX.walkR_move ?_
 simp only [dsc_,dz_,tsc_,tz_]
 go_wp2_with fail
 refine Calls.mono (HB.out _ _ _ (B_2.out.trans (Wa.out.mono B_2.out.size))) ?_
 rintro e_ wb ⟨ab,cb,rfl,rb_,hb_⟩
 have Wb:=Lib.hid (Wa.out.trans (hb_.mono Wa.out.size))
 have Rb:=Lib.hid rb_
 replace Ra:=Lib.hid (Ra.out.below hb_ nr_)
 clear hb_ rb_ HB Wa
 have Bb:=Lib.hid (B_2.out.trans (Wb.out.mono B_2.out.size))
 go_wp2_with fail
 refine ⟨⟨⟨_,Wb.out⟩,rfl⟩,?_⟩
 replace Rp:=Lib.hid (Rp.out.below Wb.out nr_)
 refine RX.walkR_move ?_
 simp only [dsc_,dz_,tsc_,tz_]
 go_wp2_with fail
 refine ⟨⟨⟨_,Wb.out⟩,rfl⟩,?_⟩
 refine RX.walkR_move ?_
 simp only [dsc_,dz_,tsc_,tz_]
 go_wp2_with fail
 simp only [RX.walkR]
 clear B_2 Wb
 go_wp2_with fail
 refine Calls.mono (HSg.out _ _ _ _ _ Bb.out Rp.out Ra.out) ?_
 rintro e_ w3 ⟨rfl,hb_⟩
 have B_3:=Lib.hid (Bb.out.trans (hb_.mono Bb.out.size))
 replace Rp:=Lib.hid (Rp.out.below hb_ nr_)
 replace Ra:=Lib.hid (Ra.out.below hb_ nr_)
 replace Rb:=Lib.hid (Rb.out.below hb_ nr_)
 clear hb_ Bb HSg
 go_wp2_with fail
 refine Calls.mono (HCm.out _ _ _ _ _ _ _ B_3.out Rp.out Ra.out Rb.out) ?_
 rintro e_ w4 ⟨rfl,hb_⟩
 have B_4:=Lib.hid (B_3.out.trans (hb_.mono B_3.out.size))
 replace Rp:=Lib.hid (Rp.out.below hb_ nr_)
 replace Ra:=Lib.hid (Ra.out.below hb_ nr_)
 replace Rb:=Lib.hid (Rb.out.below hb_ nr_)
 clear hb_ B_3 HCm
 go_wp2_with fail
 refine Calls.mono (HAb.out _ _ _ _ _ B_4.out Rp.out Ra.out) ?_
 rintro e_ w5 ⟨am,cm,rfl,r_,hb_⟩
 have B_5:=Lib.hid (B_4.out.trans (hb_.mono B_4.out.size))
 replace Rp:=Lib.hid (Rp.out.below hb_ nr_)
 replace Ra:=Lib.hid (Ra.out.below hb_ nr_)
 replace Rb:=Lib.hid (Rb.out.below hb_ nr_)
 have Rm:=Lib.hid r_
 clear hb_ r_ B_4 HAb
 go_wp2_with fail
 refine Calls.mono (HU.out _ B_5.out) ?_
 rintro e_ w6 ⟨rfl,hb_⟩
 have B_6:=Lib.hid (B_5.out.trans (hb_.mono B_5.out.size))
 replace Rp:=Lib.hid (Rp.out.below hb_ nr_)
 replace Ra:=Lib.hid (Ra.out.below hb_ nr_)
 replace Rb:=Lib.hid (Rb.out.below hb_ nr_)
 replace Rm:=Lib.hid (Rm.out.below hb_ nr_)
 clear hb_ B_5 HU
 go_wp2_with fail
 refine Calls.mono (HV.out _ B_6.out) ?_
 rintro e_ w7 ⟨rfl,hb_⟩
 have B_7:=Lib.hid (B_6.out.trans (hb_.mono B_6.out.size))
 replace Rp:=Lib.hid (Rp.out.below hb_ nr_)
 replace Ra:=Lib.hid (Ra.out.below hb_ nr_)
 replace Rb:=Lib.hid (Rb.out.below hb_ nr_)
 replace Rm:=Lib.hid (Rm.out.below hb_ nr_)
 clear hb_ B_6 
 go_wp2_with fail
 refine Calls.mono (HC1.out _ _ _ _ _ B_7.out Ra.out Rb.out) ?_
 rintro e_ w8 ⟨ad,cd,rfl,r_,hb_⟩
 have B_8:=Lib.hid (B_7.out.trans (hb_.mono B_7.out.size))
 replace Rp:=Lib.hid (Rp.out.below hb_ nr_)
 replace Ra:=Lib.hid (Ra.out.below hb_ nr_)
 replace Rb:=Lib.hid (Rb.out.below hb_ nr_)
 replace Rm:=Lib.hid (Rm.out.below hb_ nr_)
 have Rd_:=Lib.hid r_
 clear hb_ r_ B_7 HC1 Rb
 go_wp2_with fail
 refine Calls.mono (HL1.out _ _ _ _ _ B_8.out Rp.out Ra.out) ?_
 rintro e_ w9 ⟨x1,ok1,rfl,hv_,hb_⟩
 have B_9:=Lib.hid (B_8.out.trans (hb_.mono B_8.out.size))
 replace Rp:=Lib.hid (Rp.out.below hb_ nr_)
 replace Ra:=Lib.hid (Ra.out.below hb_ nr_)
 replace Rm:=Lib.hid (Rm.out.below hb_ nr_)
 replace Rd_:=Lib.hid (Rd_.out.below hb_ nr_)
 have Hx1:=Lib.hid hv_
 clear hb_ hv_ B_8 HL1
 have hx1:ok1=true→(n1 != x1)=false:=fun h=>by rw [Hx1.out h]; exact bne_self_eq_false _
 have Hx1':=Lib.hid hx1
 clear hx1 Hx1
 cases ok1
 all_goals
  first | have e1:=Hx1'.out rfl | skip
  clear Hx1'
  go_wp2_with fail
  refine Calls.mono (HL2.out _ _ _ _ _ B_9.out Rp.out Rd_.out) ?_
  rintro e_ w10 ⟨x2,ok2,rfl,hv_,hb_⟩
  have B_10:=Lib.hid (B_9.out.trans (hb_.mono B_9.out.size))
  replace Rp:=Lib.hid (Rp.out.below hb_ nr_)
  replace Ra:=Lib.hid (Ra.out.below hb_ nr_)
  replace Rm:=Lib.hid (Rm.out.below hb_ nr_)
  replace Rd_:=Lib.hid (Rd_.out.below hb_ nr_)
  have Hx2:=Lib.hid hv_
  clear hb_ hv_ B_9 HL2 Rd_
  have hx2:ok2=true→(n2 != x2)=false:=fun h=>by rw [Hx2.out h]; exact bne_self_eq_false _
  have Hx2':=Lib.hid hx2
  clear hx2 Hx2
  cases ok2
  all_goals
   first | have e2:=Hx2'.out rfl | skip
   clear Hx2'
   go_wp2_with fail
   refine Calls.mono (HV.out _ B_10.out) ?_
   rintro e_ w11 ⟨rfl,hb_⟩
   have B_11:=Lib.hid (B_10.out.trans (hb_.mono B_10.out.size))
   replace Rp:=Lib.hid (Rp.out.below hb_ nr_)
   replace Ra:=Lib.hid (Ra.out.below hb_ nr_)
   replace Rm:=Lib.hid (Rm.out.below hb_ nr_)
   clear hb_ B_10 
   go_wp2_with fail
   refine Calls.mono (HO.out _ B_11.out) ?_
   rintro e_ w12 ⟨rfl,hb_⟩
   have B_12:=Lib.hid (B_11.out.trans (hb_.mono B_11.out.size))
   replace Rp:=Lib.hid (Rp.out.below hb_ nr_)
   replace Ra:=Lib.hid (Ra.out.below hb_ nr_)
   replace Rm:=Lib.hid (Rm.out.below hb_ nr_)
   clear hb_ B_11 
   go_wp2_with fail
   refine Calls.mono (HC2.out _ _ _ _ _ B_12.out Ra.out Ra.out) ?_
   rintro e_ w13 ⟨ak,ck,rfl,r_,hb_⟩
   have B_13:=Lib.hid (B_12.out.trans (hb_.mono B_12.out.size))
   replace Rp:=Lib.hid (Rp.out.below hb_ nr_)
   replace Ra:=Lib.hid (Ra.out.below hb_ nr_)
   replace Rm:=Lib.hid (Rm.out.below hb_ nr_)
   have Rk:=Lib.hid r_
   clear hb_ r_ B_12 
   by_cases hneg:n1 < 0
   ·rw [Hneg.out hneg] at Rm
    go_wp2_with fail
    refine Calls.mono (HE.out _ _ _ _ _ _ Hlm.out Rm.out Rk.out) ?_
    rintro e_ w14 ⟨rfl,hb_⟩
    have B_14:=Lib.hid (B_13.out.trans (hb_.mono B_13.out.size))
    replace Rp:=Lib.hid (Rp.out.below hb_ nr_)
    replace Ra:=Lib.hid (Ra.out.below hb_ nr_)
    replace Rm:=Lib.hid (Rm.out.below hb_ nr_)
    replace Rk:=Lib.hid (Rk.out.below hb_ nr_)
    clear hb_ B_13 
    go_wp2_with fail
    go_ret
    exact ⟨rfl,B_14.out⟩
   ·rw [Hnon.out (by omega)] at Rm
    have hneg2:0≤n1:=by omega
    go_wp2_with fail
    refine Calls.mono (HE.out _ _ _ _ _ _ Hla.out Rm.out Ra.out) ?_
    rintro e_ w14 ⟨rfl,hb_⟩
    have B_14:=Lib.hid (B_13.out.trans (hb_.mono B_13.out.size))
    replace Rp:=Lib.hid (Rp.out.below hb_ nr_)
    replace Ra:=Lib.hid (Ra.out.below hb_ nr_)
    replace Rm:=Lib.hid (Rm.out.below hb_ nr_)
    replace Rk:=Lib.hid (Rk.out.below hb_ nr_)
    clear hb_ B_13 
    go_wp2_with fail
    go_ret
    exact ⟨rfl,B_14.out⟩
end Go.Proofs.YtlomhfknmhaboaaGreatDoor

namespace Go.Proofs.YtlomhfknmhaboaaGreatDoor
open Go.ChangeShapes Go.WideShapes Go.ChangeAt Go.RowKit
set_option maxRecDepth 100000 in
theorem sizeSigns_lifted (os:Os) (started:os.Started) (H:Type) (enc:TypeId×Value→H) :
  ReturnsInHanded {} Tryz.checked os 6 .any (fun w args=>(Rows.sizeSignsSpec.pre enc Tryz.prog Tryz.f6 [] false w args∧laidMetH Tryz.prog laidL w)∧sizedMet enc Tryz.prog Tryz.f6 (OpenSpec.ofChange Rows.sizeSignsSpec) false w args)
   (Rows.sizeSignsSpec.post enc Tryz.prog Tryz.f6 false true false false):=by
 refine returnsInHanded_of_change_and (C:=Tryz.checked) (X:=fun w _=>laidMetH Tryz.prog laidL w) (fun _ _ _ hh h=>h.of_heap hh) own started (by kernel_rfl) Tryz.func6
  (ChangeSpec.witness_shaped (enc:=enc) (C:=Tryz.checked) (os:=os) (X:=fun w _=>laidMetH Tryz.prog laidL w) false (World.doorLaid Tryz.prog 400 os) #[.agg #[.int .u8 0,.int .i8 0,.int .u8 0,.int .i8 0,.int .u8 0,.int .i8 0,.int .u8 0,.int .i8 0,.int .u8 0,.int .i8 0,.int .u8 0,.int .i8 0,.int .u8 0,.int .i8 0,.int .u8 0,.int .i8 0,.int .u8 0]] 8 rfl (World.shaped_of_RefB (by kernel_rfl) (by kernel_rfl)) (by kernel_rfl) (by kernel_rfl) (by kernel_rfl) (door_met os _)) ?_
 intro W base args ds gs before hval0 hW _ _ hL _
 have hval:∀ (j:Nat) t v,Tryz.f6.params[j]?=some t→args[j]?=some v→Value.okWide Tryz.prog W .any base t v:=hval0
 have hW':=hW
 obtain ⟨p,q,hA0,hV,rfl,hfz,hnd⟩:=hW
 have hA:DataW.TrodAll enc Tryz.prog W 0 (fun _=>true) true Tryz.f6.params.toList args.toList ds p:=hA0
 rw [Tryz.params6] at hA hval
 obtain ⟨v0,vs0,d0,ds0,p0,q0,hargs,rfl,rfl,h0,r0⟩:=trodAll_cons hA
 obtain ⟨rfl,rfl,rfl⟩:=trodAll_nil r0
 obtain rfl:args = #[v0]:=by cases args; simp_all
 obtain ⟨rfl,rfl⟩:=trodVars_none hV
 have k0:=h0
 have lt0:∀ x∈p0,x.block < W.heap.size:=by obtain ⟨m,hm⟩:=k0; exact DataW.trod_lt m _ _ _ hm
 obtain ⟨pn,nA,dA,nB,dB,rfl,hpn,hnA,hdA,hnB,hdB⟩:=open_pair (hval 0 50 v0 rfl rfl) h0
 clear hA0 hval0
 refine (lawSigns W pn nA dA nB dB hpn hnA hdA hnB hdB (laid_of hL)).mono fun e W' ⟨he,bel⟩=>?_
 subst he
 exact ⟨_,rfl,_,_,_,[],_,[],hW',trodAll_mk1 (shut_bool Tryz.underlying4 _),(trodAll_cons_mk (Below.trod laidOut (by kernel_rfl) (of_decide_eq_true (by kernel_rfl)) k0 bel lt0) trodAll_mk0),rfl,bel.frame _,fun h=>by cases h⟩
theorem sizeSigns_row:Rows.SizeSignsSaid :=
 OpenClaim.holds_of_wide 6 Tryz.f6 rfl rfl rfl rfl rfl rfl rfl ⟨rfl,rfl,rfl,rfl,rfl⟩ rfl rfl rfl rfl rfl (by kernel_rfl) Tryz.func6 (by kernel_rfl)
  (of_decide_eq_true (by kernel_rfl)) (by unfold Func.isWrapper; first | (rw [if_pos (by decide +kernel)]; kernel_rfl) | (rw [if_neg (by decide +kernel)]; exact ⟨rfl,rfl⟩))
  (fun os started H enc _=>sizeSigns_lifted os started H enc)
theorem sizeSigns_holds:Rows.SizeSignsCardSaid :=
 Claim7.holds_tied_plain_at .later [] [.data, .data, .data, .sentinel, .sentinel] true (true, "9d0d2a1671fb7254a0d6cd7f535de0290e91414b206b40d6b5ae62423c22e5c1") true
  sizeSigns_row (fun _ h=>by cases h) (by kernel_rfl) (fun _ h=>by cases h) sizeSigns_row_tie rfl ⟨rfl,rfl⟩ (by kernel_rfl) rfl
  (fun f fn hf hfn=>by
   obtain rfl : f = 6 := Option.some.inj ((show Tryz.prog.funcNamed "schisma/schismalaw13.SizeSigns" = some 6 by kernel_rfl).symm.trans hf) |>.symm
   obtain rfl:fn=Tryz.f6:=(Option.some.inj (Tryz.func6.symm.trans hfn)).symm
   exact ⟨by kernel_rfl,fun j t ht=>by
    rw [Tryz.params6] at ht
    have hm:t∈[50]:=by simpa using Array.mem_of_getElem? ht
    have hall:([50].all fun u => !Tryz.prog.wantsStandIn u)=true:=by kernel_rfl
    exact (show Tryz.prog.wantsStandIn t=false by simpa using List.all_eq_true.1 hall t hm)⟩)
  (by kernel_rfl)
#print axioms sizeSigns_holds
end Go.Proofs.YtlomhfknmhaboaaGreatDoor
