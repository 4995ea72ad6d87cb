/- Lemmas for the laws of this seat, part 5. -/
import Derived.Test.YtnjedhgcfeoemaaGreatDoorRows
import Derived.LoopN
import Derived.Great.BuildSlice
import Derived.Deep.MidRow
import Derived.ProofKit
import Derived.OpenShut
import Derived.ShutString
import Derived.ChangeOld
import Derived.Test.YtnjedhgcfeoemaaGreatDoorWj4
set_option maxRecDepth 100000
set_option maxHeartbeats 16000000
namespace Go.Proofs.YtnjedhgcfeoemaaGreatDoor
open Go.RowKit
theorem Zil{k:Nat}{x y:Rat}(h:x≤y):scE k x≤scE k y:=by
 unfold scE Zpn;have h1:x*((1200*10^k:Nat):Rat)≤y*((1200*10^k:Nat):Rat):=Rat.mul_le_mul_of_nonneg_right h (by exact_mod_cast Nat.zero_le _)
 exact Rat.floor_monotone (Rat.add_le_add_right.2 h1)
theorem Zj4{k:Nat}{x y:Rat}:Zdc k x y=true↔scE k x=scE k y:=by
 unfold Zdc;constructor
 ·intro h;have h1:=eq_of_beq h;refine Zi3 ?_;exact ByteArray.ext (Array.ext' (by simpa [ByteArray.toList_eq] using h1))
 ·intro h;rw[h];exact beq_self_eq_true _
theorem Zq8{k n m:Nat}{ps:List Int}{l:List Rat}(h:∀ p∈ps,∃ q:Nat,p=q∧(q=2∨q∈Yt))(_hn:n≤1000)(hm:m≤1000)(h1:Zdc k (loE n ps l) (hiE n ps l)=true)(hnm:n≤m):
  scE k (loE m ps l)=scE k (loE n ps l)∧Zdc k (loE m ps l) (hiE m ps l)=true:=by
 obtain⟨u1,u2⟩:=Zi8 (n:=n) (l:=l) h (m-n) (by omega)
 rw[show n+(m-n)=m by omega] at u1 u2
 have h2:=Zj4.1 h1;have h3:=Zsu m ps l;have a1:=Zil (k:=k) u1;have a2:=Zil (k:=k) h3;have a3:=Zil (k:=k) u2;refine⟨by omega,Zj4.2 (by omega)⟩
theorem Zy0{k n m:Nat}{ps:List Int}{l:List Rat}(h:∀ p∈ps,∃ q:Nat,p=q∧(q=2∨q∈Yt))(hn:n≤1000)(hm:m≤1000)(h1:Zdc k (loE n ps l) (hiE n ps l)=true)(h2:Zdc k (loE m ps l) (hiE m ps l)=true):
  scE k (loE m ps l)=scE k (loE n ps l):=by
 rcases Nat.le_total n m with h3|h3
 ·exact(Zq8 h hn hm h1 h3).1
 ·exact(Zq8 h hm hn h2 h3).1.symm
/-! The numbers. -/
def kP:List Int:=[2,3]
def kA:List Rat:=[-19,12]
def kB:List Rat:=[-1,1]
theorem Zsg:∀ p∈kP,∃ q:Nat,p=q∧(q=2∨q∈Yt):=by
 intro p hp;simp only[kP,List.mem_cons,List.not_mem_nil,or_false] at hp;rcases hp with rfl|rfl
 ·exact⟨2,rfl,.inl rfl⟩
 ·exact⟨3,rfl,.inr (by decide)⟩
theorem Zwu:∀ p∈kP,p∈Zjn:=by decide
theorem Qar:lgN 3 3=12:=by decide +kernel
theorem Zsf:Zcb 9 kP kA=1:=by decide +kernel
theorem Zzg:Zcb 8 kP kA=0:=by decide +kernel
theorem Qaq:loE 7 kP kA = -1/16:=by decide +kernel
theorem Qas:hiE 7 kP kA=1/32:=by decide +kernel
theorem Zwt:Zdc 3 (loE 30 kP kB) (hiE 30 kP kB)=true:=by decide +kernel
theorem Zxv:scE 3 (loE 30 kP kB)=701955:=by decide +kernel
theorem Zzi:Zbq 9 kP kA=[(2,9,dec 512),(3,9,dec 811)]:=by
 have h1:lgN 2 9=512:=by decide +kernel
 have h2:lgN 3 9=811:=by decide +kernel
 show List.filterMap _ [((2:Int),(-19:Rat)),(3,12)]=_
 rw[List.filterMap_cons,List.filterMap_cons];rw[if_neg (by decide +kernel),if_neg (by decide +kernel),h1,h2]
 rfl
theorem Zxu{n:Nat}(h:Zcc (fun b=>Zcb b kP kA != 0) n):n=9:=by
 refine Zcc.uniq (T:=fun b=>Zcb b kP kA != 0) (fun b hb hx=>?_) h ⟨?_,.inr ?_,by decide⟩
 ·show (Zcb (b+1) kP kA != 0)=true
  rw[bne_iff_ne];refine Zs4 (d:=1) Zwu (by omega) ?_
  have hx':(Zcb b kP kA != 0)=true:=hx
  rwa [bne_iff_ne] at hx'
 ·show (Zcb 9 kP kA != 0)=true
  rw[Zsf];rfl
 ·show (Zcb 8 kP kA != 0)=false
  rw[Zzg];rfl
theorem Zzh{n:Nat}(h:Zcc (fun b=>Zdc 3 (loE b kP kB) (hiE b kP kB)) n):scE 3 (loE n kP kB)=701955:=by
 rw[Zy0 Zsg (show 30≤1000 by decide) h.le Zwt h.at_,Zxv]
theorem Qat:Zdc 3 (loE 1000 kP kB) (hiE 1000 kP kB)=true:=(Zq8 Zsg (by decide) (by decide) Zwt (by decide)).2
theorem Zzf:Zcb 1000 kP kA≠0:=Zs4 (n:=9) (d:=991) Zwu (by decide) (by rw[Zsf];decide)
theorem Zma(w:World)(n:Int)(d:Nat)(hn : -1000≤n)(hn2:n≤1000)(hd:0<d)(hd2:d≤1000)(L:Qb w):
  Kc Tryz.prog 65 #[.int .i64 n,.int .i64 d] w (fr (mkRat n d)):=by
 have hz:∀ x:Nat,x≤2000→Num x:=fun x hx=>Zf5 (Nat.lt_of_le_of_lt hx (Nat.lt_of_lt_of_le (show 2000<2^11 by decide) (Nat.pow_le_pow_right (by decide) (by rw[k10];decide))))
 have Hb0:=hd_ ((Below.refl w.heap.size w).alloc nr_ (.cells #[.string ⟨#[]⟩,.string ⟨#[]⟩] 42));have Hnew:Hid ((w.alloc (.cells #[.string ⟨#[]⟩,.string ⟨#[]⟩] 42)).heap[w.heap.size]?=some (.cells #[.string ⟨#[]⟩,.string ⟨#[]⟩] 42 (0,0))):=heap_alloc_new w _;have HO:=hd_ (Znv _ n d (by omega) (by omega) (by omega) (hz _ (by omega)) (hz _ (by omega)) hd (hz _ (by omega)) (hz _ (by omega)) (L.below Hb0.out))
 rw[Zcw n d (by omega)] at HO
 clear L hz;generalize mkRat n d=q at *
 unfold Kc;unfold fr fv at HO ⊢;go_enter Tryz.func65,Tryz.ntmps65
 go_wp2_with fail
 generalize w.alloc (.cells #[.string ⟨#[]⟩,.string ⟨#[]⟩] 42)=W0 at *
 refine cm_ HO.out ?_;rintro e w1 ⟨rfl,hb⟩;have hcell:=Kk Hnew.out hb;have hcell2:=Kl hcell (.cells #[.string (itx q.num),.string (dec q.den)] 42);have B2:=hd_ ((Hb0.out.trans (hb.mono Hb0.out.size)).alloc (Nat.le_trans Hb0.out.size hb.size) (.cells #[.string (itx q.num),.string (dec q.den)] 42));obtain⟨k0,k1,f0,f1⟩:=Ka hcell2;clear hb HO Hnew Hb0 hcell hcell2;go_wp2;obtain⟨c0,c1,hb3⟩:=Kq (B:=w.heap.size) (.string (itx q.num)) (.string (dec q.den)) k0 k1 nr_ B2.out;generalize ((w1.alloc (.cells #[.string (itx q.num),.string (dec q.den)] 42)).setCell ⟨w.heap.size,0,none⟩ (.string (itx q.num))).setCell ⟨w.heap.size,1,none⟩ (.string (dec q.den))=w9 at *
 exact bodyPost_ret (v := .agg #[.string (itx q.num),.string (dec q.den)]) (by simp[results,Tryz.results65,go_sem,c0,c1]) rfl ⟨rfl,hb3⟩
theorem Zn7 : (Tryz.prog.fieldsOf 27).toList.map (fun f => (f.name, f.type, f.offset)) = [("Prime", 3, 0), ("Bits", 3, 1), ("Low", 25, 2)] := by kernel_rfl
theorem Zq1:Tryz.prog.stoodInHeld 27=false:=by kernel_rfl
theorem Zx0:Tryz.prog.eqGuardType Tryz.prog.depth 27=false:=by kernel_rfl
theorem Zgj (W : World) (d : Nat) (p n p' n' : Int) (s s' : ByteArray) (fs : List Field) (h : fs.map (fun f => (f.name, f.type, f.offset)) = [("Prime", 3, 0), ("Bits", 3, 1), ("Low", 25, 2)]) :
  (Op.eqFields (d+1) #[.int .i64 p,.int .i64 n,.string s] #[.int .i64 p',.int .i64 n',.string s'] fs).run Tryz.prog W = .ok (p==p'&&n==n'&&s.toList==s'.toList) W:=by
 obtain⟨f,g,k,rfl⟩:∃ f g k,fs=[f,g,k]:=by
  have hl:=congrArg List.length h;rw[List.length_map] at hl;cases fs with
  | nil=>simp at hl
  | cons f fs =>
   cases fs with
   | nil=>simp at hl
   | cons g fs =>
    cases fs with
    | nil=>simp at hl
    | cons k fs =>
     cases fs with
     | nil=>exact⟨f,g,k,rfl⟩
     | cons x fs=>simp at hl
 simp only[List.map_cons,List.map_nil,List.cons.injEq,Prod.mk.injEq,and_true] at h;obtain⟨⟨h1,h2,h3⟩,⟨h4,h5,h6⟩,h7,h8,h9⟩:=h;have hu:=Tryz.underlying25;have hv:=Tryz.underlying3;simp[Op.eqFields,h1,h2,h3,h4,h5,h6,h7,h8,h9,go_sem,hu,hv]
 by_cases q1:p=p'<;>by_cases q2:n=n'<;>by_cases q3:s.toList=s'.toList<;>simp[q1,q2,q3]
theorem Znm:Tryz.prog.underlying 27=some (.struct (Tryz.prog.fieldsOf 27)):=by
 have h:=Tryz.underlying27;unfold Program.fieldsOf;rw[h]
theorem Zss(W:World)(p n p' n':Int)(s s':ByteArray):
  (binOp .eql 27 (.agg #[.int .i64 p,.int .i64 n,.string s]) (.agg #[.int .i64 p',.int .i64 n',.string s'])).run Tryz.prog W = .ok (.bool (p==p'&&n==n'&&s.toList==s'.toList)) W:=by
 rw[run_eql_struct,show (10000:Nat)=9998+1+1 from rfl,run_equalIn_agg (ht:=Znm) (hp:=Zq1),Zgj W _ p n p' n' s s' _ Zn7]
 rfl
theorem Zgh(W:World)(op:BinOp)(x y:Operand)(xs ys:Array Value):(eqGuard op 27 x y (.agg xs) (.agg ys)).run Tryz.prog W = .ok () W:=run_eqGuard_agg W op _ x y xs ys Zx0
theorem Zl3{C:World→Prop}{K:Act→Prop}{a:Act}{o:Oper}(x y:Operand)(r:TypeId)(p n p' n':Int)(s s':ByteArray)(h:o.op = .binOp .eql 27 x y r)(hx:a.eval x = .agg #[.int .i64 p,.int .i64 n,.string s])(hy:a.eval y = .agg #[.int .i64 p',.int .i64 n',.string s'])
  (hk:K (a.put o.dst (.bool (p==p'&&n==n'&&s.toList==s'.toList)))):o.quiet Tryz.prog a C K :=
 ⟨_,fun w _=>by
  unfold Oper.quietAt execOp;rw[h];simp only[Sem.run_bind,hx,hy,Zgh,Zss,Result.andThen_ok,Sem.run_pure];exact⟨rfl,rfl⟩,hk⟩
structure Qa9 (w:World) (ps:List Int) (a0 a1 a2:Option Addr) (l1 l2:Zeq):Prop where
 rp:Rd w a0 (Vc ps)
 hi:Zjq ps
 hl:ps.length≤1000
 r1:Rd w a1 (Qs l1)
 r2:Rd w a2 (Qs l2)
 n1:l1.length≤1000
 n2:l2.length≤1000
 s1:Ssz l1
 s2:Ssz l2
 L:Qb w
theorem Qa9.all{w W:World}{ps:List Int}{a0 a1 a2:Option Addr}{l1 l2:Zeq}(H:Qa9 w ps a0 a1 a2 l1 l2)(hW:Below w.heap.size w W){g c0 c1 c2:Nat}(hg:W.heap[g]?=some (.cells #[.slice a1 l1.length c1,.slice a2 l2.length c2] 38 (0,0))):
  Kc Tryz.prog 107 #[.slice a0 ps.length c0,.slice (some ⟨g,0,none⟩) 2 2] W (.int .i64 (Zkl ps [l1,l2])) :=
 Zcp W a0 _ c0 2 ps [l1,l2] (H.rp.below hW nr_) H.hi (Nat.le_trans H.hl (by decide)) (Zl0 hg (H.r1.below hW nr_) (H.r2.below hW nr_)) (by simp)
  (by intro l hl;simp only[List.mem_cons,List.not_mem_nil,or_false] at hl;rcases hl with rfl | rfl;exact⟨Nat.le_trans H.n1 (by decide),H.s1⟩;exact⟨Nat.le_trans H.n2 (by decide),H.s2⟩) (H.L.below hW)
theorem Zvh(x y:Int×Int×ByteArray):(x.1==y.1&&x.2.1==y.2.1&&x.2.2.toList==y.2.2.toList)=decide (x=y):=by
 by_cases h:x=y
 ·subst h;simp
 ·rw[decide_eq_false h,Bool.eq_false_iff];intro hc;rw[Bool.and_eq_true,Bool.and_eq_true] at hc;exact h (Prod.ext (eq_of_beq hc.1.1) (Prod.ext (eq_of_beq hc.1.2) (toList_inj hc.2)))
theorem Zru(W:World)(p n p' n':Int)(s s':ByteArray):
  (binOp .neq 27 (.agg #[.int .i64 p,.int .i64 n,.string s]) (.agg #[.int .i64 p',.int .i64 n',.string s'])).run Tryz.prog W = .ok (.bool (!(p==p'&&n==n'&&s.toList==s'.toList))) W:=by
 rw[run_neq_struct,show (10000:Nat)=9998+1+1 from rfl,run_equalIn_agg (ht:=Znm) (hp:=Zq1),Zgj W _ p n p' n' s s' _ Zn7]
 rfl
theorem Zf3{C:World→Prop}{K:Act→Prop}{a:Act}{o:Oper}(x y:Operand)(r:TypeId)(p q:Int×Int×ByteArray)(h:o.op = .binOp .neq 27 x y r)(hx:a.eval x = .agg #[.int .i64 p.1,.int .i64 p.2.1,.string p.2.2])(hy:a.eval y = .agg #[.int .i64 q.1,.int .i64 q.2.1,.string q.2.2])
  (hk:K (a.put o.dst (.bool (!decide (p=q))))):o.quiet Tryz.prog a C K :=
 ⟨_,fun w _=>by
  unfold Oper.quietAt execOp;rw[h];simp only[Sem.run_bind,hx,hy,Zgh,Zru,Result.andThen_ok,Sem.run_pure,Zvh];exact⟨rfl,rfl⟩,hk⟩
theorem Zc2(l:List (Int×Int×ByteArray))(k:Nat)(h:k<l.length):
  (Qq l)[k*3]?=some (.int .i64 l[k].1)∧(Qq l)[k*3+1]?=some (.int .i64 l[k].2.1)∧(Qq l)[k*3+2]?=some (.string l[k].2.2):=by
 induction l generalizing k with
 | nil=>simp at h
 | cons x l ih =>
  have e:Qq (x::l) = .int .i64 x.1 :: .int .i64 x.2.1 :: .string x.2.2::Qq l:=by simp[Qq]
  rw[e];rcases k with _|k
  ·exact⟨rfl,rfl,rfl⟩
  ·obtain⟨h1,h2,h3⟩:=ih k (by simpa using h)
   exact⟨by rw[show (k+1)*3=k*3+3 by omega];exact h1,by rw[show (k+1)*3+1=k*3+1+3 by omega];exact h2,by rw[show (k+1)*3+2=k*3+2+3 by omega];exact h3⟩
theorem Zj6{w wr:World}{a:Option Addr}{l:List (Int×Int×ByteArray)}{B:Nat}(h:Rd w a (Qq l))(hb:Below B w wr)(hB:w.heap.size≤B)(k:Nat)(hk:k<l.length):
  ∃ b off,a=some ⟨b,off,none⟩∧wr.cell? ⟨b,off+k*3,none⟩=some (.int .i64 l[k].1)∧wr.cell? ⟨b,off+k*3+1,none⟩=some (.int .i64 l[k].2.1)∧wr.cell? ⟨b,off+k*3+2,none⟩=some (.string l[k].2.2):=by
 obtain⟨b,off,rfl,hbl,hcells⟩:=h.open (by rw[Zb5];omega)
 obtain⟨h1,h2,h3⟩:=Zc2 l k hk;refine⟨b,off,rfl,?_,?_,?_⟩
 ·rw[hb.cell (p:=⟨b,off+k*3,none⟩) (Nat.lt_of_lt_of_le hbl hB)];exact hcells _ _ h1
 ·rw[hb.cell (p:=⟨b,off+k*3+1,none⟩) (Nat.lt_of_lt_of_le hbl hB)];exact hcells _ _ h2
 ·rw[hb.cell (p:=⟨b,off+k*3+2,none⟩) (Nat.lt_of_lt_of_le hbl hB)];exact hcells _ _ h3
theorem Zqf(w:World)(a1 a2:Option Addr)(c1 c2:Nat)(la lb:List (Int×Int×ByteArray))(r1:Rd w a1 (Qq la))(r2:Rd w a2 (Qq lb))(hbig:la.length≤1000000)(hbig2:lb.length≤1000000):
  Kc Tryz.prog 91 #[.slice a1 la.length c1,.slice a2 lb.length c2] w (.bool (decide (la=lb))):=by
 unfold Kc
 by_cases hl:la.length=lb.length
 ·have R1:=hd_ r1;have R2:=hd_ r2;have Hyes:Hid (∀ k,(∀ j (h1:j<la.length) (h2:j<lb.length),j<k→la[j]=lb[j])→k=la.length→la=lb):=fun k h hk=>List.ext_getElem hl fun i h1 h2=>h i h1 h2 (by omega)
  have Hno:Hid (∀ k (h1:k<la.length) (h2:k<lb.length),la[k]≠lb[k]→¬ la=lb):=fun k h1 h2 hne he=>hne (by subst he;rfl)
  obtain⟨n,hn⟩:∃ n,la.length=n:=⟨_,rfl⟩;have hm:lb.length=n:=hl.symm.trans hn;rw[hn] at hbig;rw[hn,hm];have Hn:=hd_ hn;have Hm:=hd_ hm;clear hl r1 r2 hn hm hbig2;go_enter Tryz.func91,Tryz.ntmps91
  go_wp2_with fail
  go_loopw [13] (fun i wr=>∃ k:Nat,k≤n∧i = .int .i64 k∧Hid (∀ j (h1:j<la.length) (h2:j<lb.length),j<k→la[j]=lb[j])∧Hid (Below w.heap.size w wr)) (fun i _=>n-(intOf i).toNat)
  case atStart=>exact⟨0,Nat.zero_le _,rfl,fun j _ _ hj=>absurd hj (Nat.not_lt_zero _),Below.refl _ _⟩
  case round =>
   obtain⟨k,hk,rfl,Hp,B⟩:=hrel
   by_cases hlt:k<n
   ·have hlt':(k:Int)<n:=by omega
    have h1:k<la.length:=by rw[Hn.out];exact hlt
    have h2:k<lb.length:=by rw[Hm.out];exact hlt
    obtain⟨b,off,rfl,x0,x1,x2⟩:=Zj6 R1.out B.out nr_ k h1;obtain⟨b',off',rfl,y0,y1,y2⟩:=Zj6 R2.out B.out nr_ k h2;have Hp':Hid (la[k]=lb[k]→∀ j (h1:j<la.length) (h2:j<lb.length),j<k+1→la[j]=lb[j]):=fun he j g1 g2 hj=>by
     rcases Nat.lt_or_ge j k with h|h
     ·exact Hp.out j g1 g2 h
     ·have e:j=k:=by omega
      subst e;exact he
    have Hnk:=hd_ (Hno.out k h1 h2);clear Hp;generalize la[k]=p at *
    generalize lb[k]=q at *
    have q0:=cell_regrown x0;have q1:=cell_regrown x1;have q2:=cell_regrown x2;have q3:=cell_regrown y0;have q4:=cell_regrown y1;have q5:=cell_regrown y2;have HK:=hd_ hlt
    go_wp2_with fail
    clear x0 x1 x2 y0 y1 y2;refine wp_region_quiet_below (by kernel_rfl) (by kernel_rfl) ?_
    repeat (first | go_big_quiet_step (fail) | quiet_step (fail))
    refine BigFrame.wpQuiet_want rfl fun K hK=>Zf3 _ _ _ p q rfl rfl rfl (hK _ ?_)
    refine wpQuiet_nil ?_;intro w6 hw6;obtain⟨⟨dq,osq⟩,rfl⟩:=hw6;have B6:=hd_ (B.out.trans ((below_regrown wr dq osq).mono B.out.size));clear q0 q1 q2 q3 q4 q5 B;generalize Go.Sort.grow (redrawn wr dq) osq=w6 at *
    by_cases hpq:p=q
    ·rw[decide_eq_true hpq];have Hq:=hd_ (Hp'.out hpq);clear hpq Hp' Hnk
     go_wp2_with fail
     go_roundw
     case rel=>exact⟨k+1,HK.out,by go_num,Hq,B6⟩
     case measure=>simp[intOf];omega
    ·rw[decide_eq_false hpq];have Hz:Hid (decide (la=lb)=false):=decide_eq_false (Hnk.out hpq);clear hpq Hp' Hnk
     go_wp2_with fail
     go_ret;exact⟨by rw[Hz.out];rfl,B6.out⟩
   ·have hlt':¬ (k:Int)<n:=by omega
    have Hz:Hid (decide (la=lb)=true):=decide_eq_true (Hyes.out k Hp.out (by rw[Hn.out];omega))
    clear Hp
    go_wp2_with fail
    go_ret;exact⟨by rw[Hz.out];rfl,B.out⟩
 ·have Hz:Hid (decide (la=lb)=false):=decide_eq_false fun h=>hl (by rw[h])
  have hne:((la.length:Int)==lb.length)=false:=by rw[beq_eq_false_iff_ne];omega
  clear r1 r2 hl;generalize la.length=n at *
  generalize lb.length=m at *
  go_enter Tryz.func91,Tryz.ntmps91
  go_wp2_with fail
  go_ret;exact⟨by rw[Hz.out];rfl,Below.refl _ _⟩
theorem Zw7(w:World)(x y:Array Value)(t:TypeId):
  ((w.alloc (.cells x t)).alloc (.cells y t)).heap[w.heap.size]?=some (.cells x t (0,0))∧((w.alloc (.cells x t)).alloc (.cells y t)).heap[w.heap.size+1]?=some (.cells y t (0,0))∧Below w.heap.size w ((w.alloc (.cells x t)).alloc (.cells y t)):=by
 have h1:=heap_alloc_new w (.cells x t);have h2:=heap_alloc_new (w.alloc (.cells x t)) (.cells y t);have e1:(w.alloc (.cells x t)).heap.size=w.heap.size+1:=by simp
 refine⟨by rw[((Below.refl (w.alloc (.cells x t)).heap.size _).alloc nr_ _).block _ (lt_of_block h1)];exact h1,?_,((Below.refl _ _).alloc nr_ _).alloc (by simp) _⟩
 rw[e1] at h2;exact h2
end Go.Proofs.YtnjedhgcfeoemaaGreatDoor

namespace Go.Proofs.YtnjedhgcfeoemaaGreatDoor
open Go.ChangeShapes Go.WideShapes Go.ChangeAt Go.RowKit Go.Joins
theorem Zxe{w:World}{a:Option Addr}{l:List (Int×Int×ByteArray)}(h:RdK w 3 a (l.map fun q=>[.int .i64 q.1,.int .i64 q.2.1,.string q.2.2])):Rd w a (Qq l):=by
 rcases h with h|⟨b,off,rfl,hb,hc⟩
 ·left;have:l=[]:=by simpa using h
  rw[this];rfl
 ·refine .inr ⟨b,off,rfl,hb,fun i v hi=>?_⟩
  have hil:=(List.getElem?_eq_some_iff.1 hi).1;rw[Zb5] at hil;obtain⟨j,hj⟩:∃ j,i=j*3∨i=j*3+1∨i=j*3+2:=⟨i/3,by omega⟩
  have hk:j<l.length:=by omega
  obtain⟨g0,g1,g2⟩:=Zc2 l j hk;rcases hj with rfl|rfl|rfl
  ·have h0:=hc j (by rw[List.length_map];exact hk) 0 (by decide)
   rw[g0] at hi;rw[Nat.add_zero,List.getElem_map] at h0;rw[h0,← hi];rfl
  ·have h0:=hc j (by rw[List.length_map];exact hk) 1 (by decide)
   rw[g1] at hi;rw[List.getElem_map] at h0;rw[← Nat.add_assoc,h0,← hi];rfl
  ·have h0:=hc j (by rw[List.length_map];exact hk) 2 (by decide)
   rw[g2] at hi;rw[List.getElem_map] at h0;rw[← Nat.add_assoc,h0,← hi];rfl
theorem Ztd:Tryz.prog.cellsOf 51=3:=by kernel_rfl
theorem Ztc:Tryz.prog.cellsOf 25=1:=by kernel_rfl
section
variable {H:Type} {enc:TypeId×Value→H} {W:World}
theorem Zuh{r:Reach}{b0:Nat}{v:Value}{d:DataW H}{p:List MemPlace}(hv:Value.okWide Tryz.prog W r b0 51 v)(h:DataW.Trod enc Tryz.prog W 0 (fun _=>true) true 51 v d p):
  ∃ (sg n:Int) (a:Option Addr) (c:Nat) (BL:List (Int×Int×ByteArray)),v=Zok sg n a BL.length c∧(-9223372036854775808≤sg∧sg≤9223372036854775807)∧(-9223372036854775808≤n∧n≤9223372036854775807)∧Rd W a (Qq BL)∧BL.length≤maxLen:=by
 obtain⟨v0,v1,v2,y0,y1,y2,n,rfl,_,_,h0,h1,h2⟩:=open_agg3 Tryz.underlying51 (by kernel_rfl) Ztd hv h
 obtain⟨a,ha,_,wa⟩:=DataW.trod_int Tryz.underlying3 h0;obtain⟨b,hb,_,wb⟩:=DataW.trod_int Tryz.underlying3 h1;have hsl:∃ a len cap,v2 = .slice a len cap:=by
  rcases DataW.trod_slice Tryz.underlying49 h2 with⟨hcs,_⟩|⟨a,len,cap,_,_,_,_,hcs,_⟩
  ·simp only[List.cons.injEq,and_true] at hcs;exact⟨_,_,_,hcs⟩
  ·simp only[List.cons.injEq,and_true] at hcs;exact⟨_,_,_,hcs⟩
 obtain⟨a2,len,cap,rfl⟩:=hsl;obtain⟨a',c,css,he,hr,hQ,hlen⟩:=Ziu (enc:=enc) (W:=W) Tryz.underlying49 Zoo (by decide) (Q:=fun cs=>∃ x:Int×Int×ByteArray,cs=[.int .i64 x.1,.int .i64 x.2.1,.string x.2.2]∧True) (fun m cs x hx=>by
  obtain⟨z0,z1,z2,k,-,hl,e0,e1,e2⟩:=Go.Deep.trod_struct3 Tryz.underlying27 hx;rw[Zoo] at hl
  match cs,hl with
  | [q0,q1,q2],_ =>
   simp only[Zvw,Ztc,List.drop_zero,List.drop_succ_cons,List.take_succ_cons,List.take_zero] at e0 e1 e2;obtain⟨i0,j0,_,_⟩:=DataW.trod_int Tryz.underlying3 e0;obtain⟨i1,j1,_,_⟩:=DataW.trod_int Tryz.underlying3 e1;obtain⟨s,j2,_,_⟩:=DataW.trod_string Tryz.underlying25 e2;simp only[List.cons.injEq,and_true] at j0 j1 j2;exact⟨(i0,i1,s),by rw[j0,j1,j2],trivial⟩) (h:=⟨n,by simpa [Value.cells] using h2⟩) ⟨_,_,_,rfl⟩
 obtain⟨BL,rfl,-⟩:=Zgs (f:=fun x:Int×Int×ByteArray=>[Value.int .i64 x.1,.int .i64 x.2.1,.string x.2.2]) (B:=fun _=>True) css hQ
 rw[List.length_map] at he hlen;simp only[List.cons.injEq,and_true] at ha hb;exact⟨a,b,a',c,BL,by rw[ha,hb,he];rfl,bounds_i64 wa,bounds_i64 wb,Zxe hr,hlen⟩
end
end Go.Proofs.YtnjedhgcfeoemaaGreatDoor

namespace Go.Proofs.YtnjedhgcfeoemaaGreatDoor
open Go.ChangeShapes Go.WideShapes Go.ChangeAt Go.RowKit Go.Joins
section
variable {H:Type} {enc:TypeId×Value→H} {W:World}
theorem Zkc{P:Program}{w:World}{r:Reach}{base n:Nat}{t u:TypeId}{v:Value}(ht:P.underlying t=some (.array n u))(h:Value.okWide P w r base t v):∃ cs,v = .agg cs∧cs.size=P.cellsOf t:=by
 simp only[Value.okWide,ht] at h;obtain⟨cs,h1,h2,_⟩:=h;exact⟨cs,h1,h2⟩
theorem Zl8{r:Reach}{b0:Nat}{v:Value}{d:DataW H}{p:List MemPlace}(hv:Value.okWide Tryz.prog W r b0 61 v)(h:DataW.Trod enc Tryz.prog W 0 (fun _=>true) true 61 v d p):
  ∃ (nu:Nat→Int) (de:Nat→Nat),v = .agg (Zbg nu de)∧(∀ k,-128≤nu k∧nu k≤127)∧(∀ k,de k<256):=by
 obtain⟨cs,rfl,hsz⟩:=Zkc Tryz.underlying61 hv;obtain⟨fuel,hf⟩:=h;obtain⟨nu,de,e,h1,h2⟩:=Zpj hf;obtain⟨l⟩:=cs;have e':l=(Zbg nu de).toList:=e;exact⟨nu,de,by rw[e'],h1,h2⟩
end
end Go.Proofs.YtnjedhgcfeoemaaGreatDoor

namespace Go.Proofs.YtnjedhgcfeoemaaGreatDoor
open Go.ChangeShapes Go.WideShapes Go.ChangeAt Go.RowKit
end Go.Proofs.YtnjedhgcfeoemaaGreatDoor

namespace Go.Proofs.YtnjedhgcfeoemaaGreatDoor
open Go.RowKit
end Go.Proofs.YtnjedhgcfeoemaaGreatDoor

namespace Go.Proofs.YtnjedhgcfeoemaaGreatDoor
open Go.RowKit
end Go.Proofs.YtnjedhgcfeoemaaGreatDoor

namespace Go.Proofs.YtnjedhgcfeoemaaGreatDoor
open Go.RowKit
end Go.Proofs.YtnjedhgcfeoemaaGreatDoor

namespace Go.Proofs.YtnjedhgcfeoemaaGreatDoor
open Go.RowKit
end Go.Proofs.YtnjedhgcfeoemaaGreatDoor

namespace Go.Proofs.YtnjedhgcfeoemaaGreatDoor
open Go.RowKit
end Go.Proofs.YtnjedhgcfeoemaaGreatDoor

namespace Go.Proofs.YtnjedhgcfeoemaaGreatDoor
open Go.RowKit
end Go.Proofs.YtnjedhgcfeoemaaGreatDoor

namespace Go.Proofs.YtnjedhgcfeoemaaGreatDoor
open Go.RowKit
theorem Zp6:Zbp Tryz.prog 35 3 (.int .i64 0) 1 8:=⟨Tryz.underlying35,info_parts (by kernel_rfl),rfl,by decide⟩
def Qbk (m:Int) (l:List Int):Prop:=∀ x∈l,0≤x∧x≤m
def Zb8 (w:World) (B:Nat) (a:Option Addr) (n c:Nat) (l:List Int):Prop:=w.ownsRow B 3 1 (.slice a n c) n (Vc l)
theorem Zb8.len{w:World}{B n c:Nat}{a:Option Addr}{l:List Int}(h:Zb8 w B a n c l):l.length=n:=by
 have:=h.1;simp[Qe] at this;exact this
theorem Zb8.nil(w:World)(B:Nat):Zb8 w B none 0 0 []:=World.ownsRow_nil ..
theorem Zb8.open{w:World}{B n c:Nat}{a:Option Addr}{l:List Int}(h:Zb8 w B a n c l)(hn:0<n):
  ∃ g,a=some ⟨g,0,none⟩∧B≤g∧g<w.heap.size∧n≤c∧(∀ j (hj:j<l.length),w.cell? ⟨g,j,none⟩=some (.int .i64 l[j]))∧(∀ j,w.frozen? ⟨g,j,none⟩=false):=by
 have hl:=h.len;obtain⟨g,cap,hv,h1,h2,h3,h4,h5⟩:=Vv h hn;simp only[Value.slice.injEq] at hv;obtain⟨rfl,-,rfl⟩:=hv;exact⟨g,rfl,h1,h2,h3,fun j hj=>by rw[h4 j (by omega),Yh l j hj],h5⟩
theorem Zb8.store{w:World}{B n c g:Nat}{l:List Int}(h:Zb8 w B (some ⟨g,0,none⟩) n c l)(j:Nat)(x:Int):
  Zb8 (w.setCell ⟨g,j,none⟩ (.int .i64 x)) B (some ⟨g,0,none⟩) n c (l.set j x):=by
 have:=(World.ownsRow.stored h j (.int .i64 x)).1
 rw[Zu5] at this;exact this
def arr (l:List Int):Array Value:=(Vc l).toArray
theorem Zyc(l:List Int)(j:Nat)(h:j<l.length):(arr l)[j]?=some (.int .i64 l[j]):=by simp[arr,Vc,h]
theorem Zyb(l:List Int)(j:Nat)(x:Int):(arr l).setIfInBounds j (.int .i64 x)=arr (l.set j x):=by
 simp[arr,Vc,List.map_set]
def Zlg (w:World) (g:Nat) (T:TypeId) (l:List Int):Prop:=w.heap[g]?=some (.cells (arr l) T (0,0))
theorem Zlg.cell{w:World}{g:Nat}{T:TypeId}{l:List Int}(h:Zlg w g T l)(j:Nat)(hj:j<l.length):w.cell? ⟨g,j,none⟩=some (.int .i64 l[j]):=by
 rw[cell_of_row w g j _ T (0,0) h,Zyc l j hj]
theorem Zlg.frozen{w:World}{g:Nat}{T:TypeId}{l:List Int}(h:Zlg w g T l)(j:Nat):w.frozen? ⟨g,j,none⟩=false:=frozen_of_row w g j _ T h
theorem Zlg.store{w:World}{g:Nat}{T:TypeId}{l:List Int}(h:Zlg w g T l)(j:Nat)(x:Int):Zlg (w.setCell ⟨g,j,none⟩ (.int .i64 x)) g T (l.set j x):=by
 unfold Zlg;rw[heap_setCell_same w g j _ T _ h,Zyb]
def Wit (w wr:World):Prop:=wr.heap[w.heap.size]?=some (.cells #[.int .i64 0,.int .i64 0,.int .i64 0,.string ⟨#[]⟩] 152 (0,0))∧Below w.heap.size w wr∧w.heap.size+1≤wr.heap.size
theorem Wit.step{w wr wr':World}(h:Wit w wr)(hb:Below wr.heap.size wr wr'):Wit w wr' :=
 ⟨by rw[hb.block _ (by have:=h.2.2;omega)];exact h.1,h.2.1.trans (hb.mono (by have:=h.2.2;omega)),Nat.le_trans h.2.2 hb.size⟩
def lt4 (few x:UInt8):Nat:=x.toNat%(1+few.toNat%4)
def Qbf (l:List UInt8) (few:UInt8) (k:Nat):List UInt8:=(l.take k).map fun x=>(97+lt4 few x).toUInt8
def mk (l:List UInt8) (few:UInt8):List UInt8:=if l=[] then [97] else Qbf l few 14
end Go.Proofs.YtnjedhgcfeoemaaGreatDoor

namespace Go.Proofs.YtnjedhgcfeoemaaGreatDoor
open Go.ChangeShapes Go.WideShapes Go.ChangeAt Go.RowKit Go.Joins
end Go.Proofs.YtnjedhgcfeoemaaGreatDoor

namespace Go.Proofs.YtnjedhgcfeoemaaGreatDoor
open Go.RowKit
def vS:List Nat→Nat
 | []=>0
 | x::l=>x+4294967296*vS l
theorem Zjt:∀ (a b:List Nat),vS (a++b)=vS a+4294967296^a.length*vS b
 | [],b=>by simp[vS]
 | x::a,b=>by
  simp only[List.cons_append,vS,List.length_cons,Zjt a b,Nat.pow_succ];rw[Nat.mul_add,← Nat.mul_assoc,Nat.mul_comm (4294967296^a.length)];omega
theorem Zll(a:List Nat)(x:Nat):vS (a++[x])=vS a+4294967296^a.length*x:=by
 rw[Zjt];simp[vS]
def Zou (l:List Nat):Prop:=∀ x∈l,x<4294967296
theorem Zou.getD{l:List Nat}(h:Zou l)(i:Nat):l.getD i 0<4294967296:=by
 rw[List.getD_eq_getElem?_getD];cases hk:l[i]? with
 | none=>simp
 | some x=>exact h x (List.mem_of_getElem? hk)
theorem Zou.set{l:List Nat}(h:Zou l)(i x:Nat)(hx:x<4294967296):Zou (l.set i x):=fun y hy=>by
 rcases List.mem_or_eq_of_mem_set hy with hy|hy
 ·exact h y hy
 ·rw[hy];exact hx
theorem Zou.take{l:List Nat}(h:Zou l)(k:Nat):Zou (l.take k):=fun x hx=>h x (List.mem_of_mem_take hx)
theorem Zou.snoc{l:List Nat}(h:Zou l){x:Nat}(hx:x<4294967296):Zou (l++[x]):=fun y hy=>by
 rcases List.mem_append.1 hy with h1|h1
 ·exact h y h1
 ·rw[List.mem_singleton.1 h1];exact hx
theorem Zyu:∀ {l:List Nat},Zou l→vS l<4294967296^l.length
 | [],_=>by simp[vS]
 | x::l,h=>by
  have h1:=h x List.mem_cons_self;have h2:=Zyu (l:=l) fun y hy=>h y (List.mem_cons_of_mem _ hy)
  rw[List.length_cons,Nat.pow_succ,vS];omega
theorem Zci(l:List Nat)(k:Nat)(h:k<l.length):vS (l.take (k+1))=vS (l.take k)+4294967296^k*l.getD k 0:=by
 have e:l.getD k 0=l[k]:=by rw[List.getD_eq_getElem?_getD,List.getElem?_eq_getElem h];rfl
 rw[List.take_succ_eq_append_getElem h,Zll,List.length_take,Nat.min_eq_left (Nat.le_of_lt h),e]
theorem Ztg(L M:List Nat)(k cc x r q e:Nat)(hk:k<M.length)(hl:k<L.length)(he:L.getD k 0=e)
  (h:vS (M.take k)+4294967296^k*cc=1000000000*vS (L.take k)+x) (hdm:r+4294967296*q=cc+e*1000000000) :
  vS ((M.set k r).take (k+1))+4294967296^(k+1)*q=1000000000*vS (L.take (k+1))+x:=by
 have e1:(M.set k r).take k=M.take k:=List.take_set_of_le (Nat.le_refl k);have e2:(M.set k r).getD k 0=r:=by
  rw[List.getD_eq_getElem?_getD,List.getElem?_set_self hk];rfl
 have e3:=Zci (M.set k r) k (by rw[List.length_set];exact hk)
 have e4:=Zci L k hl;rw[e1,e2] at e3;rw[he] at e4;have e5:4294967296^(k+1)*q=4294967296^k*(4294967296*q):=by rw[Nat.pow_succ,Nat.mul_assoc]
 rw[e3,e4,e5];clear e1 e2 e3 e4 e5 he hk hl;generalize vS (M.take k)=A at *
 generalize vS (L.take k)=C at *
 generalize 4294967296^k=P at *
 have e6:P*r+P*(4294967296*q)=P*cc+P*e*1000000000:=by rw[← Nat.mul_add,hdm,Nat.mul_add,Nat.mul_assoc]
 generalize P*r=u1 at *
 generalize P*(4294967296*q)=u2 at *
 generalize P*cc=u3 at *
 generalize P*e=u4 at *
 omega
theorem Zv0(N k m n t a:Nat)(hN:N=a+4294967296^n*t)(ha:a<4294967296^n)(ht1:2^m≤t)(ht2:t<2^(m+1))(h1:2^k≤N)(h2:N<2^(k+1)):k=32*n+m:=by
 have e:(4294967296:Nat)^n=2^(32*n):=by rw[show (4294967296:Nat)=2^32 by decide,← Nat.pow_mul]
 rw[e] at hN ha;have q1:2^(32*n+m)≤N:=by
  rw[Nat.pow_add];have:=Nat.mul_le_mul_left (2^(32*n)) ht1
  omega
 have q2:N<2^(32*n+m+1):=by
  rw[Nat.add_assoc,Nat.pow_add];have:2^(32*n)*(t+1)≤2^(32*n)*2^(m+1):=Nat.mul_le_mul_left _ ht2
  rw[Nat.mul_add,Nat.mul_one] at this;omega
 have a1:=(Nat.pow_lt_pow_iff_right (a:=2) (by decide)).1 (Nat.lt_of_le_of_lt h1 q2)
 have a2:=(Nat.pow_lt_pow_iff_right (a:=2) (by decide)).1 (Nat.lt_of_le_of_lt q1 h2)
 omega
theorem Zlc{x m:Nat}(h0:x≠0)(hx:x<18446744073709551616)(h:Lib.bitLen x=m):1≤m∧2^(m-1)≤x∧x<2^m:=by
 have:=Lib.bitLenAux_bounds 64 x (by rw[show (2:Nat)^64=18446744073709551616 by decide];exact hx) h0
 have e:Lib.bitLenAux 64 x=m:=h;rw[e] at this;exact this
theorem Zhx(n:Nat):∀ i,(Kf n).getD i 0=n/1000000000^i%1000000000:=by
 intro i
 induction i generalizing n with
 | zero =>
  rcases Nat.eq_zero_or_pos n with h|h
  ·subst h;rw[Qo];rfl
  ·rw[Vk h,Nat.pow_zero,Nat.div_one];rfl
 | succ i ih =>
  rcases Nat.eq_zero_or_pos n with h|h
  ·subst h;rw[Qo,Nat.zero_div];rfl
  ·rw[Vk h,List.getD_cons_succ,ih,Nat.div_div_eq_div_mul,Nat.pow_succ,Nat.mul_comm 1000000000]
theorem Zge(W:World)(n:Int)(d:Nat)(q:Rat)(hq:mkRat n d=q)(hn : -1000≤n)(hn2:n≤1000)(hd:0<d)(hd2:d≤1000)(L:Qb W):
  Kc Tryz.prog 65 #[.int .i64 n,.int .i64 d] W (fr q):=by rw[← hq];exact Zma W n d hn hn2 hd hd2 L
theorem Zsh:Zjq kP:=by
 intro x hx;simp only[kP,List.mem_cons,List.not_mem_nil,or_false] at hx;rcases hx with rfl|rfl<;>decide
theorem Zzj:∀ q∈kA,Sm 30 q:=by
 intro q hq;simp only[kA,List.mem_cons,List.not_mem_nil,or_false] at hq;rcases hq with rfl|rfl<;>exact⟨by decide +kernel,by decide +kernel⟩
theorem Qau:∀ q∈kB,Sm 30 q:=by
 intro q hq;simp only[kB,List.mem_cons,List.not_mem_nil,or_false] at hq;rcases hq with rfl|rfl<;>exact⟨by decide +kernel,by decide +kernel⟩
theorem Zmm:Vp kP=0:=by decide +kernel
theorem Zzk:kA.any nzQ=true:=by decide +kernel
theorem Zpu(w:World)(L:Qb w):Kc Tryz.prog 15 #[] w (.bool true):=by
 unfold Kc;have HL:=hd_ L;have HO:=hd_ (Zzw w 3 3 (.inr (by decide)) (by decide +kernel) (by decide) L)
 rw[show ((3:Nat):Int)=3 from rfl,Qar] at HO
 unfold Qa0 at HO;clear L;generalize hb12:dec 12=b12 at *
 have Hb12:=hd_ hb12;clear hb12;obtain⟨q1,hq1⟩:∃ q:Rat,q = -19:=⟨_,rfl⟩;obtain⟨q2,hq2⟩:∃ q:Rat,q=12:=⟨_,rfl⟩;obtain⟨q3,hq3⟩:∃ q:Rat,q = -1:=⟨_,rfl⟩;obtain⟨q4,hq4⟩:∃ q:Rat,q=1:=⟨_,rfl⟩;obtain⟨q5,hq5⟩:∃ q:Rat,q = -1/16:=⟨_,rfl⟩;obtain⟨q6,hq6⟩:∃ q:Rat,q=1/32:=⟨_,rfl⟩;have N1:=hd_ (fun W (hW:Below w.heap.size w W)=>Zge W (-19) 1 q1 (by rw[hq1];decide +kernel) (by decide) (by decide) (by decide) (by decide) (HL.out.below hW))
 have N2:=hd_ (fun W (hW:Below w.heap.size w W)=>Zge W 12 1 q2 (by rw[hq2];decide +kernel) (by decide) (by decide) (by decide) (by decide) (HL.out.below hW))
 have N3:=hd_ (fun W (hW:Below w.heap.size w W)=>Zge W (-1) 1 q3 (by rw[hq3];decide +kernel) (by decide) (by decide) (by decide) (by decide) (HL.out.below hW))
 have N4:=hd_ (fun W (hW:Below w.heap.size w W)=>Zge W 1 1 q4 (by rw[hq4];decide +kernel) (by decide) (by decide) (by decide) (by decide) (HL.out.below hW))
 have N5:=hd_ (fun W (hW:Below w.heap.size w W)=>Zge W (-1) 16 q5 (by rw[hq5];decide +kernel) (by decide) (by decide) (by decide) (by decide) (HL.out.below hW))
 have N6:=hd_ (fun W (hW:Below w.heap.size w W)=>Zge W 1 32 q6 (by rw[hq6];decide +kernel) (by decide) (by decide) (by decide) (by decide) (HL.out.below hW))
 have hA:kA=[q1,q2]:=by rw[hq1,hq2];rfl
 have hB:kB=[q3,q4]:=by rw[hq3,hq4];rfl
 have HD:=hd_ (fun W (hW:Below w.heap.size w W) a0 a1 (rp:Rd W a0 (Vc kP)) (rl:Rd W a1 (Kx [q1,q2]))=>Zs2 W a0 a1 2 2 30 kP kA rp (by rw[hA];exact rl) Zsh rfl (by decide) Zsg Zzj (by decide) Zmm Zzk Zzf (HL.out.below hW))
 have HE:=hd_ (fun W (hW:Below w.heap.size w W) a0 a1 (rp:Rd W a0 (Vc kP)) (rl:Rd W a1 (Kx [q1,q2]))=>Zp5 W a0 a1 2 2 30 7 kP kA rp (by rw[hA];exact rl) Zsh rfl (by decide) Zsg Zzj (by decide) Zmm (by decide) (HL.out.below hW))
 rw[Qaq,Qas,← hq5,← hq6] at HE;have hbig:3<(dec 701955).size:=by rw[Kw];decide +kernel
 have HC:=hd_ (fun W (hW:Below w.heap.size w W) a0 a1 (rp:Rd W a0 (Vc kP)) (rl:Rd W a1 (Kx [q3,q4]))=>Ztb W a0 a1 2 2 2 2 3 701955 (by decide) (by decide) (by decide) hbig (by rw[Kw];decide +kernel) ((Zp9 W a0 a1 2 2 30 3 kP kB rp (by rw[hB];exact rl) Zsh rfl (by decide) Zsg Qau (by decide) Zmm (by decide) Qat (HL.out.below hW)).mono fun e w' h=>by
  obtain⟨n,he,hl,hb⟩:=h;refine⟨⟨n,?_⟩,hb⟩;rw[Zzh hl,show itx (701955:Int)=dec 701955 from Kj 701955] at he
  exact he))
 have hct:(dec 701955).extract 0 ((dec 701955).size-3)++⟨#[46]⟩++(dec 701955).extract ((dec 701955).size-3) (dec 701955).size=⟨#[55,48,49,46,57,53,53]⟩:=by
  have:((dec 701955).extract 0 ((dec 701955).size-3)++⟨#[46]⟩++(dec 701955).extract ((dec 701955).size-3) (dec 701955).size).data = #[55,48,49,46,57,53,53]:=by decide +kernel
  exact ByteArray.ext this
 rw[hct] at HC;have Hq5:=hd_ hq5;have Hq6:=hd_ hq6;clear hq1 hq2 hq3 hq4 hq5 hq6 hA hB hbig hct;unfold fr fv at N1 N2 N3 N4 N5 N6 HE;go_enter Tryz.func15,Tryz.ntmps15
 go_wp2_with fail
 refine cm_ HO.out ?_;rintro e w1 ⟨rfl,hb⟩;have B1:=hd_ (hb.alloc hb.size (.cells #[.int .i64 3,.int .i64 3,.string b12] 27));have F1:=hd_ (Qx w1 #[.int .i64 3,.int .i64 3,.string b12] 27 _ rfl);clear hb HO
 go_wp2_with fail
 have hsz1:(w1.alloc (.cells #[.int .i64 3,.int .i64 3,.string b12] 27)).heap.size=w1.heap.size+1:=by simp
 rw[← hsz1];generalize w1.heap.size=gb at *
 generalize w1.alloc (.cells #[.int .i64 3,.int .i64 3,.string b12] 27)=w1b at *
 clear hsz1;have B2:=hd_ (B1.out.alloc B1.out.size (.cells #[.int .i64 2,.int .i64 3] 3));have FP:Hid ((w1b.alloc (.cells #[.int .i64 2,.int .i64 3] 3)).heap[w1b.heap.size]?=some (.cells #[.int .i64 2,.int .i64 3] 3 (0,0))):=heap_alloc_new w1b _;replace F1:=hd_ (Kl F1.out (.cells #[.int .i64 2,.int .i64 3] 3));clear B1;generalize hg_:w1b.heap.size=gp at *
 generalize hw_:w1b.alloc (.cells #[.int .i64 2,.int .i64 3] 3)=w2 at *
 clear hg_ hw_;refine cm_ (N1.out _ B2.out) ?_;rintro e_ w3 ⟨rfl,hb_⟩;have B3:=hd_ (B2.out.trans (hb_.mono B2.out.size));replace F1:=hd_ (Kd F1.out hb_ nr_);replace FP:=hd_ (Kd FP.out hb_ nr_);clear B2;clear hb_
 go_wp2_with fail
 refine cm_ (N2.out _ B3.out) ?_;rintro e_ w4 ⟨rfl,hb_⟩;have B4:=hd_ (B3.out.trans (hb_.mono B3.out.size));replace F1:=hd_ (Kd F1.out hb_ nr_);replace FP:=hd_ (Kd FP.out hb_ nr_);clear B3;clear hb_
 go_wp2_with fail
 have B5:=hd_ (B4.out.alloc B4.out.size (.cells #[.string (itx q1.num),.string (dec q1.den),.string (itx q2.num),.string (dec q2.den)] 42));have FA:Hid ((w4.alloc (.cells #[.string (itx q1.num),.string (dec q1.den),.string (itx q2.num),.string (dec q2.den)] 42)).heap[w4.heap.size]?=some (.cells #[.string (itx q1.num),.string (dec q1.den),.string (itx q2.num),.string (dec q2.den)] 42 (0,0))):=heap_alloc_new w4 _;replace F1:=hd_ (Kl F1.out (.cells #[.string (itx q1.num),.string (dec q1.den),.string (itx q2.num),.string (dec q2.den)] 42));replace FP:=hd_ (Kl FP.out (.cells #[.string (itx q1.num),.string (dec q1.den),.string (itx q2.num),.string (dec q2.den)] 42));clear B4;generalize hg_:w4.heap.size=ga at *
 generalize hw_:w4.alloc (.cells #[.string (itx q1.num),.string (dec q1.den),.string (itx q2.num),.string (dec q2.den)] 42)=w5 at *
 clear hg_ hw_;refine cm_ (HD.out _ B5.out _ _ (Zg FP.out) (Zg FA.out)) ?_;rintro e_ w6 ⟨n_,a_,c_,he_,hl_,hr_,hb_⟩;have B6:=hd_ (B5.out.trans (hb_.mono B5.out.size));replace F1:=hd_ (Kd F1.out hb_ nr_);replace FP:=hd_ (Kd FP.out hb_ nr_);replace FA:=hd_ (Kd FA.out hb_ nr_);clear B5;clear HD;obtain rfl:=Zxu hl_;rw[Zsf,Zzi] at he_;rw[Zzi] at hr_;have he2:e_ = .returned (.tuple #[.agg #[.int .i64 1,.int .i64 9,.slice a_ 2 c_],.int .i64 0]):=he_;subst he2;have HR:=hd_ hr_;clear he_ hl_ hr_ hb_
 go_wp2_with fail
 have B7:=hd_ (B6.out.alloc B6.out.size (.cells #[.int .i64 1,.int .i64 9,.slice a_ 2 c_] 51));have FC:Hid ((w6.alloc (.cells #[.int .i64 1,.int .i64 9,.slice a_ 2 c_] 51)).heap[w6.heap.size]?=some (.cells #[.int .i64 1,.int .i64 9,.slice a_ 2 c_] 51 (0,0))):=heap_alloc_new w6 _;replace F1:=hd_ (Kl F1.out (.cells #[.int .i64 1,.int .i64 9,.slice a_ 2 c_] 51));replace FP:=hd_ (Kl FP.out (.cells #[.int .i64 1,.int .i64 9,.slice a_ 2 c_] 51));replace FA:=hd_ (Kl FA.out (.cells #[.int .i64 1,.int .i64 9,.slice a_ 2 c_] 51));replace HR:=hd_ (HR.out.below ((Below.refl w6.heap.size w6).alloc nr_ (.cells #[.int .i64 1,.int .i64 9,.slice a_ 2 c_] 51)) nr_);clear B6;generalize hg_:w6.heap.size=gc at *
 generalize hw_:w6.alloc (.cells #[.int .i64 1,.int .i64 9,.slice a_ 2 c_] 51)=w7 at *
 clear hg_ hw_;clear FA;refine cm_ (N1.out _ B7.out) ?_;rintro e_ w8 ⟨rfl,hb_⟩;have B8:=hd_ (B7.out.trans (hb_.mono B7.out.size));replace F1:=hd_ (Kd F1.out hb_ nr_);replace FP:=hd_ (Kd FP.out hb_ nr_);replace FC:=hd_ (Kd FC.out hb_ nr_);replace HR:=hd_ (HR.out.below hb_ nr_);clear B7;clear hb_
 go_wp2_with fail
 refine cm_ (N2.out _ B8.out) ?_;rintro e_ w9 ⟨rfl,hb_⟩;have B9:=hd_ (B8.out.trans (hb_.mono B8.out.size));replace F1:=hd_ (Kd F1.out hb_ nr_);replace FP:=hd_ (Kd FP.out hb_ nr_);replace FC:=hd_ (Kd FC.out hb_ nr_);replace HR:=hd_ (HR.out.below hb_ nr_);clear B8;clear hb_
 go_wp2_with fail
 have B10:=hd_ (B9.out.alloc B9.out.size (.cells #[.string (itx q1.num),.string (dec q1.den),.string (itx q2.num),.string (dec q2.den)] 42));have FA:Hid ((w9.alloc (.cells #[.string (itx q1.num),.string (dec q1.den),.string (itx q2.num),.string (dec q2.den)] 42)).heap[w9.heap.size]?=some (.cells #[.string (itx q1.num),.string (dec q1.den),.string (itx q2.num),.string (dec q2.den)] 42 (0,0))):=heap_alloc_new w9 _;replace F1:=hd_ (Kl F1.out (.cells #[.string (itx q1.num),.string (dec q1.den),.string (itx q2.num),.string (dec q2.den)] 42));replace FP:=hd_ (Kl FP.out (.cells #[.string (itx q1.num),.string (dec q1.den),.string (itx q2.num),.string (dec q2.den)] 42));replace FC:=hd_ (Kl FC.out (.cells #[.string (itx q1.num),.string (dec q1.den),.string (itx q2.num),.string (dec q2.den)] 42));replace HR:=hd_ (HR.out.below ((Below.refl w9.heap.size w9).alloc nr_ (.cells #[.string (itx q1.num),.string (dec q1.den),.string (itx q2.num),.string (dec q2.den)] 42)) nr_);clear B9;generalize hg_:w9.heap.size=ga2 at *
 generalize hw_:w9.alloc (.cells #[.string (itx q1.num),.string (dec q1.den),.string (itx q2.num),.string (dec q2.den)] 42)=w10 at *
 clear hg_ hw_;refine cm_ (HE.out _ B10.out _ _ (Zg FP.out) (Zg FA.out)) ?_;rintro e_ w11 ⟨rfl,hb_⟩;have B11:=hd_ (B10.out.trans (hb_.mono B10.out.size));replace F1:=hd_ (Kd F1.out hb_ nr_);replace FP:=hd_ (Kd FP.out hb_ nr_);replace FC:=hd_ (Kd FC.out hb_ nr_);replace FA:=hd_ (Kd FA.out hb_ nr_);replace HR:=hd_ (HR.out.below hb_ nr_);clear B10;clear hb_ HE FA N1 N2
 go_wp2_with fail
 have hz_:Hid ((w11.alloc (.cells #[.string (itx q5.num),.string (dec q5.den)] 42)).heap.size=w11.heap.size+1):=by show _=_;simp
 have B12:=hd_ (B11.out.alloc B11.out.size (.cells #[.string (itx q5.num),.string (dec q5.den)] 42));have F5:Hid ((w11.alloc (.cells #[.string (itx q5.num),.string (dec q5.den)] 42)).heap[w11.heap.size]?=some (.cells #[.string (itx q5.num),.string (dec q5.den)] 42 (0,0))):=heap_alloc_new w11 _;replace F1:=hd_ (Kl F1.out (.cells #[.string (itx q5.num),.string (dec q5.den)] 42));replace FP:=hd_ (Kl FP.out (.cells #[.string (itx q5.num),.string (dec q5.den)] 42));replace FC:=hd_ (Kl FC.out (.cells #[.string (itx q5.num),.string (dec q5.den)] 42));replace HR:=hd_ (HR.out.below ((Below.refl w11.heap.size w11).alloc nr_ (.cells #[.string (itx q5.num),.string (dec q5.den)] 42)) nr_);clear B11;generalize hg_:w11.heap.size=g5 at *
 generalize hw_:w11.alloc (.cells #[.string (itx q5.num),.string (dec q5.den)] 42)=w12 at *
 clear hg_ hw_;have B13:=hd_ (B12.out.alloc B12.out.size (.cells #[.string (itx q6.num),.string (dec q6.den)] 42));have F6:Hid ((w12.alloc (.cells #[.string (itx q6.num),.string (dec q6.den)] 42)).heap[g5+1]?=some (.cells #[.string (itx q6.num),.string (dec q6.den)] 42 (0,0))):=by
  have h_:=heap_alloc_new w12 (.cells #[.string (itx q6.num),.string (dec q6.den)] 42);rw[hz_.out] at h_;exact h_
 replace F1:=hd_ (Kl F1.out (.cells #[.string (itx q6.num),.string (dec q6.den)] 42));replace FP:=hd_ (Kl FP.out (.cells #[.string (itx q6.num),.string (dec q6.den)] 42));replace FC:=hd_ (Kl FC.out (.cells #[.string (itx q6.num),.string (dec q6.den)] 42));replace F5:=hd_ (Kl F5.out (.cells #[.string (itx q6.num),.string (dec q6.den)] 42));replace HR:=hd_ (HR.out.below ((Below.refl w12.heap.size w12).alloc nr_ (.cells #[.string (itx q6.num),.string (dec q6.den)] 42)) nr_);clear B12 hz_;generalize hw_:w12.alloc (.cells #[.string (itx q6.num),.string (dec q6.den)] 42)=w13 at *
 clear hw_;refine cm_ (N3.out _ B13.out) ?_;rintro e_ w14 ⟨rfl,hb_⟩;have B14:=hd_ (B13.out.trans (hb_.mono B13.out.size));replace F1:=hd_ (Kd F1.out hb_ nr_);replace FP:=hd_ (Kd FP.out hb_ nr_);replace FC:=hd_ (Kd FC.out hb_ nr_);replace F5:=hd_ (Kd F5.out hb_ nr_);replace F6:=hd_ (Kd F6.out hb_ nr_);replace HR:=hd_ (HR.out.below hb_ nr_);clear B13;clear hb_
 go_wp2_with fail
 refine cm_ (N4.out _ B14.out) ?_;rintro e_ w15 ⟨rfl,hb_⟩;have B15:=hd_ (B14.out.trans (hb_.mono B14.out.size));replace F1:=hd_ (Kd F1.out hb_ nr_);replace FP:=hd_ (Kd FP.out hb_ nr_);replace FC:=hd_ (Kd FC.out hb_ nr_);replace F5:=hd_ (Kd F5.out hb_ nr_);replace F6:=hd_ (Kd F6.out hb_ nr_);replace HR:=hd_ (HR.out.below hb_ nr_);clear B14;clear hb_
 go_wp2_with fail
 have B16:=hd_ (B15.out.alloc B15.out.size (.cells #[.string (itx q3.num),.string (dec q3.den),.string (itx q4.num),.string (dec q4.den)] 42));have FA:Hid ((w15.alloc (.cells #[.string (itx q3.num),.string (dec q3.den),.string (itx q4.num),.string (dec q4.den)] 42)).heap[w15.heap.size]?=some (.cells #[.string (itx q3.num),.string (dec q3.den),.string (itx q4.num),.string (dec q4.den)] 42 (0,0))):=heap_alloc_new w15 _;replace F1:=hd_ (Kl F1.out (.cells #[.string (itx q3.num),.string (dec q3.den),.string (itx q4.num),.string (dec q4.den)] 42));replace FP:=hd_ (Kl FP.out (.cells #[.string (itx q3.num),.string (dec q3.den),.string (itx q4.num),.string (dec q4.den)] 42));replace FC:=hd_ (Kl FC.out (.cells #[.string (itx q3.num),.string (dec q3.den),.string (itx q4.num),.string (dec q4.den)] 42));replace F5:=hd_ (Kl F5.out (.cells #[.string (itx q3.num),.string (dec q3.den),.string (itx q4.num),.string (dec q4.den)] 42));replace F6:=hd_ (Kl F6.out (.cells #[.string (itx q3.num),.string (dec q3.den),.string (itx q4.num),.string (dec q4.den)] 42));replace HR:=hd_ (HR.out.below ((Below.refl w15.heap.size w15).alloc nr_ (.cells #[.string (itx q3.num),.string (dec q3.den),.string (itx q4.num),.string (dec q4.den)] 42)) nr_);clear B15;generalize hg_:w15.heap.size=ga3 at *
 generalize hw_:w15.alloc (.cells #[.string (itx q3.num),.string (dec q3.den),.string (itx q4.num),.string (dec q4.den)] 42)=w16 at *
 clear hg_ hw_;refine cm_ (HC.out _ B16.out _ _ (Zg FP.out) (Zg FA.out)) ?_;rintro e_ w17 ⟨rfl,hb_⟩;have B17:=hd_ (B16.out.trans (hb_.mono B16.out.size));replace F1:=hd_ (Kd F1.out hb_ nr_);replace FP:=hd_ (Kd FP.out hb_ nr_);replace FC:=hd_ (Kd FC.out hb_ nr_);replace F5:=hd_ (Kd F5.out hb_ nr_);replace F6:=hd_ (Kd F6.out hb_ nr_);replace FA:=hd_ (Kd FA.out hb_ nr_);replace HR:=hd_ (HR.out.below hb_ nr_);clear B16;clear hb_ HC FA N3 N4 FP
 go_wp2_with fail
 obtain⟨k0,k1,k2,-⟩:=Ki F1.out;obtain⟨k3,k4,k5,-⟩:=Ki FC.out;obtain⟨k6,k7,-,-⟩:=Ka F5.out;obtain⟨k8,k9,-,-⟩:=Ka F6.out;obtain⟨br,orr,rfl,hbr,hrow⟩:=HR.out.open (by decide)
 have kr:w17.cell? ⟨br,orr+5,none⟩=some (.string (dec 811)):=hrow 5 _ rfl;have q0:=NW.cell k0;have q1:=NW.cell k1;have q2:=NW.cell k2;have q3:=NW.cell k3;have q4:=NW.cell k4;have q5':=NW.cell k5;have q6':=NW.cell k6;have q7:=NW.cell k7;have q8:=NW.cell k8;have q9:=NW.cell k9;have qr:=NW.cell kr;have e811:(dec 811)=⟨#[56,49,49]⟩:=by
  have:(dec 811).data = #[56,49,49]:=by decide +kernel
  exact ByteArray.ext this
 have e12:b12=⟨#[49,50]⟩:=by
  rw[← Hb12.out];have:(dec 12).data = #[49,50]:=by decide +kernel
  exact ByteArray.ext this
 rw[e811] at qr;rw[e12] at q2;have hnon:Nonempty (NW w17):=⟨⟨w17,Below.refl _ _⟩⟩;have I:Hid (Below w17.heap.size w17 w17.drew):=(Below.refl _ _).drew;clear k0 k1 k2 k3 k4 k5 k6 k7 k8 k9 kr hrow e811 e12 hbr HR F1 FC F5 F6;refine RP.wp_region_readers 57 [(2,0),(2,1),(2,2),(1,3),(2,4),(2,5),(2,6),(2,7),(2,8),(2,9),(2,10),(2,11),(2,12),(1,13),(2,14),(2,15),(2,16),(2,17),(1,18),(2,19),(2,20),(2,21),(2,22),(1,23),(2,24),(2,25),(2,26),(2,27),(2,28),(1,29),(2,30),(2,31),(1,32),(2,33),(2,34),(2,35),(2,36),(2,37),(2,38),(2,39),(1,40),(0,41),(2,42),(2,43),(2,44),(1,45),(0,46),(2,47),(2,48),(2,49),(2,50),(2,51),(2,52),(2,53),(2,54),(2,55),(2,56),(0,57)] (fun w'=>∃ p:NW w17,w'=p.w) (by kernel_rfl) (by kernel_rfl) ?_ ?_
 ·exact⟨⟨_,I.out⟩,rfl⟩
 refine RP.walkR_any ?_;simp only[dz_,Kg,tz_]
 first | go_big_quiet_step (fail) | quiet_step (fail)
 refine wpQuiet_nil ?_;refine RP.walkR_any ?_;simp only[Kh,dz_,Kg,tz_]
 first | go_big_quiet_step (fail) | quiet_step (fail)
 refine wpQuiet_nil ?_;refine RP.walkR_any ?_;simp only[Kh,dz_,Kg,tz_]
 first | go_big_quiet_step (fail) | quiet_step (fail)
 refine wpQuiet_nil ?_;refine RP.walkR_read ?_;simp only[Kh,dz_,Kg,tz_]
 first | go_big_quiet_step (fail) | quiet_step (fail)
 refine wpQuiet_nil ?_;refine RP.walkR_any ?_;simp only[Kh,dz_,Kg,tz_]
 first | go_big_quiet_step (fail) | quiet_step (fail)
 refine wpQuiet_nil ?_;refine RP.walkR_any ?_;simp only[Kh,dz_,Kg,tz_];refine BigFrame.wpQuiet_want rfl fun K hK=>Zl3 _ _ _ 3 3 3 3 _ _ rfl rfl rfl (hK _ ?_)
 refine wpQuiet_nil ?_;refine RP.walkR_any ?_;simp only[Kh,dz_,Kg,tz_]
 first | go_big_quiet_step (fail) | quiet_step (fail)
 refine wpQuiet_nil ?_;refine RP.walkR_any ?_;simp only[Kh,dz_,Kg,tz_]
 first | go_big_quiet_step (fail) | quiet_step (fail)
 refine wpQuiet_nil ?_;refine RP.walkR_any ?_;simp only[Kh,dz_,Kg,tz_]
 first | go_big_quiet_step (fail) | quiet_step (fail)
 refine wpQuiet_nil ?_;refine RP.walkR_any ?_;simp only[Kh,dz_,Kg,tz_]
 first | go_big_quiet_step (fail) | quiet_step (fail)
 refine wpQuiet_nil ?_;refine RP.walkR_any ?_;simp only[Kh,dz_,Kg,tz_]
 first | go_big_quiet_step (fail) | quiet_step (fail)
 refine wpQuiet_nil ?_;refine RP.walkR_any ?_;simp only[Kh,dz_,Kg,tz_]
 first | go_big_quiet_step (fail) | quiet_step (fail)
 refine wpQuiet_nil ?_;refine RP.walkR_any ?_;simp only[Kh,dz_,Kg,tz_]
 first | go_big_quiet_step (fail) | quiet_step (fail)
 refine wpQuiet_nil ?_;refine RP.walkR_read ?_;simp only[Kh,dz_,Kg,tz_]
 first | go_big_quiet_step (fail) | quiet_step (fail)
 refine wpQuiet_nil ?_;refine RP.walkR_any ?_;simp only[Kh,dz_,Kg,tz_]
 first | go_big_quiet_step (fail) | quiet_step (fail)
 refine wpQuiet_nil ?_;refine RP.walkR_any ?_;simp only[Kh,dz_,Kg,tz_]
 first | go_big_quiet_step (fail) | quiet_step (fail)
 refine wpQuiet_nil ?_;refine RP.walkR_any ?_;simp only[Kh,dz_,Kg,tz_]
 first | go_big_quiet_step (fail) | quiet_step (fail)
 refine wpQuiet_nil ?_;refine RP.walkR_any ?_;simp only[Kh,dz_,Kg,tz_]
 first | go_big_quiet_step (fail) | quiet_step (fail)
 refine wpQuiet_nil ?_;refine RP.walkR_read ?_;simp only[Kh,dz_,Kg,tz_]
 first | go_big_quiet_step (fail) | quiet_step (fail)
 refine wpQuiet_nil ?_;refine RP.walkR_any ?_;simp only[Kh,dz_,Kg,tz_]
 first | go_big_quiet_step (fail) | quiet_step (fail)
 refine wpQuiet_nil ?_;refine RP.walkR_any ?_;simp only[Kh,dz_,Kg,tz_]
 first | go_big_quiet_step (fail) | quiet_step (fail)
 refine wpQuiet_nil ?_;refine RP.walkR_any ?_;simp only[Kh,dz_,Kg,tz_]
 first | go_big_quiet_step (fail) | quiet_step (fail)
 refine wpQuiet_nil ?_;refine RP.walkR_any ?_;simp only[Kh,dz_,Kg,tz_]
 first | go_big_quiet_step (fail) | quiet_step (fail)
 refine wpQuiet_nil ?_;refine RP.walkR_read ?_;simp only[Kh,dz_,Kg,tz_]
 first | go_big_quiet_step (fail) | quiet_step (fail)
 refine wpQuiet_nil ?_;refine RP.walkR_any ?_;simp only[Kh,dz_,Kg,tz_]
 first | go_big_quiet_step (fail) | quiet_step (fail)
 refine wpQuiet_nil ?_;refine RP.walkR_any ?_;simp only[Kh,dz_,Kg,tz_]
 first | go_big_quiet_step (fail) | quiet_step (fail)
 refine wpQuiet_nil ?_;refine RP.walkR_any ?_;simp only[Kh,dz_,Kg,tz_]
 first | go_big_quiet_step (fail) | quiet_step (fail)
 refine wpQuiet_nil ?_;refine RP.walkR_any ?_;simp only[Kh,dz_,Kg,tz_]
 first | go_big_quiet_step (fail) | quiet_step (fail)
 refine wpQuiet_nil ?_;refine RP.walkR_any ?_;simp only[Kh,dz_,Kg,tz_]
 first | go_big_quiet_step (fail) | quiet_step (fail)
 refine wpQuiet_nil ?_;refine RP.walkR_read ?_;simp only[Kh,dz_,Kg,tz_]
 first | go_big_quiet_step (fail) | quiet_step (fail)
 refine wpQuiet_nil ?_;refine RP.walkR_any ?_;simp only[Kh,dz_,Kg,tz_]
 first | go_big_quiet_step (fail) | quiet_step (fail)
 refine wpQuiet_nil ?_;refine RP.walkR_any ?_;simp only[Kh,dz_,Kg,tz_]
 first | go_big_quiet_step (fail) | quiet_step (fail)
 refine wpQuiet_nil ?_;refine RP.walkR_read ?_;simp only[Kh,dz_,Kg,tz_]
 first | go_big_quiet_step (fail) | quiet_step (fail)
 refine wpQuiet_nil ?_;refine RP.walkR_any ?_;simp only[Kh,dz_,Kg,tz_]
 first | go_big_quiet_step (fail) | quiet_step (fail)
 refine wpQuiet_nil ?_;refine RP.walkR_any ?_;simp only[Kh,dz_,Kg,tz_]
 first | go_big_quiet_step (fail) | quiet_step (fail)
 refine wpQuiet_nil ?_;refine RP.walkR_any ?_;simp only[Kh,dz_,Kg,tz_]
 first | go_big_quiet_step (fail) | quiet_step (fail)
 refine wpQuiet_nil ?_;refine RP.walkR_any ?_;simp only[Kh,dz_,Kg,tz_]
 first | go_big_quiet_step (fail) | quiet_step (fail)
 refine wpQuiet_nil ?_;refine RP.walkR_any ?_;simp only[Kh,dz_,Kg,tz_]
 first | go_big_quiet_step (fail) | quiet_step (fail)
 refine wpQuiet_nil ?_;refine RP.walkR_any ?_;simp only[Kh,dz_,Kg,tz_]
 first | go_big_quiet_step (fail) | quiet_step (fail)
 refine wpQuiet_nil ?_;refine RP.walkR_any ?_;simp only[Kh,dz_,Kg,tz_]
 first | go_big_quiet_step (fail) | quiet_step (fail)
 refine wpQuiet_nil ?_;refine RP.walkR_read ?_;simp only[Kh,dz_,Kg,tz_]
 first | go_big_quiet_step (fail) | quiet_step (fail)
 refine wpQuiet_nil ?_;refine RP.walkR_move ?_;simp only[Kh,dz_,Kg,tz_]
 go_wp2_with fail
 refine cm_ (N5.out _ (B17.out.trans (I.out.mono B17.out.size))) ?_;rintro e_ y1 ⟨rfl,hb_⟩;have J1:Hid (Below w17.heap.size w17 y1):=I.out.trans (hb_.mono I.out.size);clear hb_ I
 go_wp2_with fail
 refine⟨⟨⟨_,J1.out⟩,rfl⟩,?_⟩;refine RP.walkR_any ?_;simp only[Kh,dz_,Kg,tz_];refine BigFrame.wpQuiet_want rfl fun K hK=>Zhq _ _ _ q5 q5 rfl rfl rfl (hK _ ?_)
 refine wpQuiet_nil ?_;refine RP.walkR_any ?_;simp only[Kh,dz_,Kg,tz_]
 first | go_big_quiet_step (fail) | quiet_step (fail)
 refine wpQuiet_nil ?_;refine RP.walkR_any ?_;simp only[Kh,dz_,Kg,tz_]
 first | go_big_quiet_step (fail) | quiet_step (fail)
 refine wpQuiet_nil ?_;refine RP.walkR_read ?_;simp only[Kh,dz_,Kg,tz_]
 first | go_big_quiet_step (fail) | quiet_step (fail)
 refine wpQuiet_nil ?_;clear hnon q0 q1 q2 q3 q4 q5' q6' q7 q8 q9 qr;refine RP.walkR_move ?_;simp only[Kh,dz_,Kg,tz_]
 go_wp2_with fail
 refine cm_ (N6.out _ (B17.out.trans (J1.out.mono B17.out.size))) ?_;rintro e_ y2 ⟨rfl,hb_⟩;have J2:Hid (Below w17.heap.size w17 y2):=J1.out.trans (hb_.mono J1.out.size);clear hb_ J1
 go_wp2_with fail
 refine⟨⟨⟨_,J2.out⟩,rfl⟩,?_⟩;refine RP.walkR_any ?_;simp only[Kh,dz_,Kg,tz_];refine BigFrame.wpQuiet_want rfl fun K hK=>Zhq _ _ _ q6 q6 rfl rfl rfl (hK _ ?_)
 refine wpQuiet_nil ?_;refine RP.walkR_any ?_;simp only[Kh,dz_,Kg,tz_]
 first | go_big_quiet_step (fail) | quiet_step (fail)
 refine wpQuiet_nil ?_;refine RP.walkR_any ?_;simp only[Kh,dz_,Kg,tz_]
 first | go_big_quiet_step (fail) | quiet_step (fail)
 refine wpQuiet_nil ?_;refine RP.walkR_any ?_;simp only[Kh,dz_,Kg,tz_]
 first | go_big_quiet_step (fail) | quiet_step (fail)
 refine wpQuiet_nil ?_;refine RP.walkR_any ?_;simp only[Kh,dz_,Kg,tz_]
 first | go_big_quiet_step (fail) | quiet_step (fail)
 refine wpQuiet_nil ?_;refine RP.walkR_any ?_;simp only[Kh,dz_,Kg,tz_]
 first | go_big_quiet_step (fail) | quiet_step (fail)
 refine wpQuiet_nil ?_;refine RP.walkR_any ?_;simp only[Kh,dz_,Kg,tz_]
 first | go_big_quiet_step (fail) | quiet_step (fail)
 refine wpQuiet_nil ?_;refine RP.walkR_any ?_;simp only[Kh,dz_,Kg,tz_]
 first | go_big_quiet_step (fail) | quiet_step (fail)
 refine wpQuiet_nil ?_;refine RP.walkR_any ?_;simp only[Kh,dz_,Kg,tz_]
 first | go_big_quiet_step (fail) | quiet_step (fail)
 refine wpQuiet_nil ?_;refine RP.walkR_any ?_;simp only[Kh,dz_,Kg,tz_]
 first | go_big_quiet_step (fail) | quiet_step (fail)
 refine wpQuiet_nil ?_;refine RP.walkR_move ?_;simp only[Kh,dz_,Kg,tz_]
 go_wp2_with fail
 simp only[RP.walkR]
 go_wp2_with fail
 go_ret;exact⟨rfl,B17.out.trans (J2.out.mono B17.out.size)⟩
def okE (s:ByteArray):Prop:=s.size≤5∨(31<s.size∧s.size≤40)
instance (s:ByteArray):Decidable (okE s):=inferInstanceAs (Decidable (_∨_))
theorem Zax(w:World)(n:Nat):Kc Tryz.prog 116 #[.string (dec n)] w (.string (dec n)):=by
 unfold Kc;have hix:∀ W,(Instr.index 25 (.string (dec n)) (.int .i64 0)).run Tryz.prog W = .ok (.int .u8 ((lb (dec n)).getD 0 0).toNat) W:=fun W=>Zu9 W _ (Ye n)
 have hf:=Zay n;have hs:=Ye n;have hs':(0:Int)<(dec n).size:=by omega
 generalize ((lb (dec n)).getD 0 0).toNat=c at *
 have hc:((c:Int)==45)=false:=by rw[beq_eq_false_iff_ne];omega
 clear hf;generalize dec n=s at *
 go_enter Tryz.func116,Tryz.ntmps116;go_wp2;go_ret;exact⟨rfl,Below.refl _ _⟩
theorem Ziv(w:World)(z:Int)(h0 : -9223372036854775808≤z)(h1:z≤9223372036854775807)(L:Qb w):
  Kc Tryz.prog 118 #[.int .i64 z] w (.string (itx z)):=by
 unfold Kc;have HI:=hd_ (Zn3 w z h0 h1 L);generalize itx z=s at *
 clear h0 h1 L;go_enter Tryz.func118,Tryz.ntmps118
 go_wp2_with fail
 refine cm_ HI.out ?_;rintro e w1 ⟨rfl,hb⟩;have B1:=hd_ hb;clear hb HI
 go_wp2_with fail
 go_ret;exact⟨rfl,B1.out⟩
theorem Zo9(w:World)(n:Nat)(hn:(dec n).size≤18):
  Kc Tryz.prog 185 #[.string (dec n)] w (.tuple #[.int .i64 n,.bool true]):=by
 unfold Kc;have hix:∀ W,(Instr.index 9 (.string (dec n)) (.int .i64 0)).run Tryz.prog W = .ok (.int .u8 ((lb (dec n)).getD 0 0).toNat) W:=fun W=>Zu9 W _ (Ye n)
 have hf:=Zay n;have hs:=Ye n;have hs':(0:Int)<(dec n).size:=by omega
 have hs2:((0:Int)==(dec n).size)=false:=by rw[beq_eq_false_iff_ne];omega
 have Hd:Hid (Za0 (lb (dec n))):=by show Za0 _;rw[Vw];exact Zq n
 have Hlb:=hd_ (Yb (dec n));have Hval:Hid (Qr (lb (dec n))=n):=by show _=_;rw[Vw];exact Yv n
 generalize ((lb (dec n)).getD 0 0).toNat=c at *
 have hc:((c:Int)==45)=false:=by rw[beq_eq_false_iff_ne];omega
 clear hf;generalize dec n=s at *
 go_enter Tryz.func185,Tryz.ntmps185
 go_wp2_with fail
 go_loop [7,5] (fun n i=>∃ t:Nat,t≤s.size∧i = .int .i64 t∧n = .int .i64 (-((Qr ((lb s).take t):Nat):Int))) (fun _ i=>s.size-(intOf i).toNat)
 case atStart=>exact⟨0,Nat.zero_le _,rfl,rfl⟩
 case round =>
  obtain⟨t,ht,rfl,rfl⟩:=hrel;have hD:=Zha Hd.out t (by omega)
  by_cases hlt:t<s.size
  ·have hlt':(t:Int)<s.size:=by omega
   have hts:=Yp (lb s) t (by rw[Hlb.out];exact hlt)
   have hcd:=Hd.out ((lb s).getD t 0) (by rw[List.getD_eq_getElem?_getD,List.getElem?_eq_getElem (by rw[Hlb.out];exact hlt)];exact List.getElem_mem _)
   have hg:(lb s).getD t 0=s[t]'hlt:=by
    rw[List.getD_eq_getElem?_getD,List.getElem?_eq_getElem (by rw[Hlb.out];exact hlt)];rfl
   have hD1:Qr ((lb s).take t)<100000000000000000:=by
    have h1:=Zx (Hd.out.take t);have h2:10^((lb s).take t).length≤10^17:=Nat.pow_le_pow_right (by decide) (by simp;omega)
    exact Nat.lt_of_lt_of_le h1 h2
   rw[hg] at hts hcd;clear hg hD;have Hts:=hd_ hts;clear hts;generalize Qr ((lb s).take t)=D at *
   generalize hbb:(s[t]'hlt).toNat=b at *
   obtain⟨hc1,hc2⟩:=hcd;have e1:IntKind.i64.wrap ((b:Int)-48)=(b:Int)-48:=iw_ _ (by omega)
   have e2:IntKind.i64.wrap (-9223372036854775808+((b:Int)-48)) = -9223372036854775808+((b:Int)-48):=iw_ _ (by omega)
   have e3:IntKind.i64.wrap (-(D:Int)*10) = -(D:Int)*10:=iw_ _ (by omega)
   have e4:IntKind.i64.wrap (-(D:Int)*10-((b:Int)-48)) = -(D:Int)*10-((b:Int)-48):=iw_ _ (by omega)
   have e5:IntKind.i64.wrap ((t:Int)+1)=((t+1:Nat):Int):=by rw[← Int.natCast_succ];exact iw_ _ (by omega)
   have q1:Int.tdiv (-9223372036854775808+((b:Int)-48)) 10 ≤ -100000000000000000:=by
    have:=Int.mul_tdiv_add_tmod (-9223372036854775808+((b:Int)-48)) 10
    have:=Int.tmod_lt_of_pos (-9223372036854775808+((b:Int)-48)) (show (0:Int)<10 by decide)
    have:=Int.lt_tmod_of_pos (-9223372036854775808+((b:Int)-48)) (show (0:Int)<10 by decide)
    omega
   have q2 : -1000000000000000000≤Int.tdiv (-9223372036854775808+((b:Int)-48)) 10:=by
    have:=Int.mul_tdiv_add_tmod (-9223372036854775808+((b:Int)-48)) 10
    have:=Int.tmod_lt_of_pos (-9223372036854775808+((b:Int)-48)) (show (0:Int)<10 by decide)
    have:=Int.lt_tmod_of_pos (-9223372036854775808+((b:Int)-48)) (show (0:Int)<10 by decide)
    omega
   obtain⟨Q,hQ⟩:∃ Q,Int.tdiv (-9223372036854775808+((b:Int)-48)) 10=Q:=⟨_,rfl⟩;rw[hQ] at q1 q2;have e6:IntKind.i64.wrap Q=Q:=iw_ _ (by omega)
   have n1:¬ ((b:Int)-48<0):=by omega
   have n2:¬ (9<(b:Int)-48):=by omega
   have n3:¬ (-(D:Int)<Q):=by omega
   go_wp2_with fail
   refine⟨⟨t+1,by omega,by go_num,by rw[Hts.out];congr 1;omega⟩,by simp[intOf];omega⟩
  ·have hlt':¬ (t:Int)<s.size:=by omega
   have hts:t=s.size:=by omega
   have Hf:Hid (Qr ((lb s).take t)=n):=by
    show _=_
    rw[hts,← Hlb.out,List.take_length];exact Hval.out
   rw[Hf.out] at hD ⊢;have n1:(-(n:Int) == -9223372036854775808)=false:=by rw[beq_eq_false_iff_ne];omega
   have e1:IntKind.i64.wrap (0 - -(n:Int))=(n:Int):=by rw[show 0 - -(n:Int)=n by omega];exact iw_ _ (by omega)
   have e2:IntKind.i64.wrap (n:Int)=(n:Int):=iw_ _ (by omega)
   go_wp2_with fail
   go_ret2
   exact⟨rfl,Below.refl _ _⟩
theorem Zcx(w:World)(n:Nat):
  Kc Tryz.prog 117 #[.string (dec n)] w (if (dec n).size≤18 then .tuple #[.int .i64 n,.bool true] else .tuple #[.int .i64 0,.bool false]):=by
 unfold Kc;have HD:=hd_ (fun W=>Zax W n)
 by_cases h:(dec n).size≤18
 ·rw[if_pos h];have HS:=hd_ (fun W=>Zo9 W n h)
  have h':¬ (18:Int)<(dec n).size:=by omega
  generalize dec n=s at *
  go_enter Tryz.func117,Tryz.ntmps117
  go_wp2_with fail
  refine cm_ (HD.out _) ?_;rintro e w1 ⟨rfl,hb⟩;have B1:=hd_ hb;clear hb HD
  go_wp2_with fail
  refine cm_ (HS.out _) ?_;rintro e w2 ⟨rfl,hb⟩;have B2:=hd_ (B1.out.trans (hb.mono B1.out.size));clear hb HS B1
  go_wp2_with fail
  go_ret2
  exact⟨rfl,B2.out⟩
 ·rw[if_neg h];have h':(18:Int)<(dec n).size:=by omega
  generalize dec n=s at *
  go_enter Tryz.func117,Tryz.ntmps117
  go_wp2_with fail
  refine cm_ (HD.out _) ?_;rintro e w1 ⟨rfl,hb⟩;have B1:=hd_ hb;clear hb HD
  go_wp2_with fail
  go_ret2
  exact⟨rfl,B1.out⟩
theorem Zq4(w:World)(n:Nat):Kc Tryz.prog 134 #[.string (dec n)] w (.int .i64 (if n=0 then 0 else 1)):=by
 unfold Kc
 by_cases h0:n=0
 ·subst h0;rw[if_pos rfl,show dec 0=⟨#[48]⟩ from by rw[← Zcr.1];exact(Kj 0).symm]
  go_enter Tryz.func134,Tryz.ntmps134;go_wp2;go_ret;exact⟨rfl,Below.refl _ _⟩
 ·rw[if_neg h0];have hix:∀ W,(Instr.index 25 (.string (dec n)) (.int .i64 0)).run Tryz.prog W = .ok (.int .u8 ((lb (dec n)).getD 0 0).toNat) W:=fun W=>Zu9 W _ (Ye n)
  have hf:=Zay n;have hq:=Zgg (n:Int);rw[Kj,decide_eq_false (by omega)] at hq
  generalize ((lb (dec n)).getD 0 0).toNat=c at *
  have hc:((c:Int)==45)=false:=by rw[beq_eq_false_iff_ne];omega
  clear hf h0;generalize dec n=s at *
  go_enter Tryz.func134,Tryz.ntmps134;go_wp2;go_ret;exact⟨rfl,Below.refl _ _⟩
theorem Zdl(w:World)(n:Nat):Kc Tryz.prog 120 #[.string (dec n)] w (.int .i64 1):=by
 unfold Kc;obtain⟨z,hz,hz2⟩:∃ z:Int,(if n=0 then (0:Int) else 1)=z∧0≤z:=⟨_,rfl,by split<;>decide⟩
 have HS:=hd_ (fun W=>Zq4 W n)
 rw[hz] at HS;have hz3:¬ z<0:=by omega
 clear hz;generalize dec n=s at *
 go_enter Tryz.func120,Tryz.ntmps120
 go_wp2_with fail
 refine cm_ (HS.out _) ?_;rintro e w1 ⟨rfl,hb⟩;have B1:=hd_ hb;clear hb HS
 go_wp2_with fail
 go_ret;exact⟨rfl,B1.out⟩
def nI (l:List Nat):List Int:=l.map fun x:Nat=>(x:Int)
theorem Qp(l:List Nat):(nI l).length=l.length:=List.length_map ..
theorem Zme(l:List Nat)(k:Nat):(nI l).take k=nI (l.take k):=List.map_take.symm
theorem Zbi(l m:List Nat):nI (l++m)=nI l++nI m:=List.map_append
theorem Zy5(l:List Nat)(k x:Nat):(nI l).set k (x:Int)=nI (l.set k x):=by
 unfold nI;rw[List.map_set]
theorem Zwm(l:List Nat)(i:Nat)(hi:i<l.length)(h:i<(nI l).length):(nI l)[i]=((l.getD i 0:Nat):Int):=by
 simp only[nI,List.getElem_map];rw[List.getD_eq_getElem?_getD,List.getElem?_eq_getElem hi];rfl
theorem Zea{w:World}{a:Option Addr}{l:List Nat}(h:Rd w a (Vc (nI l)))(k:Nat)(hk:k<l.length):∃ b off,a=some ⟨b,off,none⟩∧b<w.heap.size∧∀ i,i<l.length→w.cell? ⟨b,off+i,none⟩=some (.int .i64 (l.getD i 0:Nat)):=by
 obtain⟨b,off,rfl,hb,hc⟩:=h.open (by rw[Qe,Qp];omega)
 refine⟨b,off,rfl,hb,fun i hi=>hc i _ ?_⟩
 have h1:i<(nI l).length:=by rw[Qp];exact hi
 rw[Yh (nI l) i h1,Zwm l i hi h1]
theorem Zfq(w:World)(a:Option Addr)(c:Nat)(l:List Nat)(hr:Rd w a (Vc (nI l)))(hp:Pcs l)(hl:l.length≤1000000)(hc:l.length≤c):
  Kc Tryz.prog 186 #[.slice a l.length c] w (.slice a (Kf (val l)).length c):=by
 unfold Kc;have Hr:=hd_ hr;have Hp:=hd_ hp;clear hr hp;generalize hn:l.length=n at *
 have Hn:=hd_ hn;clear hn;go_enter Tryz.func186,Tryz.ntmps186
 go_wp2_with fail
 go_loop [3] (fun s=>∃ m:Nat,m≤n∧s = .int .i64 m∧Hid (val (l.take m)=val l)) (fun s=>(intOf s).toNat)
 case atStart=>exact⟨n,Nat.le_refl _,rfl,by show _=_;rw[← Hn.out,List.take_length]⟩
 case round =>
  obtain⟨m,hm,rfl,Hv⟩:=hrel
  by_cases h0:m=0
  ·subst h0;have Hlen:Hid ((Kf (val l)).length=0):=by
    show _=_
    rw[← Zal l Hp.out 0 (Nat.zero_le _) Hv.out (.inl rfl)];simp
   go_wp2_with fail
   go_ret;exact⟨by rw[Hlen.out];rfl,Below.refl _ _⟩
  ·obtain⟨k,rfl⟩:∃ k,m=k+1:=⟨m-1,by omega⟩
   obtain⟨b,off,rfl,hb,hcells⟩:=Zea Hr.out k (by rw[Hn.out];omega)
   have cx:=hcells k (by rw[Hn.out];omega)
   have ew:IntKind.i64.wrap (((k+1:Nat):Int)-1)=(k:Nat):=by rw[show ((k+1:Nat):Int)-1=k by omega];exact iw_ _ (by omega)
   have ew':IntKind.i64.wrap ((k:Int)+1-1)=(k:Nat):=by rw[show (k:Int)+1-1=k by omega];exact iw_ _ (by omega)
   have hpos:(0:Int)<(k:Int)+1:=by omega
   clear hcells
   by_cases hz:l.getD k 0=0
   ·have Hv2:Hid (val (l.take k)=val l):=by
     show _=_
     have:=Zbs l (k+1) (by omega) (by rw[Hn.out];omega) hz
     rw[Nat.add_sub_cancel] at this;rw[this];exact Hv.out
    rw[hz] at cx;clear hz Hv
    go_wp2_with fail
    refine⟨⟨k,by omega,rfl,Hv2⟩,by simp[intOf]⟩
   ·have Hlen:Hid ((Kf (val l)).length=k+1):=by
     show _=_
     rw[← Zal l Hp.out (k+1) (by rw[Hn.out];exact hm) Hv.out (.inr hz),List.length_take,Hn.out]
     omega
    have hq:(((l.getD k 0:Nat):Int)==0)=false:=by rw[beq_eq_false_iff_ne];omega
    clear Hv hz;generalize l.getD k 0=x at *
    go_wp2_with fail
    go_ret;exact⟨by rw[Hlen.out];rfl,Below.refl _ _⟩
theorem Zes.cap2{w:World}{B c:Nat}{a:Option Addr}{l:List Int}(h:Zes w B a c l):l.length≤c:=by
 rcases h.2 with⟨h1,h0⟩|⟨g,cap,cur,h1,h2,h3,h4,h5⟩
 ·rw[h0];exact Nat.zero_le _
 ·simp only[Value.slice.injEq] at h1;obtain⟨-,-,rfl⟩:=h1;exact h4
def Ze5 (f:FuncId) (args:Array Value) (w:World) (n:Nat):Prop :=
 Calls Tryz.prog f args w fun e w'=>∃ a c,e = .returned (.slice a (Kf n).length c)∧Rd w' a (Vc (nI (Kf n)))∧(Kf n).length≤c∧Below w.heap.size w w'
structure Qa1 (d j:Nat) (a:Option Addr) (c:Nat) (w wr:World):Prop where
 own:Zes wr w.heap.size a c (nI (Yq d j))
 bel:Below w.heap.size w wr
theorem Zo7(s:ByteArray)(w:World)(hd:Za0 (lb s))(hl:s.size≤9000000):
  Ze5 122 #[.string s] w (Qr (lb s)):=by
 unfold Ze5;have Hd:=hd_ hd;clear hd;have Hlb:=hd_ (Yb s);obtain⟨S,hS⟩:∃ S,S=s.size:=⟨_,rfl⟩;have HS:=hd_ hS;rw[← hS] at hl;clear hS;go_enter Tryz.func122,Tryz.ntmps122
 go_wp2_with fail
 go_loopw [0,3] (fun x o wr=>∃ (j e:Nat) (X:ByteArray) (a:Option Addr) (c:Nat),9*j<S+9∧e=S-9*j∧X.size=e∧x = .string X∧o = .slice a j c∧Hid (lb X=(lb s).take e)∧Hid (Qa1 (Qr (lb s)) j a c w wr)) (fun x _ _=>match x with | .string X=>X.size | _=>0)
 case atStart =>
  refine⟨0,S,s,none,0,by omega,by omega,HS.out.symm,rfl,rfl,?_,⟨Zes.nil w w.heap.size,Below.refl _ _⟩⟩
  show _=_
  rw[HS.out,← Hlb.out,List.take_length]
 case round =>
  obtain⟨j,e,X,a,c,hj,he,hX,rfl,rfl,HX,HC⟩:=hrel
  by_cases hpos:0<e
  ·obtain⟨lo,hlo⟩:∃ lo,lo=e-9:=⟨_,rfl⟩;obtain⟨K,hK⟩:∃ K,K=min 9 e:=⟨_,rfl⟩;have hek:e=lo+K:=by omega
   have hK0:0<K:=by omega
   have hK9:K≤9:=by omega
   have Hdv:Hid (Qr (((lb s).drop lo).take K)=Qr (lb s)/1000000000^j%1000000000):=by
    show _=_
    have h:=Zgr (lb s) Hd.out j (by rw[Hlb.out,← HS.out];omega)
    rw[Hlb.out,← HS.out,← he,← hlo,← hK] at h;exact h
   have hXl:(lb X).length=e:=by rw[Yb,hX]
   have Hch:Hid (∀ t,t<K→∃ h:lo+t<X.size,(((lb s).drop lo).take K).getD t 0=X[lo+t]'h):=fun t ht=>by
    have h0:lo+t<X.size:=by omega
    refine⟨h0,?_⟩;have e1:X[lo+t]'h0=(lb X).getD (lo+t) 0:=by
     rw[List.getD_eq_getElem?_getD,List.getElem?_eq_getElem (by rw[hXl];omega)];rfl
    rw[e1,HX.out];simp only[List.getD_eq_getElem?_getD,List.getElem?_take,List.getElem?_drop];rw[if_pos ht,if_pos (by omega)]
   have Hdc:Hid (Za0 (((lb s).drop lo).take K)):=(Hd.out.drop _).take _;have Hlc:Hid ((((lb s).drop lo).take K).length=K):=by
    show _=_
    simp only[List.length_take,List.length_drop,Hlb.out,← HS.out];omega
   have Hnx:Hid ((X.extract 0 lo).size=lo∧lb (X.extract 0 lo)=(lb s).take lo∧lo=S-9*(j+1)):=by
    refine⟨by rw[ByteArray.size_extract];omega,?_,by omega⟩
    rw[Zee,HX.out,List.drop_zero,List.take_take];congr 1;omega
   have hj2:9*(j+1)<S+9:=by omega
   have hez:(0:Int)<e:=by omega
   clear hXl HX;generalize ((lb s).drop lo).take K=ch at *
   have Hek:=hd_ hek;have heS:e≤9000000:=by omega
   have Hlo:Hid (lo=e-9):=hlo;clear he hlo hK hek;have HXs:=hd_ hX
   -- the digits of one piece
   have Hin:Hid (∀ t,t≤K→(t<K↔((lo:Int)+t<e))):=fun t ht=>by have:=Hek.out;constructor<;>intro h<;>omega
   by_cases h9:(9:Int)<e
   ·have hw:IntKind.i64.wrap ((e:Int)-9)=(lo:Nat):=by
     have:=Hlo.out
     rw[show (e:Int)-9=(lo:Nat) by omega];exact iw_ _ (by omega)
    go_wp2_with fail
    go_loopw [5,6] (fun n i w2=>∃ t:Nat,t≤K∧i = .int .i64 ((lo:Int)+t)∧n = .int .i64 (Qr (ch.take t):Nat)∧Hid (w2=wr)) (fun _ i _=>e-(intOf i).toNat)
    case atStart=>exact⟨0,Nat.zero_le _,by simp,rfl,rfl⟩
    case round =>
     obtain⟨t,ht,rfl,rfl,Hww⟩:=hrel;have hww:=Hww.out;subst hww;clear Hww;have hD:=Za5 Hdc.out t (by omega)
     by_cases hlt:t<K
     ·obtain⟨hlo2,hcx⟩:=Hch.out t hlt;have hts:=Yp ch t (by rw[Hlc.out];exact hlt)
      have hcd:=Hdc.out (ch.getD t 0) (by rw[List.getD_eq_getElem?_getD,List.getElem?_eq_getElem (by rw[Hlc.out];exact hlt)];exact List.getElem_mem _)
      have Hts:=hd_ hts;clear hts;generalize Qr (ch.take t)=D at *
      rw[hcx] at hcd Hts;clear hcx;generalize hb:(X[lo+t]'hlo2).toNat=b at *
      obtain⟨hc1,hc2⟩:=hcd;have hlt':(lo:Int)+t<e:=(Hin.out t ht).1 hlt;have e1:IntKind.u8.wrap ((b:Int)-48)=(b:Int)-48:=IntKind.wrap_u8 _ ▸ by omega
      have e2:IntKind.i64.wrap (10*(D:Int))=10*(D:Int):=iw_ _ (by omega)
      have e3:IntKind.i64.wrap (10*(D:Int)+((b:Int)-48))=10*(D:Int)+((b:Int)-48):=iw_ _ (by omega)
      have e4:IntKind.i64.wrap ((lo:Int)+t+1)=(lo:Int)+t+1:=iw_ _ (by omega)
      go_wp2_with fail
      refine⟨⟨t+1,by omega,by go_num,by rw[Hts.out];congr 1;omega,trivial⟩,by simp[intOf];omega⟩
     ·obtain rfl:t=K:=by omega
      have hDt:Qr (ch.take t)=Qr (lb s)/1000000000^j%1000000000:=by
       rw[← Hlc.out,List.take_length];exact Hdv.out
      have HDt:=hd_ hDt;clear hDt;generalize Qr (ch.take t)=D at *
      have hlt':¬ (lo:Int)+t<e:=fun h=>hlt ((Hin.out t ht).2 h)
      have hrow:wr.ownsRow w.heap.size 3 1 (.slice a j c) j (Vc (nI (Yq (Qr (lb s)) j))):=by have:=HC.out.own;unfold Zes at this;rw[Qp,Ks] at this;exact this
      have Hrow:=hd_ hrow;clear hrow;have hloe:((lo:Nat):Int)≤e:=by have:=Hek.out;omega
      have hlo0:(0:Int)≤lo:=by omega
      have hloS:lo≤e:=by have:=Hek.out;omega
      go_wp2_with (at_builtin;refine Km rfl (.tmp 31) (.tmp 33) 35 rfl Zp6 _ 1 [.int .i64 D] rfl rfl Hrow.out HC.out.bel.size rfl ?c1 (by omega) (by omega) ?_)
      case c1=>first | rfl | (intro u hu;obtain rfl:=List.mem_singleton.1 hu;rfl)
      intro v' w3 hown3 hg3 _;obtain⟨a3,c3,rfl⟩:=Qj hown3;have HC3:Hid (Qa1 (Qr (lb s)) (j+1) a3 c3 w w3):=by
       refine⟨?_,(HC.out.bel.alloc HC.out.bel.size _).grown hg3 (by have:=HC.out.bel.size;simp;omega) (fun k hk=>(Hrow.out.lt k hk).1)⟩
       unfold Zes;rw[Qp,Ks,Yj,Zbi,Zc];have:=hown3
       rw[HDt.out] at this;exact this
      clear hown3 hg3 HC
      go_wp2_with fail
      obtain⟨m1,m2,m3⟩:=Hnx.out;refine⟨⟨j+1,lo,X.extract 0 lo,a3,c3,hj2,m3,m1,rfl,rfl,m2,HC3⟩,?_⟩
      show (X.extract 0 lo).size<X.size
      have:=Hek.out
      omega
   ·have hz0:lo=0:=by have:=Hlo.out;omega
    subst hz0;replace Hch:Hid (∀ t,t<K→∃ h:t<X.size,ch.getD t 0=X[t]'h):=fun t ht=>by
     obtain⟨h,e1⟩:=Hch.out t ht;simp only[Nat.zero_add] at h e1;exact⟨h,e1⟩
    replace Hin:Hid (∀ t:Nat,t≤K→(t<K↔((t:Int)<e))):=fun t ht=>by
     have:=Hin.out t ht
     rw[show ((0:Nat):Int)+(t:Int)=t by omega] at this
     exact this
    go_wp2_with fail
    go_loopw [5,6] (fun n i w2=>∃ t:Nat,t≤K∧i = .int .i64 (t:Int)∧n = .int .i64 (Qr (ch.take t):Nat)∧Hid (w2=wr)) (fun _ i _=>e-(intOf i).toNat)
    case atStart=>exact⟨0,Nat.zero_le _,by simp,rfl,rfl⟩
    case round =>
     obtain⟨t,ht,rfl,rfl,Hww⟩:=hrel;have hww:=Hww.out;subst hww;clear Hww;have hD:=Za5 Hdc.out t (by omega)
     by_cases hlt:t<K
     ·obtain⟨hlo2,hcx⟩:=Hch.out t hlt;have hts:=Yp ch t (by rw[Hlc.out];exact hlt)
      have hcd:=Hdc.out (ch.getD t 0) (by rw[List.getD_eq_getElem?_getD,List.getElem?_eq_getElem (by rw[Hlc.out];exact hlt)];exact List.getElem_mem _)
      have Hts:=hd_ hts;clear hts;generalize Qr (ch.take t)=D at *
      rw[hcx] at hcd Hts;clear hcx;generalize hb:(X[t]'hlo2).toNat=b at *
      obtain⟨hc1,hc2⟩:=hcd;have hlt':(t:Int)<e:=(Hin.out t ht).1 hlt;have e1:IntKind.u8.wrap ((b:Int)-48)=(b:Int)-48:=IntKind.wrap_u8 _ ▸ by omega
      have e2:IntKind.i64.wrap (10*(D:Int))=10*(D:Int):=iw_ _ (by omega)
      have e3:IntKind.i64.wrap (10*(D:Int)+((b:Int)-48))=10*(D:Int)+((b:Int)-48):=iw_ _ (by omega)
      have e4:IntKind.i64.wrap ((t:Int)+1)=(t:Int)+1:=iw_ _ (by omega)
      go_wp2_with fail
      refine⟨⟨t+1,by omega,by go_num,by rw[Hts.out];congr 1;omega,trivial⟩,by simp[intOf];omega⟩
     ·obtain rfl:t=K:=by omega
      have hDt:Qr (ch.take t)=Qr (lb s)/1000000000^j%1000000000:=by
       rw[← Hlc.out,List.take_length];exact Hdv.out
      have HDt:=hd_ hDt;clear hDt;generalize Qr (ch.take t)=D at *
      have hlt':¬ (t:Int)<e:=fun h=>hlt ((Hin.out t ht).2 h)
      have hrow:wr.ownsRow w.heap.size 3 1 (.slice a j c) j (Vc (nI (Yq (Qr (lb s)) j))):=by have:=HC.out.own;unfold Zes at this;rw[Qp,Ks] at this;exact this
      have Hrow:=hd_ hrow;clear hrow
      go_wp2_with (at_builtin;refine Km rfl (.tmp 31) (.tmp 33) 35 rfl Zp6 _ 1 [.int .i64 D] rfl rfl Hrow.out HC.out.bel.size rfl ?c1 (by omega) (by omega) ?_)
      case c1=>first | rfl | (intro u hu;obtain rfl:=List.mem_singleton.1 hu;rfl)
      intro v' w3 hown3 hg3 _;obtain⟨a3,c3,rfl⟩:=Qj hown3;have HC3:Hid (Qa1 (Qr (lb s)) (j+1) a3 c3 w w3):=by
       refine⟨?_,(HC.out.bel.alloc HC.out.bel.size _).grown hg3 (by have:=HC.out.bel.size;simp;omega) (fun k hk=>(Hrow.out.lt k hk).1)⟩
       unfold Zes;rw[Qp,Ks,Yj,Zbi,Zc];have:=hown3
       rw[HDt.out] at this;exact this
      clear hown3 hg3 HC
      go_wp2_with fail
      obtain⟨m1,m2,m3⟩:=Hnx.out;refine⟨⟨j+1,0,ByteArray.empty,a3,c3,hj2,m3,rfl,rfl,rfl,(show lb ByteArray.empty=List.take 0 (lb s) from by rw[List.take_zero];rfl),HC3⟩,?_⟩
      show (ByteArray.empty).size<X.size
      have:(ByteArray.empty).size=0:=rfl
      omega
  ·have hz:¬ (0:Int)<e:=by omega
   have hv:val (Yq (Qr (lb s)) j)=Qr (lb s):=by
    rw[Zgo,Nat.mod_eq_of_lt];have h1:=Zx Hd.out;rw[Hlb.out] at h1;have h2:10^s.size≤10^(9*j):=Nat.pow_le_pow_right (by decide) (by have:=HS.out;omega)
    rw[show (1000000000:Nat)^j=10^(9*j) by rw[Nat.pow_mul]]
    omega
   have hjl:(Yq (Qr (lb s)) j).length=j:=Ks _ _;have hcap:=HC.out.own.cap2;rw[Qp,hjl] at hcap;have HT:=hd_ (Zfq wr a c (Yq (Qr (lb s)) j) HC.out.own.rd (Zaw _ _) (by rw[hjl];omega) (by rw[hjl];exact hcap))
   rw[hv,hjl] at HT;have HR:Hid (Rd wr a (Vc (nI (Kf (Qr (lb s)))))):=by
    show Rd _ _ _
    have h1:=Qu (Yq (Qr (lb s)) j) (Zaw _ _);rw[hv] at h1;have h2:=HC.out.own.rd;rw[← h1,← Zme,show ∀ (L:List Int) (k:Nat),Vc (L.take k)=(Vc L).take k from fun L k=>List.map_take]
    exact Zl1 h2 _
   have Hle:Hid ((Kf (Qr (lb s))).length≤c):=by
    show _≤_
    have h1:=Vb (Yq (Qr (lb s)) j) (Zaw _ _);rw[hv,hjl] at h1;omega
   have HB:=hd_ HC.out.bel;clear hv hjl hcap he HX HC
   go_wp2_with fail
   refine cm_ HT.out ?_;rintro e_ w1 ⟨rfl,hb⟩;have B1:=hd_ (HB.out.trans (hb.mono HB.out.size));have R1:=hd_ (HR.out.below hb nr_);clear hb HT
   go_wp2_with fail
   go_ret;exact⟨a,c,rfl,R1.out,Hle.out,B1.out⟩
theorem Zvp{y u:Nat}{x:List UInt8}(hy:0<y)(hd:Za0 x)(hl:x.length=9)(hv:Qr x=u):Lib.decDigits (u+1000000000*y)=Lib.decDigits y++x:=by
 have h1:=Zk1 y;have hc:Zb9 (Lib.decDigits y++x):=by
  refine⟨fun c hc=>?_,fun e=>h1.2.1 (List.append_eq_nil_iff.1 e).1,.inr ?_⟩
  ·rcases List.mem_append.1 hc with h | h
   ·exact h1.1 c h
   ·exact hd c h
  ·rcases h1.2.2 with h2 | h2
   ·have h3:Lib.decDigits y=[UInt8.ofNat (48+y)]:=by
     refine Yd ?_;have:=(Kr y 1 (by decide)).1 (by omega)
     simpa using this
    have h4:y<10:=by
     have:=(Kr y 1 (by decide)).1 (by omega)
     simpa using this
    rw[h3];intro h5;simp only[List.singleton_append,List.head?_cons,Option.some.injEq] at h5;have h6:=congrArg UInt8.toNat h5;simp only[UInt8.toNat_ofNat'] at h6;have h7:(48:UInt8).toNat=48:=rfl;omega
   ·cases e:Lib.decDigits y with
    | nil=>exact absurd e h1.2.1
    | cons c t=>rw[e] at h2;exact h2
 rw[Zk9 hc,Zav,Yv,hl,hv];congr 1;omega
theorem Zqo{L:List Nat}(h:L=[]∨L.getD (L.length-1) 0≠0):∀ d k,L.length=k+d+1→0<val (L.drop k)
 | 0,k,hk=>by
  have h1:=Zbu L k (by omega)
  rcases h with h|h
  ·rw[h] at hk;simp at hk
  ·rw[show L.length-1=k by omega] at h
   omega
 | d+1,k,hk=>by
  have h1:=Zbu L k (by omega)
  have h2:=Zqo h d (k+1) (by omega)
  omega
theorem Zm5{y u:Nat}{X:ByteArray}(hy:0<y)(hd:Za0 (lb X))(hl:X.size=9)(hv:Qr (lb X)=u):dec y++X=dec (u+1000000000*y):=by
 have h:=Zvp hy hd (by rw[Yb];exact hl) hv
 have e:lb (dec y++X)=lb (dec (u+1000000000*y)):=by
  rw[Vw,h];unfold lb;rw[ByteArray.data_append,Array.toList_append];rw[show (dec y).data.toList=Lib.decDigits y from Vw y]
 rw[← bs_lb (dec y++X),e,bs_lb]
theorem Zk0{L:List Nat}(hp:Pcs L)(k:Nat):(dec (val (L.drop k))).size≤9*L.length+1:=by
 rw[Kw];refine(Kr _ _ (by omega)).2 ?_
 have h1:=Znh (l:=L.drop k) (fun x hx=>hp x (List.mem_of_mem_drop hx))
 refine Nat.lt_of_lt_of_le h1 ?_;rw[show (1000000000:Nat)^(L.drop k).length=10^(9*(L.drop k).length) by rw[Nat.pow_mul]]
 exact Nat.pow_le_pow_right (by decide) (by rw[List.length_drop];omega)
theorem Zsj(w:World)(a:Option Addr)(c:Nat)(l:List Nat)(hr:Rd w a (Vc (nI l)))(hp:Pcs l)(hl:l.length≤1000000)(hz:l=[]∨l.getD (l.length-1) 0≠0)(L:Qb w):
  Kc Tryz.prog 187 #[.slice a l.length c] w (.string (dec (val l))):=by
 unfold Kc
 by_cases h0:l.length=0
 ·obtain rfl:l=[]:=List.length_eq_zero_iff.1 h0;rw[show dec (val [])=⟨#[48]⟩ by rw[← Zcr.1];exact(Kj 0).symm]
  rw[List.length_nil];clear hr;go_enter Tryz.func187,Tryz.ntmps187
  go_wp2_with fail
  go_ret;exact⟨rfl,Below.refl _ _⟩
 ·obtain⟨n,hn⟩:∃ n,l.length=n+1:=⟨l.length-1,by omega⟩
  obtain⟨b,off,rfl,hb,hcells⟩:=Zea hr 0 (by omega)
  have Hc:=hd_ (fun W (hW:Below w.heap.size w W) i (hi:i<n+1)=>show W.cell? ⟨b,off+i,none⟩=some (.int .i64 (l.getD i 0:Nat)) from by
   rw[hW.cell (p:=⟨b,off+i,none⟩) hb];exact hcells i (by omega))
  have HI:=hd_ (fun W (hW:Below w.heap.size w W) i=>show Kc Tryz.prog 144 #[.int .i64 (l.getD i 0:Nat)] W (.string (dec (l.getD i 0))) from by
   have h9:=hp.getD i;have:=Zn3 W ((l.getD i 0:Nat):Int) (by omega) (by omega) (L.below hW)
   rw[Kj] at this;exact this)
  have Hv0:Hid (val (l.drop n)=l.getD n 0):=by
   show _=_
   rw[Zbu l n (by omega),List.drop_eq_nil_of_le (by omega)]
   show _+1000000000*0=_
   omega
  have Hvs:=hd_ (fun k (hk:k<n+1)=>Zbu l k (by omega))
  have Hvp:=hd_ (fun k (hk:k<n+1)=>Zqo hz (n-k) k (by omega))
  have Hsz:=hd_ (fun k=>Zk0 hp k)
  have Hp9:=hd_ (fun i=>hp.getD i)
  have Hd0:Hid (l.drop 0=l):=List.drop_zero;rw[hn] at Hsz hl ⊢;have hn1:(((n+1:Nat):Int)==0)=false:=by rw[beq_eq_false_iff_ne];omega
  have hn1':(((n:Int)+1)==0)=false:=by rw[beq_eq_false_iff_ne];omega
  have ew:IntKind.i64.wrap ((n:Int)+1-1)=(n:Nat):=by rw[show (n:Int)+1-1=n by omega];exact iw_ _ (by omega)
  have ew2:IntKind.i64.wrap ((n:Int)+1-2)=(n:Int)-1:=by rw[show (n:Int)+1-2=(n:Int)-1 by omega];exact iw_ _ (by omega)
  have cx:=Hc.out w (Below.refl _ _) n (by omega)
  have HIn:=hd_ (fun W hW=>HI.out W hW n)
  clear hr hp hz L h0 hcells hn;obtain⟨u0,hu0⟩:∃ u0,l.getD n 0=u0:=⟨_,rfl⟩;rw[hu0] at cx HIn Hv0;clear hu0;go_enter Tryz.func187,Tryz.ntmps187
  go_wp2_with fail
  refine cm_ (HIn.out _ (Below.refl _ _)) ?_;rintro e_ w1 ⟨rfl,hb1⟩;have B1:=hd_ hb1;clear hb1 cx HIn
  go_wp2_with fail
  have hst:dec u0=dec (val (l.drop n)):=by rw[Hv0.out]
  rw[hst];clear hst Hv0
  go_loopw [3,4] (fun s i wr=>∃ k:Nat,k≤n∧s = .string (dec (val (l.drop k)))∧i = .int .i64 ((k:Int)-1)∧Hid (Below w.heap.size w wr)) (fun _ i _=>(intOf i+1).toNat)
  case atStart=>exact⟨n,Nat.le_refl _,rfl,rfl,B1⟩
  case round =>
   obtain⟨k,hk,rfl,rfl,B⟩:=hrel
   by_cases hk0:k=0
   ·subst hk0;have hneg:¬ (0:Int)≤((0:Nat):Int)-1:=by omega
    have hneg2:¬ (0:Int) ≤ -1:=by omega
    rw[Hd0.out]
    go_wp2_with fail
    go_ret;exact⟨rfl,B.out⟩
   ·obtain⟨q,rfl⟩:∃ q,k=q+1:=⟨k-1,by omega⟩
    have ei:((q+1:Nat):Int)-1=(q:Int):=by omega
    rw[ei];have cq:=Hc.out wr B.out q (by omega)
    have ew3:IntKind.i64.wrap ((q:Int)-1)=(q:Int)-1:=iw_ _ (by omega)
    have hvq:=Hvs.out q (by omega)
    have Hvq:=hd_ hvq;have Hyp:=hd_ (Hvp.out (q+1) (by omega))
    have hsy:=Hsz.out (q+1);have hu9:=Hp9.out q;have hIq:=hd_ (fun W hW=>HI.out W hW q)
    clear hvq ei;generalize l.getD q 0=u at *
    obtain⟨y,hy⟩:∃ y,val (l.drop (q+1))=y:=⟨_,rfl⟩;rw[hy] at Hyp hsy Hvq ⊢;have hu2:(dec u).size≤9:=by
     rw[Kw];exact(Kr u 9 (by decide)).2 hu9
    have Hud:Hid (Za0 (lb (dec u))):=by show Za0 _;rw[Vw];exact Zq u
    have Huv:Hid (Qr (lb (dec u))=u):=by show _=_;rw[Vw];exact Yv u
    clear hy
    go_wp2_with fail
    refine cm_ (hIq.out _ B.out) ?_;rintro e_ w2 ⟨rfl,hb2⟩;have B2:=hd_ (B.out.trans (hb2.mono B.out.size));clear hb2 B cq hIq
    go_wp2_with fail
    go_loopw [5] (fun x w'=>∃ X:ByteArray,x = .string X∧X.size≤9∧Hid (Za0 (lb X))∧Hid (Qr (lb X)=u)∧Hid (w'=w2)) (fun x _=>match x with | .string X=>9-X.size | _=>0)
    case atStart=>exact⟨dec u,rfl,hu2,Hud,Huv,rfl⟩
    case round =>
     obtain⟨X,rfl,hX,Hxd,Hxv,Hww⟩:=hrel;have hww:=Hww.out;subst hww;clear Hww
     by_cases h9:X.size<9
     ·have h9':(X.size:Int)<9:=by omega
      have hX2:lb (⟨#[48]⟩++X)=48::lb X:=by
       unfold lb;rw[ByteArray.data_append,Array.toList_append];rfl
      have hXs:(⟨#[48]⟩++X:ByteArray).size=X.size+1:=by rw[← Yb,hX2,List.length_cons,Yb]
      have HX2:=hd_ hX2;have HXs:=hd_ hXs;clear hX2 hXs
      go_wp2_with fail
      refine⟨⟨⟨#[48]⟩++X,rfl,by rw[HXs.out];omega,?_,?_,trivial⟩,?_⟩
      ·show Za0 _
       rw[HX2.out];intro c hc;rcases List.mem_cons.1 hc with rfl|h
       ·exact⟨by decide,by decide⟩
       ·exact Hxd.out c h
      ·show _=_
       rw[HX2.out,Zae,Hxv.out]
       show (48-48)*_+u=u
       omega
      ·show 9-(⟨#[48]⟩++X:ByteArray).size<9-X.size
       rw[HXs.out];omega
     ·have h9':¬ (X.size:Int)<9:=by omega
      have HT:Hid (dec y++X=dec (val (l.drop q))):=by
       show _=_
       rw[Hvq.out];exact Zm5 Hyp.out Hxd.out (by omega) Hxv.out
      go_wp2_with fail
      refine⟨⟨q,by omega,by rw[HT.out],rfl,B2⟩,by simp[intOf]⟩
theorem Zps(n:Nat):Kf n=[]∨(Kf n).getD ((Kf n).length-1) 0≠0:=by
 induction n using Nat.strongRecOn with
 | ind n ih =>
  by_cases h:n=0
  ·left;subst h;exact Qo
  ·right;have e:Kf n=n%1000000000::Kf (n/1000000000):=by rw[Kf,dif_neg h]
   have h1:=ih (n/1000000000) (Nat.div_lt_self (by omega) (by decide))
   rw[e];rcases h1 with h2|h2
   ·rw[h2];have h3:=Kp (n/1000000000);rw[h2] at h3;have h4:n/1000000000=0:=h3.symm
    show n%1000000000≠0
    omega
   ·cases e2:Kf (n/1000000000) with
    | nil=>rw[e2] at h2;exact absurd rfl h2
    | cons x t=>rw[e2] at h2;exact h2
theorem Zf0(w:World)(a:Option Addr)(c:Nat)(l:List Nat)(hr:Rd w a (Vc (nI l)))(hp:Pcs l)(hl:l.length≤1000000)(hc:l.length≤c)(L:Qb w):
  Kc Tryz.prog 119 #[.bool false,.slice a l.length c] w (.string (dec (val l))):=by
 unfold Kc;have HT:=hd_ (Zfq w a c l hr hp hl hc);have HJ:=hd_ (fun W (hW:Below w.heap.size w W)=>show Kc Tryz.prog 187 #[.slice a (Kf (val l)).length c] W (.string (dec (val l))) from by
  have h1:=Qu l hp;have h2:Rd w a (Vc (nI (Kf (val l)))):=by
   rw[← h1,← Zme,show ∀ (L:List Int) (k:Nat),Vc (L.take k)=(Vc L).take k from fun L k=>List.map_take]
   exact Zl1 hr _
  have h3:=Vb l hp;have h4:=Zsj W a c (Kf (val l)) (h2.below hW nr_) (Ko _) (by omega) (Zps _) (L.below hW)
  rw[Kp] at h4;exact h4)
 clear hr hp hl hc L;generalize (Kf (val l)).length=m at *
 generalize l.length=n at *
 generalize dec (val l)=s at *
 go_enter Tryz.func119,Tryz.ntmps119
 go_wp2_with fail
 refine cm_ HT.out ?_;rintro e_ w1 ⟨rfl,hb⟩;have B1:=hd_ hb;clear hb HT
 go_wp2_with fail
 refine cm_ (HJ.out _ B1.out) ?_;rintro e_ w2 ⟨rfl,hb⟩;have B2:=hd_ (B1.out.trans (hb.mono B1.out.size));clear hb HJ B1
 go_wp2_with fail
 go_ret;exact⟨rfl,B2.out⟩
def Zov (w:World) (B:Nat) (a:Option Addr) (c:Nat) (l:List Nat):Prop:=Zes w B a c (nI l)
theorem Zov.open{w:World}{B c:Nat}{a:Option Addr}{l:List Nat}(h:Zov w B a c l)(hn:0<l.length):
  ∃ g,a=some ⟨g,0,none⟩∧B≤g∧g<w.heap.size∧l.length≤c∧(∀ j,j<l.length→w.cell? ⟨g,j,none⟩=some (.int .i64 (l.getD j 0:Nat)))∧(∀ j,w.frozen? ⟨g,j,none⟩=false):=by
 obtain⟨g,cap,hv,h1,h2,h3,h4,h5⟩:=Vv h (by rw[Qp];exact hn)
 simp only[Value.slice.injEq] at hv;obtain⟨rfl,-,rfl⟩:=hv;rw[Qp] at h3 h4;refine⟨g,rfl,h1,h2,h3,fun j hj=>?_,h5⟩
 have h6:j<(nI l).length:=by rw[Qp];exact hj
 rw[h4 j (by omega),Yh (nI l) j h6,Zwm l j hj h6]
theorem Zov.store{w:World}{B c g:Nat}{l:List Nat}(h:Zov w B (some ⟨g,0,none⟩) c l)(j x:Nat):
  Zov (w.setCell ⟨g,j,none⟩ (.int .i64 (x:Nat))) B (some ⟨g,0,none⟩) c (l.set j x):=by
 have:=(World.ownsRow.stored h j (.int .i64 (x:Nat))).1
 unfold Zov Zes;rw[← Zy5,List.length_set,show Vc ((nI l).set j (x:Int))=(Vc (nI l)).set j (.int .i64 x) by simp[Vc,List.map_set]]
 exact this
theorem Zov.below{w w':World}{B c:Nat}{a:Option Addr}{l:List Nat}(h:Zov w B a c l){D:Nat}(hb:Below D w w')(hD:w.heap.size≤D):Zov w' B a c l:=Zes.below h hb hD
theorem Zov.rd{w:World}{B c:Nat}{a:Option Addr}{l:List Nat}(h:Zov w B a c l):Rd w a (Vc (nI l)):=Zes.rd h
theorem Zrp(w:World)(l:List Nat)(hl:l.length≤100000000):Zov (w.alloc (.cells (Vc (nI l)).toArray 3)) w.heap.size (some ⟨w.heap.size,0,none⟩) l.length l :=
 ⟨by simp[Qe],.inr ⟨w.heap.size,(nI l).length,(Vc (nI l)).toArray,by rw[Qp],Nat.le_refl _,heap_alloc_new _ _,Nat.le_refl _,by rw[Qp];unfold maxLen;omega,by simp[Qe],by rw[Nat.mul_one];exact List.take_of_length_le (by simp[Qe])⟩⟩
theorem Zmf(n:Nat):(madeCells #[.int .i64 0] n)=(Vc (nI (List.replicate n 0))).toArray:=by
 apply Array.ext';rw[toList_madeCells_one];simp[Vc,nI]
theorem Zy9(n:Nat)(w:World)(hn:n≤100000000):
  (Instr.makeSlice 35 (.int .i64 (n:Int)) (.int .i64 (n:Int))).run Tryz.prog w = .ok (.slice (some ⟨w.heap.size,0,none⟩) n n) (w.alloc (.cells (Vc (nI (List.replicate n 0))).toArray 3)):=by
 have:=run_make_row' (P:=Tryz.prog) 35 3 (.int .i64 0) 8 Tryz.underlying35 Zzq rfl .i64 .i64 n (by omega) (by omega) w
 rw[Zmf] at this;exact this
structure TuO (p q:List Nat) (B k:Nat) (L:List Nat) (w wr:World):Prop where
 len:L.length=p.length+q.length+1
 pcs:Pcs L
 v:val L=val (p.take k)*val q
 z:∀ j,k+q.length≤j→L.getD j 0=0
 own:Zov wr B (some ⟨B,0,none⟩) (p.length+q.length+1) L
 bel:Below B w wr
structure TuI (p q L:List Nat) (B i m cc:Nat) (M:List Nat) (w wr:World):Prop where
 len:M.length=p.length+q.length+1
 pcs:Pcs M
 v:val M+1000000000^(i+m)*cc=val L+1000000000^i*(p.getD i 0*val (q.take m))
 z:∀ j,i+q.length≤j→M.getD j 0=0
 own:Zov wr B (some ⟨B,0,none⟩) (p.length+q.length+1) M
 bel:Below B w wr
theorem Zo3(w:World)(a1 a2:Option Addr)(c1 c2:Nat)(p q:List Nat)(h1:Rd w a1 (Vc (nI p)))(h2:Rd w a2 (Vc (nI q)))(p1:Pcs p)(p2:Pcs q)(l1:p.length≤400000)(l2:q.length≤400000):
  Ze5 121 #[.slice a1 p.length c1,.slice a2 q.length c2] w (val p*val q):=by
 unfold Ze5;have H1:=hd_ h1;have H2:=hd_ h2;have P1:=hd_ p1;have P2:=hd_ p2;clear h1 h2 p1 p2;obtain⟨n,hn⟩:∃ n,p.length=n:=⟨_,rfl⟩;obtain⟨m,hm⟩:∃ m,q.length=m:=⟨_,rfl⟩;rw[hn] at l1 ⊢;rw[hm] at l2 ⊢;have Hn:=hd_ hn;have Hm:=hd_ hm;clear hn hm;have hmk:=Zy9 (n+m+1) w (by omega)
 have Hown:=hd_ (Zrp w (List.replicate (n+m+1) 0) (by simp;omega))
 have Hb:=hd_ ((Below.refl w.heap.size w).alloc nr_ (.cells (Vc (nI (List.replicate (n+m+1) 0))).toArray 3))
 push_cast at hmk
 have e1:IntKind.i64.wrap ((n:Int)+m)=(n:Int)+m:=iw_ _ (by omega)
 have e2:IntKind.i64.wrap ((n:Int)+m+1)=(n:Int)+m+1:=iw_ _ (by omega)
 generalize w.alloc (.cells (Vc (nI (List.replicate (n+m+1) 0))).toArray 3)=w5 at *
 go_enter Tryz.func121,Tryz.ntmps121
 go_wp2_with fail
 go_loopw [6] (fun i wr=>∃ (k:Nat) (L:List Nat),k≤n∧i = .int .i64 k∧Hid (TuO p q w.heap.size k L w wr)) (fun i _=>n-(intOf i).toNat)
 case atStart =>
  refine⟨0,List.replicate (n+m+1) 0,Nat.zero_le _,rfl,?_⟩;refine⟨by simp[Hn.out,Hm.out],Pcs.zeros _,by simp[Zdi,val],fun j _=>?_,?_,Hb.out⟩
  ·rw[List.getD_eq_getElem?_getD,List.getElem?_replicate];split<;>rfl
  ·have:=Hown.out
   rw[List.length_replicate] at this;rw[Hn.out,Hm.out];exact this
 case round =>
  obtain⟨k,L,hk,rfl,HT⟩:=hrel;clear Hown Hb hmk
  by_cases hlt:k<n
  ·obtain⟨b1,o1,rfl,hb1,hc1⟩:=Zea H1.out k (by rw[Hn.out];exact hlt)
   have hlt':(k:Int)<n:=by omega
   go_wp2_with fail
   go_loopw [7,8] (fun c j wr=>∃ (t cc:Nat) (M:List Nat),cc<1000000000∧j = .int .i64 t∧c = .int .i64 cc∧((t≤m∧Hid (TuI p q L w.heap.size k t cc M w wr))∨(t=m+1∧cc=0∧Hid (TuO p q w.heap.size (k+1) M w wr)))) (fun _ j _=>m+1-(intOf j).toNat)
   case atStart =>
    refine⟨0,0,L,by omega,rfl,rfl,.inl ⟨Nat.zero_le _,?_⟩⟩
    exact⟨HT.out.len,HT.out.pcs,by simp[val],fun j hj=>HT.out.z j hj,HT.out.own,HT.out.bel⟩
   case round =>
    obtain⟨t,cc,M,hcc,rfl,rfl,hor⟩:=hrel;rcases hor with⟨ht,HI⟩|⟨rfl,rfl,HO⟩
    ·obtain⟨g,hg,hg1,hg2,hg3,hg4,hg5⟩:=HI.out.own.open (by rw[HI.out.len];omega)
     obtain rfl:w.heap.size=g:=by simpa using hg
     clear hg
     by_cases hlt2:t<m
     ·have cx:=hc1 k (by rw[Hn.out];exact hlt)
      rw[← HI.out.bel.cell (p:=⟨b1,o1+k,none⟩) hb1] at cx;have hx:=P1.out.getD k;obtain⟨x,hxx⟩:∃ x,p.getD k 0=x:=⟨_,rfl⟩;rw[hxx] at cx hx;have Hxx:=hd_ hxx;clear hxx;obtain⟨b2,o2,rfl,hb2,hc2⟩:=Zea H2.out t (by rw[Hm.out];exact hlt2)
      have cy:=hc2 t (by rw[Hm.out];exact hlt2)
      rw[← HI.out.bel.cell (p:=⟨b2,o2+t,none⟩) hb2] at cy;have hy:=P2.out.getD t;have ce:=hg4 (k+t) (by rw[HI.out.len,Hn.out,Hm.out];omega)
      have he:=HI.out.pcs.getD (k+t);have fe:=hg5 (k+t);have hxy:=Znx hx hy;have hstep:=Zhh M q k t x cc (val L) (by rw[Hm.out];exact hlt2) (by rw[HI.out.len,Hn.out,Hm.out];omega) (by have:=HI.out.v;rw[Hxx.out] at this;exact this)
      have HI2:Hid (∀ nq,TuI p q L w.heap.size k (t+1) ((cc+(M.getD (k+t) 0+x*q.getD t 0))/1000000000) (M.set (k+t) ((cc+(M.getD (k+t) 0+x*q.getD t 0))%1000000000)) w ((wr.drewN nq).setCell ⟨w.heap.size,k+t,none⟩ (.int .i64 ((cc+(M.getD (k+t) 0+x*q.getD t 0))%1000000000:Nat)))) :=
       fun nq=>⟨by rw[List.length_set];exact HI.out.len,HI.out.pcs.set _ _ (Nat.mod_lt _ (by decide)),by rw[Hxx.out];exact hstep,fun j hj=>by rw[Ya _ _ _ _ (by have:=Hm.out;omega)];exact HI.out.z j hj,(HI.out.own.below (Qg (Below.refl _ _) nq) nr_).store (k+t) _,(Qg HI.out.bel nq).setCell (p:=⟨w.heap.size,k+t,none⟩) nr_ _⟩
      clear hstep hc2 hg4 hg5;generalize M.getD (k+t) 0=e at *
      generalize q.getD t 0=y at *
      have hxyc:(x:Int)*(y:Int)=((x*y:Nat):Int):=by rw[Int.natCast_mul]
      generalize x*y=xy at *
      have hm1:IntKind.i64.wrap (xy:Int)=(xy:Int):=iw_ _ (by omega)
      have hm2:IntKind.i64.wrap ((e:Int)+(cc:Int))=(e:Int)+(cc:Int):=iw_ _ (by omega)
      have hm3:IntKind.i64.wrap ((e:Int)+(cc:Int)+(xy:Int))=(e:Int)+(cc:Int)+(xy:Int):=iw_ _ (by omega)
      have hk1:IntKind.i64.wrap ((k:Int)+(t:Int))=((k+t:Nat):Int):=by rw[← Int.natCast_add];exact iw_ _ (by have:=Hn.out;omega)
      have hk2:IntKind.i64.wrap ((t:Int)+1)=((t+1:Nat):Int):=by rw[← Int.natCast_succ];exact iw_ _ (by omega)
      have hd1:Int.tmod ((e:Int)+(cc:Int)+(xy:Int)) 1000000000=(((cc+(e+xy))%1000000000:Nat):Int):=by rw[Int.tmod_eq_emod_of_nonneg (by omega)];omega
      have hd1':((e:Int)+(cc:Int)+(xy:Int))%1000000000=(((cc+(e+xy))%1000000000:Nat):Int):=by omega
      have hd2:Int.tdiv ((e:Int)+(cc:Int)+(xy:Int)) 1000000000=(((cc+(e+xy))/1000000000:Nat):Int):=by rw[Int.tdiv_eq_ediv_of_nonneg (by omega)];omega
      have hd2':((e:Int)+(cc:Int)+(xy:Int))/1000000000=(((cc+(e+xy))/1000000000:Nat):Int):=by omega
      have hd3:(cc+(e+xy))/1000000000<1000000000:=by omega
      have hd4:(cc+(e+xy))%1000000000<1000000000:=Nat.mod_lt _ (by decide)
      generalize (cc+(e+xy))/1000000000=cd at *
      generalize (cc+(e+xy))%1000000000=d at *
      have hm4:IntKind.i64.wrap (cd:Int)=(cd:Int):=iw_ _ (by omega)
      have hm5:IntKind.i64.wrap (d:Int)=(d:Int):=iw_ _ (by omega)
      have hlt2':(t:Int)<m:=by omega
      clear HT HI
      go_wp2_with fail
      go_quiet (fail)
      go_wp2_with fail
      refine⟨⟨t+1,cd,_,hd3,by go_num,rfl,.inl ⟨by omega,HI2.out _⟩⟩,by simp[intOf];omega⟩
     ·obtain rfl:t=m:=by omega
      have fe:=hg5 (k+t);have ce:=hg4 (k+t) (by rw[HI.out.len,Hn.out,Hm.out];omega)
      have hz0:M.getD (k+t) 0=0:=HI.out.z _ (by rw[Hm.out];exact Nat.le_refl _)
      rw[hz0] at ce;have hrow:=Zjw L M p q k cc (by rw[Hn.out];exact hlt) (by rw[HI.out.len,Hn.out,Hm.out];omega) (by rw[Hm.out];exact hz0) HT.out.v (by rw[Hm.out];exact HI.out.v)
      rw[Hm.out] at hrow;have hlt2':¬ (t:Int)<t:=by omega
      by_cases hc0:cc=0
      ·subst hc0;have hset:M.set (k+t) 0=M:=by
        refine List.ext_getElem (by simp) fun i h1 h2=>?_
        by_cases hi:k+t=i
        ·subst hi;rw[List.getElem_set_self];rw[List.getD_eq_getElem?_getD,List.getElem?_eq_getElem h2] at hz0;exact hz0.symm
        ·rw[List.getElem_set_ne hi]
       rw[hset] at hrow;have HO:Hid (TuO p q w.heap.size (k+1) M w wr):=⟨HI.out.len,HI.out.pcs,hrow,fun j hj=>HI.out.z j (by omega),HI.out.own,HI.out.bel⟩
       have hn0:¬ (0:Int)<0:=by omega
       clear hrow hg4 hg5 hlt2 HT hz0 hset HI
       go_wp2_with fail
       refine⟨⟨k+1,M,by omega,by go_num,HO⟩,by simp[intOf];omega⟩
      ·have hcp:(0:Int)<cc:=by omega
       have hk1:IntKind.i64.wrap ((k:Int)+(t:Int))=((k+t:Nat):Int):=by rw[← Int.natCast_add];exact iw_ _ (by have:=Hn.out;omega)
       have hk2:IntKind.i64.wrap ((t:Int)+1)=((t+1:Nat):Int):=by rw[← Int.natCast_succ];exact iw_ _ (by omega)
       have hm2:IntKind.i64.wrap (cc:Int)=(cc:Int):=iw_ _ (by omega)
       have hd1:Int.tmod (cc:Int) 1000000000=(cc:Int):=by rw[Int.tmod_eq_emod_of_nonneg (by omega)];omega
       have hd1':(cc:Int)%1000000000=(cc:Int):=by omega
       have hd2:Int.tdiv (cc:Int) 1000000000=0:=by rw[Int.tdiv_eq_ediv_of_nonneg (by omega)];omega
       have hd2':(cc:Int)/1000000000=0:=by omega
       have HO:Hid (TuO p q w.heap.size (k+1) (M.set (k+t) cc) w (wr.setCell ⟨w.heap.size,k+t,none⟩ (.int .i64 (cc:Nat)))) :=
        ⟨by rw[List.length_set];exact HI.out.len,HI.out.pcs.set _ _ hcc,hrow,fun j hj=>by rw[Ya _ _ _ _ (by have:=Hm.out;omega)];exact HI.out.z j (by omega),HI.out.own.store (k+t) cc,HI.out.bel.setCell (p:=⟨w.heap.size,k+t,none⟩) nr_ _⟩
       clear hrow hg4 hg5 hlt2 HT hz0 HI
       go_wp2_with fail
       refine⟨⟨t+1,0,_,by omega,by go_num,rfl,.inr ⟨rfl,rfl,HO⟩⟩,by simp[intOf]⟩
    ·have hlt2:¬ ((m:Int)+1<m):=by omega
     clear HT
     go_wp2_with fail
     refine⟨⟨k+1,M,by omega,by go_num,HO⟩,by simp[intOf];omega⟩
  ·obtain rfl:k=n:=by omega
   have hlt':¬ (k:Int)<k:=by omega
   have hv:val L=val p*val q:=by
    have:=HT.out.v
    rw[← Hn.out,List.take_length] at this;exact this
   have hlen:L.length=k+m+1:=by rw[HT.out.len,Hn.out,Hm.out]
   have htr:=Zfq wr (some ⟨w.heap.size,0,none⟩) (k+m+1) L HT.out.own.rd HT.out.pcs (by omega) (by omega)
   rw[hlen,hv] at htr;have Htr:=hd_ htr;have h3:=Vb L HT.out.pcs;have h4:=Qu L HT.out.pcs;rw[hv,hlen] at h3;rw[hv] at h4;have HR:Hid (Rd wr (some ⟨w.heap.size,0,none⟩) (Vc (nI (Kf (val p*val q))))):=by
    show Rd _ _ _
    rw[← h4,← Zme,show ∀ (L:List Int) (k:Nat),Vc (L.take k)=(Vc L).take k from fun L k=>List.map_take]
    exact Zl1 HT.out.own.rd _
   have HB:=hd_ HT.out.bel;have H3:=hd_ h3;clear htr hv hlen h3 h4 HT
   push_cast at Htr
   go_wp2_with fail
   refine cm_ Htr.out ?_;rintro e_ w6 ⟨rfl,hb6⟩;have B6:=hd_ (HB.out.trans (hb6.mono HB.out.size));have R6:=hd_ (HR.out.below hb6 nr_);clear hb6 Htr
   go_wp2_with fail
   go_ret;exact⟨some ⟨w.heap.size,0,none⟩,k+m+1,rfl,R6.out,H3.out,B6.out⟩
theorem Zcv(w:World)(n:Nat)(hn:Num n):Ze5 122 #[.string (dec n)] w n:=by
 have h1:(dec n).size≤1000000:=hn;have:=Zo7 (dec n) w (by rw[Vw];exact Zq n) (by omega)
 rw[show Qr (lb (dec n))=n from by rw[Vw];exact Yv n] at this
 exact this
theorem Zat(n:Nat)(hn:Num n):(Kf n).length≤400000:=by
 have h:(dec n).size≤1000000:=hn;obtain⟨k,hk⟩:∃ k,k=400000:=⟨_,rfl⟩;rw[← hk,Kn];have h1:=(Yz n (9*k) (by omega)).1 (by omega)
 rwa [Nat.pow_mul] at h1
theorem Zup(w:World)(x y:Nat)(hx:Num x)(hy:Num y)(L:Qb w):
  Kc Tryz.prog 44 #[.string (dec x),.string (dec y)] w (.string (dec (x*y))):=by
 unfold Kc;have hx1:(dec x).size≤1000000:=hx;have hy1:(dec y).size≤1000000:=hy;have D1:=hd_ fun w:World=>Zax w x
 have D2:=hd_ fun w:World=>Zax w y
 by_cases hs:(dec x).size+(dec y).size≤18
 ·have Q1:=hd_ fun w:World=>Zcx w x
  have Q2:=hd_ fun w:World=>Zcx w y
  rw[if_pos (by omega)] at Q1 Q2
  have d1:=(Kr x (dec x).size (by rw[Kw];exact Yn x)).1 (by rw[Kw];exact Nat.le_refl _)
  have d2:=(Kr y (dec y).size (by rw[Kw];exact Yn y)).1 (by rw[Kw];exact Nat.le_refl _)
  have d3:x*y<10^((dec x).size+(dec y).size):=by rw[Nat.pow_add];exact Nat.mul_lt_mul_of_lt_of_lt d1 d2
  have d4:10^((dec x).size+(dec y).size)≤10^18:=Nat.pow_le_pow_right (by decide) hs
  have d5:x*y<1000000000000000000:=by omega
  have hw1:IntKind.i64.wrap ((x:Int)*(y:Int))=((x*y:Nat):Int):=by rw[← Int.natCast_mul];exact iw_ _ (by omega)
  have HOf:=hd_ fun (W:World) (hW:Below w.heap.size w W)=>Ziv W ((x*y:Nat):Int) (by omega) (by omega) (L.below hW)
  rw[Kj] at HOf;have hs':((dec x).size:Int)+(dec y).size≤18:=by omega
  clear d1 d2 d3 d4 d5 hx hy hx1 hy1 L;generalize dec (x*y)=r at *
  generalize x*y=u at *
  generalize dec x=s1 at *
  generalize dec y=s2 at *
  go_enter Tryz.func44,Tryz.ntmps44
  go_wp2_with fail
  refine cm_ (D1.out _) ?_;rintro e w1 ⟨rfl,hb1⟩;have Hb1:=hd_ hb1;clear hb1
  go_wp2_with fail
  refine cm_ (D2.out _) ?_;rintro e w2 ⟨rfl,hb2⟩;have Hb2:=hd_ (Hb1.out.trans (hb2.mono Hb1.out.size));clear hb2 Hb1
  go_wp2_with fail
  refine Calls.mono (Q1.out _) ?_;rintro e w3 ⟨rfl,hb3⟩;have Hb3:=hd_ (Hb2.out.trans (hb3.mono Hb2.out.size));clear hb3 Hb2
  go_wp2_with fail
  refine Calls.mono (Q2.out _) ?_;rintro e w4 ⟨rfl,hb4⟩;have Hb4:=hd_ (Hb3.out.trans (hb4.mono Hb3.out.size));clear hb4 Hb3
  go_wp2_with fail
  refine cm_ (HOf.out _ Hb4.out) ?_;rintro e w5 ⟨rfl,hb5⟩;have Hb5:=hd_ (Hb4.out.trans (hb5.mono Hb4.out.size));clear hb5 Hb4
  go_wp2_with fail
  go_ret;exact⟨rfl,Hb5.out⟩
 ·have hs':¬ ((dec x).size:Int)+(dec y).size≤18:=by omega
  have S1:=hd_ fun w:World=>Zdl w x
  have S2:=hd_ fun w:World=>Zdl w y
  have SP1:=hd_ fun w:World=>Zcv w x hx
  have SP2:=hd_ fun w:World=>Zcv w y hy
  unfold Ze5 at SP1 SP2;have HT:=hd_ fun (W:World) (a1 a2:Option Addr) (c1 c2:Nat) (h1:Rd W a1 (Vc (nI (Kf x)))) (h2:Rd W a2 (Vc (nI (Kf y))))=>Zo3 W a1 a2 c1 c2 (Kf x) (Kf y) h1 h2 (Ko _) (Ko _) (Zat x hx) (Zat y hy)
  rw[Kp,Kp] at HT;unfold Ze5 at HT;have hnl:(Kf (x*y)).length≤1000000:=by
   have h1:=Zex x y;have h2:=Zat x hx;have h3:=Zat y hy;omega
  have HG:=hd_ fun (W:World) (a:Option Addr) (c:Nat) (h:Rd W a (Vc (nI (Kf (x*y))))) (hc:(Kf (x*y)).length≤c) (LW:Qb W)=>Zf0 W a c (Kf (x*y)) h (Ko _) hnl hc LW
  rw[Kp] at HG;have HL:=hd_ L;clear hx hy L hnl;generalize dec (x*y)=r at *
  generalize dec x=s1 at *
  generalize dec y=s2 at *
  obtain⟨lp,hlp⟩:∃ lp,(Kf x).length=lp:=⟨_,rfl⟩;obtain⟨lq,hlq⟩:∃ lq,(Kf y).length=lq:=⟨_,rfl⟩;obtain⟨lr,hlr⟩:∃ lr,(Kf (x*y)).length=lr:=⟨_,rfl⟩;rw[hlp] at SP1 HT;rw[hlq] at SP2 HT;rw[hlr] at HT HG;clear hlp hlq hlr;go_enter Tryz.func44,Tryz.ntmps44
  go_wp2_with fail
  refine cm_ (D1.out _) ?_;rintro e w1 ⟨rfl,hb1⟩;have Hb1:=hd_ hb1;clear hb1
  go_wp2_with fail
  refine cm_ (D2.out _) ?_;rintro e w2 ⟨rfl,hb2⟩;have Hb2:=hd_ (Hb1.out.trans (hb2.mono Hb1.out.size));clear hb2 Hb1
  go_wp2_with fail
  refine cm_ (S1.out _) ?_;rintro e w3 ⟨rfl,hb3⟩;have Hb3:=hd_ (Hb2.out.trans (hb3.mono Hb2.out.size));clear hb3 Hb2
  go_wp2_with fail
  refine cm_ (S2.out _) ?_;rintro e w4 ⟨rfl,hb4⟩;have Hb4:=hd_ (Hb3.out.trans (hb4.mono Hb3.out.size));clear hb4 Hb3
  go_wp2_with fail
  refine cm_ (D1.out _) ?_;rintro e w5 ⟨rfl,hb5⟩;have Hb5:=hd_ (Hb4.out.trans (hb5.mono Hb4.out.size));clear hb5 Hb4
  go_wp2_with fail
  refine cm_ (SP1.out _) ?_;rintro e w6 ⟨a1,c1,rfl,r1,hc1,hb6⟩;have Hb6:=hd_ (Hb5.out.trans (hb6.mono Hb5.out.size));have R1:=hd_ r1;clear hb6 Hb5 r1 hc1
  go_wp2_with fail
  refine cm_ (D2.out _) ?_;rintro e w7 ⟨rfl,hb7⟩;have Hb7:=hd_ (Hb6.out.trans (hb7.mono Hb6.out.size));replace R1:=hd_ (R1.out.below hb7 nr_);clear hb7 Hb6
  go_wp2_with fail
  refine cm_ (SP2.out _) ?_;rintro e w8 ⟨a2,c2,rfl,r2,hc2,hb8⟩;have Hb8:=hd_ (Hb7.out.trans (hb8.mono Hb7.out.size));replace R1:=hd_ (R1.out.below hb8 nr_);have R2:=hd_ r2;clear hb8 Hb7 r2 hc2
  go_wp2_with fail
  refine cm_ (HT.out _ a1 a2 c1 c2 R1.out R2.out) ?_;rintro e w9 ⟨a3,c3,rfl,r3,hc3,hb9⟩;have Hb9:=hd_ (Hb8.out.trans (hb9.mono Hb8.out.size));have R3:=hd_ r3;have HC3:=hd_ hc3;clear hb9 Hb8 r3 hc3 R1 R2 HT
  go_wp2_with fail
  refine cm_ (HG.out _ a3 c3 R3.out HC3.out (HL.out.below Hb9.out)) ?_;rintro e w10 ⟨rfl,hb10⟩;have Hb10:=hd_ (Hb9.out.trans (hb10.mono Hb9.out.size));clear hb10 Hb9
  go_wp2_with fail
  go_ret;exact⟨rfl,Hb10.out⟩
theorem Zcy(w:World)(b n:Nat)(hb:1≤b)(hN:Num (b^(2*n+2)))(hn:n≤1000000)(L:Qb w):
  Kc Tryz.prog 45 #[.string (dec b),.int .i64 n] w (.string (dec (b^n))):=by
 unfold Kc;have HN:Hid (∀ k,k≤2*n+2→Num (b^k)):=fun k hk=>Nat.le_trans (Zoh (Nat.pow_le_pow_right hb hk)) hN
 have HM:=hd_ fun (W:World) (x y:Nat) (hx:x≤2*n+2) (hy:y≤2*n+2) (hW:Below w.heap.size w W)=>Zup W (b^x) (b^y) (HN.out x hx) (HN.out y hy) (L.below hW)
 have H1:Hid (dec (b^0)=⟨#[49]⟩):=by show _=_;rw[Nat.pow_zero,Vf]
 have Hb1:Hid (dec b=dec (b^1)):=by show _=_;rw[Nat.pow_one]
 clear hN L;go_enter Tryz.func45,Tryz.ntmps45
 go_wp2_with fail
 go_loopw [0,1,5] (fun A m o wr=>∃ (k x y:Nat),A = .string (dec (b^y))∧m = .int .i64 k∧o = .string (dec (b^x))∧k≤n∧Hid (x+y*k=n)∧Hid (y≤2*n+2)∧Hid (Below w.heap.size w wr)) (fun _ m _ _=>(intOf m).toNat)
 case atStart =>
  refine⟨n,0,1,by rw[Hb1.out],rfl,by rw[H1.out],Nat.le_refl _,?_,?_,Below.refl _ _⟩
  ·show _=_;omega
  ·show _≤_;omega
 case round =>
  obtain⟨k,x,y,rfl,rfl,rfl,hk,Hxy,Hy,HB⟩:=hrel
  by_cases hk0:k=0
  ·subst hk0;have hk1:¬ (0:Int)<((0:Nat):Int):=by omega
   have Hx2:Hid (x=n):=by show _=_;have:=Hxy.out;omega
   go_wp2_with fail
   go_ret;exact⟨by rw[Hx2.out];rfl,HB.out⟩
  ·have hk1:(0:Int)<k:=by omega
   have Hx:Hid (x≤2*n+2):=by show _≤_;have:=Hxy.out;omega
   have Hyn:Hid (y≤n):=by
    show _≤_
    have:=Hxy.out
    have h2:y*1≤y*k:=Nat.mul_le_mul_left _ (by omega)
    omega
   have hdiv:Int.tdiv (k:Int) 2=((k/2:Nat):Int):=by rw[Int.tdiv_eq_ediv_of_nonneg (by omega)];omega
   have hdiv':(k:Int)/2=((k/2:Nat):Int):=by omega
   have hwd:IntKind.i64.wrap ((k/2:Nat):Int)=((k/2:Nat):Int):=iw_ _ (by omega)
   have Hsq:Hid (Kc Tryz.prog 44 #[.string (dec (b^y)),.string (dec (b^y))] wr (.string (dec (b^(y+y))))):=by
    have:=HM.out wr y y Hy.out Hy.out HB.out
    rw[← Nat.pow_add] at this;exact this
   have Hev:Hid (x+(y+y)*(k/2)=n∨k%2=1):=by
    by_cases h:k%2=1
    ·exact .inr h
    ·refine .inl ?_;have h1:=Hxy.out;obtain⟨u,rfl⟩:∃ u,k=2*u:=⟨k/2,by omega⟩
     rw[show (2*u)/2=u by omega,Nat.add_mul]
     rw[Nat.mul_left_comm] at h1;omega
   have Hod:Hid (k%2=1→x+y+(y+y)*(k/2)=n):=fun h=>by
    have h1:=Hxy.out;obtain⟨u,rfl⟩:∃ u,k=2*u+1:=⟨k/2,by omega⟩
    rw[show (2*u+1)/2=u by omega,Nat.add_mul]
    rw[Nat.mul_add,Nat.mul_left_comm] at h1;omega
   have Hlt:Hid (k/2<k∧k/2≤n):=⟨by omega,by omega⟩
   have Hh0:Hid (0<k/2→2*y≤n):=fun h=>by
    have:=Hxy.out
    have h2:y*2≤y*k:=Nat.mul_le_mul_left _ (by omega)
    omega
   have Hz:Hid (¬ 0<k/2→k=1):=fun h=>by omega
   by_cases hodd:k%2=1
   ·have hmod:Int.tmod (k:Int) 2=1:=by rw[Int.tmod_eq_emod_of_nonneg (by omega)];omega
    have hmod':(k:Int)%2=1:=by omega
    have Hmx:Hid (Kc Tryz.prog 44 #[.string (dec (b^x)),.string (dec (b^y))] wr (.string (dec (b^(x+y))))):=by
     have:=HM.out wr x y Hx.out Hy.out HB.out
     rw[← Nat.pow_add] at this;exact this
    have Hsq2:Hid (∀ W,Below w.heap.size w W→Kc Tryz.prog 44 #[.string (dec (b^y)),.string (dec (b^y))] W (.string (dec (b^(y+y))))):=fun W hW=>by
     have:=HM.out W y y Hy.out Hy.out hW
     rw[← Nat.pow_add] at this;exact this
    replace Hod:=hd_ (Hod.out hodd);clear hodd Hsq Hev;generalize hh:k/2=h at *
    clear hh;have HB0:=HB
    go_wp2_with fail
    refine cm_ Hmx.out ?_;rintro e w5 ⟨rfl,hb5⟩;have B5:=hd_ (HB.out.trans (hb5.mono HB.out.size));clear hb5 HB HB0 Hmx
    by_cases hh0:0<h
    ·have hh1:(0:Int)<h:=by omega
     have Hyy:Hid (y+y≤2*n+2):=by show _≤_;have:=Hyn.out;omega
     go_wp2_with fail
     refine cm_ (Hsq2.out _ B5.out) ?_;rintro e w6 ⟨rfl,hb6⟩;have B6:=hd_ (B5.out.trans (hb6.mono B5.out.size));clear hb6 B5 Hsq2
     go_wp2_with fail
     refine⟨⟨h,x+y,y+y,rfl,rfl,rfl,Hlt.out.2,Hod,Hyy,B6⟩,?_⟩;have:=Hlt.out.1
     simp[intOf];omega
    ·have hh1:¬ (0:Int)<h:=by omega
     have Hxy2:Hid (x+y+y*h=n):=by
      show _=_
      have h1:=Hod.out;obtain rfl:h=0:=by omega
      rw[Nat.mul_zero] at h1 ⊢;exact h1
     go_wp2_with fail
     refine⟨⟨h,x+y,y,rfl,rfl,rfl,Hlt.out.2,Hxy2,Hy,B5⟩,?_⟩;have:=Hlt.out.1
     simp[intOf];omega
   ·have hmod:Int.tmod (k:Int) 2=0:=by rw[Int.tmod_eq_emod_of_nonneg (by omega)];omega
    have hmod':(k:Int)%2=0:=by omega
    have Hxy2:Hid (x+(y+y)*(k/2)=n):=by
     rcases Hev.out with h|h
     ·exact h
     ·exact absurd h hodd
    have hh0:0<k/2:=by omega
    have hh1:(0:Int)<((k/2:Nat):Int):=by omega
    have Hyy:Hid (y+y≤2*n+2):=by show _≤_;have:=Hyn.out;omega
    clear hodd Hev Hod;generalize hh:k/2=h at *
    clear hh
    go_wp2_with fail
    refine cm_ Hsq.out ?_;rintro e w6 ⟨rfl,hb6⟩;have B6:=hd_ (HB.out.trans (hb6.mono HB.out.size));clear hb6 HB Hsq
    go_wp2_with fail
    refine⟨⟨h,x,y+y,rfl,rfl,rfl,Hlt.out.2,Hxy2,Hyy,B6⟩,?_⟩;have:=Hlt.out.1
    simp[intOf];omega
theorem Zqq(n:Nat)(_:n<18446744073709551616):bits .and .u64 (n:Int) 4294967295=((n%4294967296:Nat):Int):=by
 have h1:(BitVec.ofInt 64 4294967295).toNat=2^32-1:=by decide
 have key:(BitVec.ofInt 64 (n:Int) &&& BitVec.ofInt 64 4294967295).toNat=((n:Int)%((2^64:Nat):Int)).toNat%2^32:=by
  rw[BitVec.toNat_and,BitVec.toNat_ofInt,h1,Nat.and_two_pow_sub_one_eq_mod]
 show IntKind.u64.wrap ((BitVec.ofInt 64 (n:Int) &&& BitVec.ofInt 64 4294967295).toNat:Nat)=_
 rw[key];have e:((n:Int)%((2^64:Nat):Int)).toNat%2^32=n%4294967296:=by
  have:((2^64:Nat):Int)=18446744073709551616:=by decide
  rw[this];omega
 rw[e];exact Zac _ (by omega)
structure BtO (n t:Nat) (L:List Nat) (a:Option Addr) (c:Nat) (w wr:World):Prop where
 own:Qv wr w.heap.size a c L
 wd:Zou L
 v:vS L=val ((Kf n).drop t)
 top:L.length=0∨4294967296^(L.length-1)≤vS L
 ln:L.length+t≤(Kf n).length
 bel:Below w.heap.size w wr
structure BtI (L:List Nat) (x k cc:Nat) (M:List Nat) (a:Option Addr) (c:Nat) (w wr:World):Prop where
 len:M.length=L.length
 wd:Zou M
 same:∀ j,k≤j→M.getD j 0=L.getD j 0
 v:vS (M.take k)+4294967296^k*cc=1000000000*vS (L.take k)+x
 own:Qv wr w.heap.size a c M
 bel:Below w.heap.size w wr
theorem Zqp(l:List Nat)(t:Nat)(h:t<l.length):val (l.drop t)=l.getD t 0+1000000000*val (l.drop (t+1)):=by
 rw[List.drop_eq_getElem_cons h,val];have e:l.getD t 0=l[t]:=by rw[List.getD_eq_getElem?_getD,List.getElem?_eq_getElem h];rfl
 rw[e]
theorem Zv1(w:World)(n k:Nat)(hn:Num n)(h64:18446744073709551616≤n)(h1:2^k≤n)(h2:n<2^(k+1))(hk:k≤100000000)(L:Qb w):
  Kc Tryz.prog 127 #[.string (dec n)] w (.int .i64 ((k+1:Nat):Int)):=by
 unfold Kc;have hn1:(dec n).size≤1000000:=hn;have h:=Zbf w n (by omega) L
 rw[if_neg (by omega)] at h
 have HS:=hd_ h;have HC:=hd_ (fun W=>Ztv W n hn)
 have Hk:Hid (∀ N m t a,n=a+4294967296^N*t→a<4294967296^N→2^m≤t→t<2^(m+1)→k=32*N+m):=fun N m t a e1 e2 e3 e4=>Zv0 n k m N t a e1 e2 e3 e4 h1 h2
 have Hl:Hid (∀ (b:Nat) (W:World),b<18446744073709551616→Calls Tryz.prog 191 #[.int .u64 b] W fun e w'=>e = .returned (.int .i64 (Lib.bitLen b))∧w'=W):=fun b W hb=>Tryz.bits_Len64 b W (by omega) (by omega)
 have hlen:(Kf n).length≤400000:=Zat n hn;have Hpos:Hid (0<(Kf n).length):=by
  show 0<_
  rw[Vk (show 0<n by omega)];simp
 have Hp:=hd_ (Ko n);have Hval:Hid (val ((Kf n).drop 0)=n):=by show _=_;rw[List.drop_zero,Kp]
 unfold Zc9 at HC;clear h L hn h1 h2 hn1;obtain⟨N,hN⟩:∃ N,(Kf n).length=N:=⟨_,rfl⟩;have HN:=hd_ hN;rw[hN] at hlen HC;clear hN;generalize dec n=s at *
 go_enter Tryz.func127,Tryz.ntmps127
 go_wp2_with fail
 refine cm_ HS.out ?_;rintro e w1 ⟨rfl,hb1⟩;have B1:=hd_ hb1;clear hb1 HS
 go_wp2_with fail
 refine cm_ (HC.out _) ?_;rintro e w2 ⟨ap,cp,rfl,ho,hb2⟩;have B2:=hd_ (B1.out.trans (hb2.mono B1.out.size));have RP:=hd_ ho.reads;clear hb2 B1 HC ho;have ew0:IntKind.i64.wrap ((N:Int)-1)=(N:Int)-1:=iw_ _ (by omega)
 go_wp2_with fail
 go_loopw [5,7] (fun o i wr=>∃ (a:Option Addr) (c t:Nat) (L:List Nat),o = .slice a L.length c∧i = .int .i64 ((t:Int)-1)∧t≤N∧Hid (BtO n t L a c w2 wr)) (fun _ i _=>(intOf i+1).toNat)
 case atStart =>
  refine⟨none,0,N,[],rfl,rfl,Nat.le_refl _,⟨Qv.nil w2 w2.heap.size,fun _ h=>absurd h List.not_mem_nil,?_,.inl rfl,?_,Below.refl _ _⟩⟩
  ·rw[← HN.out,List.drop_length];rfl
  ·rw[HN.out];simp
 case round =>
  obtain⟨a,c,t,L,rfl,rfl,ht,HO⟩:=hrel
  by_cases ht0:0<t
  ·obtain⟨i,rfl⟩:∃ i,t=i+1:=⟨t-1,by omega⟩
   have hi0:((i+1:Nat):Int)-1=(i:Int):=by omega
   have hi0':(i:Int)+1-1=(i:Int):=by omega
   have hi1:(0:Int)≤i:=by omega
   have ew1:IntKind.i64.wrap ((i:Int)-1)=(i:Int)-1:=iw_ _ (by omega)
   obtain⟨b,o,rfl,hb,hcl⟩:=RP.out.open Hpos.out;have cx:=hcl i (by rw[HN.out];omega)
   rw[← HO.out.bel.cell (p:=⟨b,o+i,none⟩) hb] at cx;have hx:=Hp.out.getD i;have Hvd:=hd_ (Zqp (Kf n) i (by rw[HN.out];omega))
   generalize (Kf n).getD i 0=x at *
   have hLl:=HO.out.ln;rw[HN.out] at hLl;have HI0:Hid (BtI L x 0 x L a c w2 wr):=⟨rfl,HO.out.wd,fun _ _=>rfl,by simp[vS],HO.out.own,HO.out.bel⟩
   obtain⟨m,hm⟩:∃ m,L.length=m:=⟨_,rfl⟩;have Hm:=hd_ hm;rw[hm] at hLl ⊢;clear hm hcl;rw[hi0]
   go_wp2_with fail
   go_loopw [8,33] (fun cv z w9=>∃ (k cc:Nat) (M:List Nat),k≤m∧cc<1000000000∧cv = .int .u64 cc∧z = .int .i64 k∧Hid (BtI L x k cc M a c w2 w9)) (fun _ z _=>m-(intOf z).toNat)
   case atStart=>exact⟨0,x,L,Nat.zero_le _,hx,rfl,rfl,HI0⟩
   case round =>
    obtain⟨k,cc,M,hk,hcc,rfl,rfl,HI⟩:=hrel;clear HI0 cx
    by_cases hkm:k<m
    ·obtain⟨g,rfl,hg1,hg2,hg3,hg4,hg5⟩:=HI.out.own.open (by rw[HI.out.len,Hm.out];omega)
     have ce:=hg4 k (by rw[HI.out.len,Hm.out];exact hkm)
     have fe:=hg5 k;have he:=HI.out.wd.getD k;have hsm:=HI.out.same k nr_;obtain⟨e,hee⟩:∃ e,M.getD k 0=e:=⟨_,rfl⟩;rw[hee] at ce he hsm;obtain⟨r,hr⟩:∃ r,(cc+e*1000000000)%4294967296=r:=⟨_,rfl⟩;obtain⟨q,hq⟩:∃ q,(cc+e*1000000000)/4294967296=q:=⟨_,rfl⟩;have hst:=Ztg L M k cc x r q e (by rw[HI.out.len,Hm.out];exact hkm) (by rw[Hm.out];exact hkm) hsm.symm HI.out.v (by omega)
     have HI2:Hid (BtI L x (k+1) q (M.set k r) (some ⟨g,0,none⟩) c w2 (wr.setCell ⟨g,k,none⟩ (.int .u64 (r:Nat)))) :=
      ⟨by rw[List.length_set];exact HI.out.len,HI.out.wd.set _ _ (by omega),fun j hj=>by rw[Ya _ _ _ _ (by omega)];exact HI.out.same j (by omega),hst,HI.out.own.store k r,HI.out.bel.setCell (p:=⟨g,k,none⟩) hg1 _⟩
     obtain⟨E,hE⟩:∃ E,e*1000000000=E:=⟨_,rfl⟩;obtain⟨T,hT⟩:∃ T,cc+E=T:=⟨_,rfl⟩;rw[hE,hT] at hr hq;have hqb:q<1000000000:=by omega
     have hw1:IntKind.u64.wrap ((e:Int)*1000000000)=(E:Int):=by rw[show (e:Int)*1000000000=(E:Int) by omega];exact Zac _ (by omega)
     have hw2:IntKind.u64.wrap ((cc:Int)+(E:Int))=(T:Int):=by rw[show (cc:Int)+(E:Int)=(T:Int) by omega];exact Zac _ (by omega)
     have hw3:=Zqq T (by omega)
     rw[hr] at hw3;have hw4:(T:Int)/4294967296=(q:Int):=by omega
     have hkm':(k:Int)<m:=by omega
     have hkw:IntKind.i64.wrap ((k:Int)+1)=((k+1:Nat):Int):=by rw[← Int.natCast_succ];exact iw_ _ (by omega)
     have hTb:T<18446744073709551616:=by omega
     clear hst hg4 hg5 hsm hee HI hr hq hE hT he
     go_wp2_with fail
     refine⟨⟨k+1,q,M.set k r,by omega,hqb,rfl,by go_num,HI2⟩,by simp[intOf];omega⟩
    ·obtain rfl:k=m:=by omega
     have hkm':¬ (k:Int)<k:=by omega
     have e1:M.take k=M:=List.take_of_length_le (by rw[HI.out.len,Hm.out];exact Nat.le_refl _)
     have e2:L.take k=L:=List.take_of_length_le (by rw[Hm.out];exact Nat.le_refl _)
     have hv:=HI.out.v;rw[e1,e2,HO.out.v] at hv;have hvd:=Hvd.out;have hvL:vS L≤vS M+4294967296^k*cc:=by rw[hv,HO.out.v];omega
     have htop:k=0∨4294967296^(k-1)≤vS L:=by
      have:=HO.out.top
      rw[Hm.out] at this;exact this
     have hMl:M.length=k:=by rw[HI.out.len,Hm.out]
     by_cases hc0:cc=0
     ·subst hc0;have hcp:¬ (0:Int)<0:=by omega
      rw[Nat.mul_zero,Nat.add_zero] at hv hvL;have HO2:Hid (BtO n i M a c w2 wr):=⟨HI.out.own,HI.out.wd,by rw[hvd,hv];omega,by rw[hMl];exact htop.elim (fun h => .inl h) (fun h => .inr (Nat.le_trans h hvL)),by rw[hMl,HN.out];omega,HI.out.bel⟩
      clear hv hvd hvL htop e1 e2 HI HO;have hMl2:M.length=k:=hMl
      go_wp2_with fail
      refine⟨⟨a,c,i,M,by rw[hMl],rfl,by omega,HO2⟩,by simp[intOf]⟩
     ·have hcp:(0:Int)<cc:=by omega
      have hrow:wr.ownsRow w2.heap.size 193 1 (.slice a k c) k (Zs M):=by have:=HI.out.own;unfold Qv at this;rw[hMl] at this;exact this
      have Hrow:=hd_ hrow;have HB:=hd_ HI.out.bel;have HO2:Hid (∀ a3 c3 w3,Qv w3 w2.heap.size a3 c3 (M++[cc])→Below w2.heap.size w2 w3→BtO n i (M++[cc]) a3 c3 w2 w3):=fun a3 c3 w3 ho hb=>by
       refine⟨ho,HI.out.wd.snoc (by omega),?_,.inr ?_,?_,hb⟩
       ·rw[Zll,hMl,hv,hvd];omega
       ·rw[Zll,hMl,List.length_append,hMl]
        show 4294967296^(k+1-1)≤_
        rw[Nat.add_sub_cancel];have:=Nat.mul_le_mul_left (4294967296^k) (show 1≤cc by omega)
        omega
       ·rw[List.length_append,hMl,HN.out];simp;omega
      have HMl:=hd_ hMl;clear hv hvd hvL htop e1 e2 HI HO hrow hMl
      go_wp2_with (at_builtin;refine Km rfl (.tmp 53) (.tmp 55) 194 rfl Qaw _ 1 [.int .u64 cc] rfl rfl Hrow.out HB.out.size rfl ?c1 (by omega) (by omega) ?_)
      case c1=>first | rfl | (intro u hu;obtain rfl:=List.mem_singleton.1 hu;rfl)
      intro v' w3 hown3 hg3 _;obtain⟨a3,c3,rfl⟩:=Qj hown3;have HC3:=hd_ (HO2.out a3 c3 w3 (by
       unfold Qv;rw[List.length_append,HMl.out,Vd];exact hown3) ((HB.out.alloc HB.out.size _).grown hg3 (by have:=HB.out.size;simp;omega) (fun k hk=>(Hrow.out.lt k hk).1)))
      clear hown3 hg3 HO2 Hrow HB;have hl3:(M++[cc]).length=k+1:=by rw[List.length_append,HMl.out];rfl
      go_wp2_with fail
      refine⟨⟨a3,c3,i,M++[cc],by rw[hl3],rfl,by omega,HC3⟩,by simp[intOf]⟩
  ·obtain rfl:t=0:=by omega
   have hv:=HO.out.v;rw[Hval.out] at hv;have hne:0<L.length:=by
    rcases Nat.eq_zero_or_pos L.length with h0|h0
    ·rw[List.eq_nil_of_length_eq_zero h0] at hv;simp[vS] at hv;omega
    ·exact h0
   obtain⟨m,hm⟩:∃ m,L.length=m+1:=⟨L.length-1,by omega⟩
   have htop:4294967296^m≤vS L:=by
    rcases HO.out.top with h|h
    ·omega
    ·rw[hm,Nat.add_sub_cancel] at h;exact h
   have hsp:=Zci L m (by omega)
   rw[List.take_of_length_le (by omega),hv] at hsp
   have hlow:=Zyu (HO.out.wd.take m);rw[List.length_take,Nat.min_eq_left (by omega)] at hlow
   have hd:=HO.out.wd.getD m;rw[hv] at htop;obtain⟨g,rfl,hg1,hg2,hg3,hg4,-⟩:=HO.out.own.open hne;have cx:=hg4 m (by omega)
   have hln:=HO.out.ln;rw[hm,HN.out] at hln;obtain⟨tt,htt⟩:∃ tt,L.getD m 0=tt:=⟨_,rfl⟩;rw[htt] at hsp hd cx;have htp:tt≠0:=by
    intro h;subst h;rw[Nat.mul_zero] at hsp;omega
   obtain⟨bl,hbl⟩:∃ bl,Lib.bitLen tt=bl:=⟨_,rfl⟩;obtain⟨b1,b2,b3⟩:=Zlc htp (by omega) hbl
   have hkk:=Hk.out m (bl-1) tt _ hsp hlow b2 (by rw[Nat.sub_add_cancel b1];exact b3)
   have hLen:=hd_ (Hl.out tt wr (by omega))
   rw[hbl] at hLen;have HB:=hd_ (B2.out.trans (HO.out.bel.mono B2.out.size));have hblu:bl≤64:=by
    refine Nat.le_of_not_lt fun hc=>?_
    have:2^64≤2^(bl-1):=Nat.pow_le_pow_right (by decide) (by omega)
    omega
   have e1:IntKind.i64.wrap ((m:Int)+1-1)=(m:Int):=by rw[show (m:Int)+1-1=m by omega];exact iw_ _ (by omega)
   have e1':IntKind.i64.wrap (((m+1:Nat):Int)-1)=(m:Int):=by rw[show ((m+1:Nat):Int)-1=m by omega];exact iw_ _ (by omega)
   have e2:IntKind.i64.wrap (32*(m:Int))=32*(m:Int):=iw_ _ (by omega)
   have e3:IntKind.i64.wrap (32*(m:Int)+(bl:Int))=((k+1:Nat):Int):=by rw[show 32*(m:Int)+(bl:Int)=((k+1:Nat):Int) by omega];exact iw_ _ (by omega)
   have hz:((0:Nat):Int)-1 = -1:=by omega
   rw[hm,hz];have e0:wrap64 (m:Int)=(m:Int):=IntWalk.wrap64_in _ ⟨by clear e1 e1' e2 e3;omega,by clear e1 e1' e2 e3;omega⟩
   clear hv hne htop hsp hlow hd hg4 hln htt htp hbl b1 b2 b3 hkk HO Hk Hval hm ht0
   go_wp2_with fail
   refine cm_ hLen.out ?_;rintro e_ w9 ⟨rfl,rfl⟩
   go_wp2_with fail
   go_ret;exact⟨rfl,HB.out⟩
theorem Zvz(w:World)(n k:Nat)(h0:n≠0)(h64:n<18446744073709551616)(h1:2^k≤n)(h2:n<2^(k+1))(L:Qb w):
  Kc Tryz.prog 127 #[.string (dec n)] w (.int .i64 ((k+1:Nat):Int)):=by
 unfold Kc;have h:=Zbf w n (Nat.le_trans (show (dec n).size≤20 from (Yz n 20 (by decide)).2 (by omega)) (by decide)) L
 rw[if_pos h64] at h;have H:=hd_ h;have Hl:Hid (∀ W:World,Calls Tryz.prog 191 #[.int .u64 n] W fun e w'=>e = .returned (.int .i64 ((k+1:Nat):Int))∧w'=W):=fun W=>by
  have:=Tryz.bits_Len64 n W (by omega) (by omega)
  obtain⟨b1,b2,b3⟩:=Zlc h0 h64 rfl;have a1:=(Nat.pow_lt_pow_iff_right (a:=2) (by decide)).1 (Nat.lt_of_le_of_lt h1 b3)
  have a2:=(Nat.pow_lt_pow_iff_right (a:=2) (by decide)).1 (Nat.lt_of_le_of_lt b2 h2)
  rw[show ((n:Nat):Int).toNat=n from rfl,show Lib.bitLen n=k+1 by omega] at this
  exact this
 clear L h h0 h64 h1 h2;generalize dec n=s at *
 generalize ((k+1:Nat):Int)=r at *
 go_enter Tryz.func127,Tryz.ntmps127
 go_wp2_with fail
 refine cm_ H.out ?_;rintro e w1 ⟨rfl,hb1⟩;have B1:=hd_ hb1;clear hb1 H
 go_wp2_with fail
 refine cm_ (Hl.out _) ?_;rintro e w2 ⟨rfl,rfl⟩;clear Hl
 go_wp2_with fail
 go_ret;exact⟨rfl,B1.out⟩
theorem Zti(w:World)(n k:Nat)(hn:Num n)(h1:2^k≤n)(h2:n<2^(k+1))(hk:k≤100000000)(L:Qb w):
  Kc Tryz.prog 127 #[.string (dec n)] w (.int .i64 ((k+1:Nat):Int)):=by
 have h0:n≠0:=by have:=Nat.two_pow_pos k;omega
 rcases Nat.lt_or_ge n 18446744073709551616 with h|h
 ·exact Zvz w n k h0 h h1 h2 L
 ·exact Zv1 w n k hn h h1 h2 hk L
theorem Zl2(w:World)(x1 x2 y1 y2:Option Addr)(e1 e2 g1 g2 d g:Nat)(tx ty:List (Int×Int))(X:Yo w tx x1 x2)(Y:Yo w ty y1 y2)(L:Qb w)
  (hy:∀ x∈ty,okT 100000 x) (hd:d≤10000) (hg:g≤10000) (hd0:0<d) (hg0:0<g)
  (h1:0≤Zcz tx) (h2:Zcz tx≤Yi tx) (h3:(∀ x∈tx,okT 100000 x)→Yi tx≤100000000000000) (h4:0<Zcz ty) (h5:Zcz ty≤Yi ty) (h6:Yi ty≤100000000000000) :
  Calls Tryz.prog 221 #[.agg (Qa x1 e1 x2 e2 tx.length d),.agg (Qa y1 g1 y2 g2 ty.length g)] w fun e w'=>∃ q b,e = .returned (.tuple #[.int .i64 q,.bool b])∧(b=true→(∀ x∈tx,okT 100000 x)∧q=Zcz tx*g/(Yi ty*d))∧Below w.heap.size w w':=by
 obtain⟨one,hone,hone2⟩:∃ one:Bool,(∀ W,Below w.heap.size w W→Kc Tryz.prog 210 #[.agg (Qa x1 e1 x2 e2 tx.length d),.int .i64 100000] W (if one then .tuple #[.int .i64 (Zcz tx),.int .i64 (Yi tx),.bool true] else .tuple #[.int .i64 0,.int .i64 0,.bool false]))∧(one=true→∀ x∈tx,okT 100000 x):=by
  by_cases hx:∀ x∈tx,okT 100000 x
  ·refine⟨true,fun W hW=>?_,fun _=>hx⟩
   have:=Zix W x1 x2 e1 e2 d tx 100000 (by decide) (by decide) X.len (X.below hW).r1 (X.below hW).r2 X.p X.z (L.below hW)
   unfold Zkh at this;rw[if_pos hx] at this;exact this
  ·refine⟨false,fun W hW=>?_,fun h=>by cases h⟩
   have:=Zix W x1 x2 e1 e2 d tx 100000 (by decide) (by decide) X.len (X.below hW).r1 (X.below hW).r2 X.p X.z (L.below hW)
   unfold Zkh at this;rw[if_neg hx] at this;exact this
 have Hnx:=hd_ hone;have Hone:=hd_ hone2;have Hny:Hid (∀ W,Below w.heap.size w W→Kc Tryz.prog 210 #[.agg (Qa y1 g1 y2 g2 ty.length g),.int .i64 100000] W (.tuple #[.int .i64 (Zcz ty),.int .i64 (Yi ty),.bool true])):=fun W hW=>by
  have:=Zix W y1 y2 g1 g2 g ty 100000 (by decide) (by decide) Y.len (Y.below hW).r1 (Y.below hW).r2 Y.p Y.z (L.below hW)
  unfold Zkh at this;rw[if_pos hy] at this;exact this
 have Hsd:Hid (∀ W,Below w.heap.size w W→Kc Tryz.prog 239 #[.string (dec d)] W (.tuple #[.int .i64 d,.bool true])):=fun W hW=>by
  have:=Zd4 W (d:Int) (Ku (D:=5) (show (d:Int).natAbs<10^5 by omega) (by decide) (by decide)) (L.below hW)
  rw[if_pos (by omega),Kj] at this
  exact this
 have Hsg:Hid (∀ W,Below w.heap.size w W→Kc Tryz.prog 239 #[.string (dec g)] W (.tuple #[.int .i64 g,.bool true])):=fun W hW=>by
  have:=Zd4 W (g:Int) (Ku (D:=5) (show (g:Int).natAbs<10^5 by omega) (by decide) (by decide)) (L.below hW)
  rw[if_pos (by omega),Kj] at this
  exact this
 have n5:¬ (d:Int) > 10000:=by omega
 have n6:¬ (g:Int) > 10000:=by omega
 clear X Y L hone hy;generalize hxh:Yi tx=xh at *
 generalize Zcz tx=xl at *
 generalize Zcz ty=yl at *
 generalize Yi ty=yh at *
 generalize tx.length=n at *
 generalize ty.length=m at *
 have R1:Hid (((w.alloc (.cells (Qa x1 e1 x2 e2 n d) 163)).alloc (.cells (Qa y1 g1 y2 g2 m g) 163)).heap[w.heap.size]?=some (.cells #[.slice x1 n e1,.slice x2 n e2,.string (dec d)] 163 (0,0))):=Kl (Qx w _ _ _ rfl) _;have R2:Hid (((w.alloc (.cells (Qa x1 e1 x2 e2 n d) 163)).alloc (.cells (Qa y1 g1 y2 g2 m g) 163)).heap[w.heap.size+1]?=some (.cells #[.slice y1 m g1,.slice y2 m g2,.string (dec g)] 163 (0,0))):=Qx _ _ _ _ (by show (w.heap.push _).size=_;exact Array.size_push ..)
 have B0:Hid (Below w.heap.size w ((w.alloc (.cells (Qa x1 e1 x2 e2 n d) 163)).alloc (.cells (Qa y1 g1 y2 g2 m g) 163))):=by
  show Below _ _ _
  have b1:=(Below.refl w.heap.size w).alloc nr_ (.cells (Qa x1 e1 x2 e2 n d) 163);exact b1.alloc b1.size _
 cases one with
 | false =>
  rw[if_neg Bool.false_ne_true] at Hnx;clear h1 h2 h3 h4 h5 h6 hone2 Hone;go_enter Tryz.func221,Tryz.ntmps221
  go_wp2_with fail
  generalize (w.alloc (.cells (Qa x1 e1 x2 e2 n d) 163)).alloc (.cells (Qa y1 g1 y2 g2 m g) 163)=W0 at *
  refine cm_ (Hnx.out _ B0.out) ?_;rintro e W1 ⟨rfl,hb⟩;have B1:=hd_ (B0.out.trans (hb.mono B0.out.size));have R3:=hd_ (Kd R1.out hb nr_);have R4:=hd_ (Kd R2.out hb nr_);clear hb B0 R1 R2 Hnx;obtain⟨k0,k1,k2,-⟩:=Kt R3.out;obtain⟨m0,m1,m2,-⟩:=Kt R4.out
  go_wp2_with fail
  refine cm_ (Hny.out _ B1.out) ?_;rintro e W2 ⟨rfl,hb⟩;have B2:=hd_ (B1.out.trans (hb.mono B1.out.size));have R5:=hd_ (Kd R3.out hb nr_);have R6:=hd_ (Kd R4.out hb nr_);clear hb B1 R3 R4 Hny k0 k1 k2 m0 m1 m2;obtain⟨k0,k1,k2,-⟩:=Kt R5.out
  go_wp2_with fail
  refine cm_ (Hsd.out _ B2.out) ?_;rintro e W3 ⟨rfl,hb⟩;have B3:=hd_ (B2.out.trans (hb.mono B2.out.size));have R8:=hd_ (Kd R6.out hb nr_);clear hb B2 R5 R6 Hsd k0 k1 k2;obtain⟨m0,m1,m2,-⟩:=Kt R8.out
  go_wp2_with fail
  refine cm_ (Hsg.out _ B3.out) ?_;rintro e W4 ⟨rfl,hb⟩;have B4:=hd_ (B3.out.trans (hb.mono B3.out.size));clear hb B3 R8 Hsg m0 m1 m2
  go_wp2_with fail
  go_ret2
  exact⟨0,false,rfl,fun h=>(by cases h),B4.out⟩
 | true =>
  rw[if_pos rfl] at Hnx;have h3':=h3 (hone2 rfl);have Hok:=hd_ (hone2 rfl);clear hone2 h3 Hone;have p1:0≤xl*g:=Int.mul_nonneg h1 (by omega)
  have p2:xl*g≤100000000000000*10000:=Int.mul_le_mul (by omega) (by omega) (by omega) (by omega)
  have p3:0≤xh*g:=Int.mul_nonneg (by omega) (by omega)
  have p4:xh*g≤100000000000000*10000:=Int.mul_le_mul (by omega) (by omega) (by omega) (by omega)
  have p5:0<yl*d:=Int.mul_pos h4 (by omega)
  have p6:yl*d≤100000000000000*10000:=Int.mul_le_mul (by omega) (by omega) (by omega) (by omega)
  have p7:0<yh*d:=Int.mul_pos (by omega) (by omega)
  have p8:yh*d≤100000000000000*10000:=Int.mul_le_mul (by omega) (by omega) (by omega) (by omega)
  have w1:IntKind.i64.wrap (xl*g)=xl*g:=iw_ _ (by omega)
  have w2:IntKind.i64.wrap (xh*g)=xh*g:=iw_ _ (by omega)
  have w3:IntKind.i64.wrap (yl*d)=yl*d:=iw_ _ (by omega)
  have w4:IntKind.i64.wrap (yh*d)=yh*d:=iw_ _ (by omega)
  have D1:Hid (∀ W,Kc Tryz.prog 247 #[.int .i64 (xl*g),.int .i64 (yh*d)] W (.int .i64 (xl*g/(yh*d)))):=fun W=>Ze2 W _ _ (by omega) p7 (by omega)
  have D2:Hid (∀ W,Kc Tryz.prog 247 #[.int .i64 (xh*g),.int .i64 (yl*d)] W (.int .i64 (xh*g/(yl*d)))):=fun W=>Ze2 W _ _ (by omega) p5 (by omega)
  have n1:¬ yh≤0:=by omega
  have n2:¬ yl≤0:=by omega
  have n3:¬ xl<0:=by omega
  have n4:¬ xh<0:=by omega
  clear p1 p2 p3 p4 p5 p6 p7 p8 h2 h3' h5 h6 hd hg hd0 hg0 h1 h4;generalize hq1:xl*g/(yh*d)=q1 at *
  generalize hq2:xh*g/(yl*d)=q2 at *
  clear hq1 hq2;go_enter Tryz.func221,Tryz.ntmps221
  go_wp2_with fail
  generalize (w.alloc (.cells (Qa x1 e1 x2 e2 n d) 163)).alloc (.cells (Qa y1 g1 y2 g2 m g) 163)=W0 at *
  refine cm_ (Hnx.out _ B0.out) ?_;rintro e W1 ⟨rfl,hb⟩;have B1:=hd_ (B0.out.trans (hb.mono B0.out.size));have R3:=hd_ (Kd R1.out hb nr_);have R4:=hd_ (Kd R2.out hb nr_);clear hb B0 R1 R2 Hnx;obtain⟨k0,k1,k2,-⟩:=Kt R3.out;obtain⟨m0,m1,m2,-⟩:=Kt R4.out
  go_wp2_with fail
  refine cm_ (Hny.out _ B1.out) ?_;rintro e W2 ⟨rfl,hb⟩;have B2:=hd_ (B1.out.trans (hb.mono B1.out.size));have R5:=hd_ (Kd R3.out hb nr_);have R6:=hd_ (Kd R4.out hb nr_);clear hb B1 R3 R4 Hny k0 k1 k2 m0 m1 m2;obtain⟨k0,k1,k2,-⟩:=Kt R5.out
  go_wp2_with fail
  refine cm_ (Hsd.out _ B2.out) ?_;rintro e W3 ⟨rfl,hb⟩;have B3:=hd_ (B2.out.trans (hb.mono B2.out.size));have R8:=hd_ (Kd R6.out hb nr_);clear hb B2 R5 R6 Hsd k0 k1 k2;obtain⟨m0,m1,m2,-⟩:=Kt R8.out
  go_wp2_with fail
  refine cm_ (Hsg.out _ B3.out) ?_;rintro e W4 ⟨rfl,hb⟩;have B4:=hd_ (B3.out.trans (hb.mono B3.out.size));clear hb B3 R8 Hsg m0 m1 m2
  go_wp2_with fail
  refine cm_ (D1.out _) ?_;rintro e W5 ⟨rfl,hb⟩;have B5:=hd_ (B4.out.trans (hb.mono B4.out.size));clear hb B4
  go_wp2_with fail
  refine cm_ (D2.out _) ?_;rintro e W6 ⟨rfl,hb⟩;have B6:=hd_ (B5.out.trans (hb.mono B5.out.size));clear hb B5
  go_wp2_with fail
  go_ret2
  exact⟨q1,_,rfl,fun _=>⟨Hok.out,rfl⟩,B6.out⟩
structure Zz8 (ps:List Int) (la lb:List Rat) (E:Nat) (q:Int):Prop where
 pr:∀ p∈ps,p∈Zjn
 n6:ps.length≤6
 kx:∀ x∈tlQ ps la,x.2.natAbs<2^E
 ky:∀ x∈tlQ ps lb,x.2.natAbs<2^E
 d:Qc la<2^E
 g:Qc lb<2^E
 e:E≤3000
 pos:∀ n,n≤1024→0≤LN.eLo (lf n) (tlQ ps la)∧0<LN.eLo (lf n) (tlQ ps lb)
 dec:Zso 128 (tlQ ps la) (tlQ ps lb) (Qc la) (Qc lb)≠none
 val:∀ n r,n=64∨n=128→Zso n (tlQ ps la) (tlQ ps lb) (Qc la) (Qc lb)=some r→r=q
 nr:Znp la lb ps.length (Zar la lb ps.length)=false
 okt:∀ x∈tlQ ps lb,okT 100000 x
 dd:Qc la≤10000
 gg:Qc lb≤10000
 lo:0≤Zcz (tlQ ps la)
 lh:Zcz (tlQ ps la)≤Yi (tlQ ps la)
 hi:(∀ x∈tlQ ps la,okT 100000 x)→Yi (tlQ ps la)≤100000000000000
 yl:0<Zcz (tlQ ps lb)
 ylh:Zcz (tlQ ps lb)≤Yi (tlQ ps lb)
 yh:Yi (tlQ ps lb)≤100000000000000
 quo:(∀ x∈tlQ ps la,okT 100000 x)→Zcz (tlQ ps la)*Qc lb/(Yi (tlQ ps lb)*Qc la)=q ∧ -9223372036854775808≤q∧q≤9223372036854775807
theorem Zvd(w:World)(ps:List Int)(a0 a1 a2:Option Addr)(c0 c1 c2 D E:Nat)(la lb:List Rat)(q:Int)(A:Zt w ps a0 a1 la D)(B:Zt w ps a0 a2 lb D)(hD0:0<D)(F:Zz8 ps la lb E q)(L:Qb w):
  Kc Tryz.prog 193 #[.slice a0 ps.length c0,.slice a1 la.length c1,.slice a2 lb.length c2] w (.string (itx q)):=by
 unfold Kc;have hn:=A.n;have hdd:=A.d;have HL:=hd_ L;have HF:=hd_ F;have Hdec:=hd_ F.dec;have hr:=F.nr;have Hra:=hd_ (Zrc w a1 a2 c1 c2 ps.length D la lb A.rl B.rl A.len B.len A.sm B.sm (by omega) hD0 hdd L)
 rw[hr] at Hra;have Ht1:Hid (∀ W,Below w.heap.size w W→Calls Tryz.prog 100 #[.slice a0 ps.length c0,.slice a1 ps.length c1] W fun e w'=>∃ b1 d1 b2 d2,e = .returned (.agg (Qa b1 d1 b2 d2 (tlQ ps la).length (Qc la)))∧Yo w' (tlQ ps la) b1 b2∧Below W.heap.size W w'):=fun W hW=>by
  have:=Zic (c0:=c0) (c:=c1) (A.below hW) (L.below hW)
  rw[A.len] at this;exact this
 have Ht2:Hid (∀ W,Below w.heap.size w W→Calls Tryz.prog 100 #[.slice a0 ps.length c0,.slice a2 ps.length c2] W fun e w'=>∃ b1 d1 b2 d2,e = .returned (.agg (Qa b1 d1 b2 d2 (tlQ ps lb).length (Qc lb)))∧Yo w' (tlQ ps lb) b1 b2∧Below W.heap.size W w'):=fun W hW=>by
  have:=Zic (c0:=c0) (c:=c2) (B.below hW) (L.below hW)
  rw[B.len] at this;exact this
 have hE:=F.e;have lx:(tlQ ps la).length≤6:=Nat.le_trans (by have:=(Zcj (Qc la) ps la).length_le;rw[List.length_map] at this;exact this) F.n6
 have ly:(tlQ ps lb).length≤6:=Nat.le_trans (by have:=(Zcj (Qc lb) ps lb).length_le;rw[List.length_map] at this;exact this) F.n6
 have hd0:=LN.tden_pos' la;have hg0:=LN.tden_pos' lb;have px:PrT (tlQ ps la):=fun x hx=>Zjm (F.pr _ (Zn hx).1)
 have py:PrT (tlQ ps lb):=fun x hx=>Zjm (F.pr _ (Zn hx).1)
 have Hqu:Hid (∀ W x1 x2 y1 y2 e1 e2 g1 g2,Yo W (tlQ ps la) x1 x2→Yo W (tlQ ps lb) y1 y2→Qb W→Calls Tryz.prog 221 #[.agg (Qa x1 e1 x2 e2 (tlQ ps la).length (Qc la)),.agg (Qa y1 g1 y2 g2 (tlQ ps lb).length (Qc lb))] W fun e w'=>∃ z b,e = .returned (.tuple #[.int .i64 z,.bool b])∧(b=true→z=q ∧ -9223372036854775808≤q∧q≤9223372036854775807)∧Below W.heap.size W w'):=fun W x1 x2 y1 y2 e1 e2 g1 g2 X Y LW=>by
  refine cm_ (Zl2 W x1 x2 y1 y2 e1 e2 g1 g2 _ _ _ _ X Y LW F.okt F.dd F.gg hd0 hg0 F.lo F.lh F.hi F.yl F.ylh F.yh) ?_;rintro e w' ⟨z,b,rfl,h,hb⟩;refine⟨z,b,rfl,fun hb1=>?_,hb⟩
  obtain⟨k1,k2⟩:=h hb1;obtain⟨k3,k4⟩:=F.quo k1;exact⟨k2.trans k3,k4⟩
 have Hof:Hid (∀ W q,-9223372036854775808≤q→q≤9223372036854775807→Below w.heap.size w W→Kc Tryz.prog 73 #[.int .i64 q] W (.string (itx q))):=fun W q h1 h2 hW=>Zah W q h1 h2 (L.below hW)
 have HfF:Hid (∀ n r,n=64∨n=128→Zso n (tlQ ps la) (tlQ ps lb) (Qc la) (Qc lb)=some r→r=q):=fun n r hn h=>F.val n r hn h
 have Hps:Hid (∀ n,n≤1024→(0≤LN.eLo (lf n) (tlQ ps la)∧LN.eLo (lf n) (tlQ ps la)≤LN.eHi (lf n) (tlQ ps la))∧0<LN.eLo (lf n) (tlQ ps lb)):=fun n hn=>⟨⟨(F.pos n hn).1,Zsw _ _⟩,(F.pos n hn).2⟩
 have Hen1:Hid (∀ (n:Nat) W x1 x2 e1 e2,n≤1056→Yo W (tlQ ps la) x1 x2→Qb W→Kc Tryz.prog 172 #[.agg (Qa x1 e1 x2 e2 (tlQ ps la).length (Qc la)),.int .i64 n] W (.tuple #[.string (itx (LN.eLo (lf n) (tlQ ps la))),.string (itx (LN.eHi (lf n) (tlQ ps la)))])):=fun n W x1 x2 e1 e2 hn T LW =>
  Zob W x1 x2 e1 e2 _ n E _ T px (by omega) F.kx hn LW
 have Hen2:Hid (∀ (n:Nat) W x1 x2 e1 e2,n≤1056→Yo W (tlQ ps lb) x1 x2→Qb W→Kc Tryz.prog 172 #[.agg (Qa x1 e1 x2 e2 (tlQ ps lb).length (Qc lb)),.int .i64 n] W (.tuple #[.string (itx (LN.eLo (lf n) (tlQ ps lb))),.string (itx (LN.eHi (lf n) (tlQ ps lb)))])):=fun n W x1 x2 e1 e2 hn T LW =>
  Zob W x1 x2 e1 e2 _ n E _ T py (by omega) F.ky hn LW
 obtain⟨K,hK⟩:∃ K:Nat,K=E+1060+10:=⟨_,rfl⟩;have Hbx:Hid (∀ n:Nat,n≤1024→(LN.eLo (lf n) (tlQ ps la)).natAbs<2^K∧(LN.eHi (lf n) (tlQ ps la)).natAbs<2^K):=fun n hn=>by
  obtain⟨h1,h2⟩:=Zjc (n:=n) (E:=E) (by omega) (tlQ ps la) (by omega) px F.kx
  exact⟨Nat.lt_of_lt_of_le h1 (Nat.pow_le_pow_right (by decide) (by omega)),Nat.lt_of_lt_of_le h2 (Nat.pow_le_pow_right (by decide) (by omega))⟩
 have Hby:Hid (∀ n:Nat,n≤1024→(LN.eLo (lf n) (tlQ ps lb)).natAbs<2^K∧(LN.eHi (lf n) (tlQ ps lb)).natAbs<2^K):=fun n hn=>by
  obtain⟨h1,h2⟩:=Zjc (n:=n) (E:=E) (by omega) (tlQ ps lb) (by omega) py F.ky
  exact⟨Nat.lt_of_lt_of_le h1 (Nat.pow_le_pow_right (by decide) (by omega)),Nat.lt_of_lt_of_le h2 (Nat.pow_le_pow_right (by decide) (by omega))⟩
 have hKK:K+K<90000:=by omega
 have hdK:Qc la<2^K:=Nat.lt_of_lt_of_le F.d (Nat.pow_le_pow_right (by decide) (by omega))
 have hgK:Qc lb<2^K:=Nat.lt_of_lt_of_le F.g (Nat.pow_le_pow_right (by decide) (by omega))
 have HS:Hid (∀ (z:Int) W,Kc Tryz.prog 84 #[.string (itx z)] W (.int .i64 z.sign)):=fun z W=>Zo W z
 have HN:Hid (∀ (z:Int) W,z.natAbs<2^K→Kc Tryz.prog 71 #[.string (itx z)] W (.string (itx (-z)))):=fun z W hz=>Zmc W z (Ve hz (by omega))
 have HMd:Hid (∀ (a:Int) W,a.natAbs<2^K→Below w.heap.size w W→Kc Tryz.prog 115 #[.string (itx a),.string (dec (Qc la))] W (.string (itx (a*(Qc la:Int))))):=fun a W ha hW=>by
  have:=Qad W a (Qc la:Int) K K hKK ha (by rw[Int.natAbs_natCast];exact hdK) (L.below hW)
  rw[Kj] at this;exact this
 have HMg:Hid (∀ (a:Int) W,a.natAbs<2^K→Below w.heap.size w W→Kc Tryz.prog 115 #[.string (itx a),.string (dec (Qc lb))] W (.string (itx (a*(Qc lb:Int))))):=fun a W ha hW=>by
  have:=Qad W a (Qc lb:Int) K K hKK ha (by rw[Int.natAbs_natCast];exact hgK) (L.below hW)
  rw[Kj] at this;exact this
 have HDv:Hid (∀ (a b:Int) W,a.natAbs<2^K→b.natAbs<2^K→0<b→Below w.heap.size w W→Kc Tryz.prog 163 #[.string (itx (a*(Qc lb:Int))),.string (itx (b*(Qc la:Int)))] W (.tuple #[.string (itx (a*(Qc lb:Int)/(b*(Qc la:Int)))),.string (itx (a*(Qc lb:Int)%(b*(Qc la:Int)))),.int .i64 0])):=fun a b W ha hb hb0 hW =>
  Qbi W _ _ (K+K) hKK (Zao ha hgK) (Zao hb hdK) (Int.mul_pos hb0 (by omega)) (L.below hW)
 have Hfl:Hid (∀ n,Zso n (tlQ ps la) (tlQ ps lb) (Qc la) (Qc lb)=flS (LN.eLo (lf n) (tlQ ps la)) (LN.eHi (lf n) (tlQ ps la)) (LN.eLo (lf n) (tlQ ps lb)) (LN.eHi (lf n) (tlQ ps lb)) (Qc lb) (Qc la)):=fun n=>rfl
 unfold fr fv at Hra;rw[A.len,B.len];clear A B L hr F hn hdd hE lx ly hd0 hg0 px py hK hKK hdK hgK hD0;generalize Zar la lb ps.length=k at *
 generalize tlQ ps la=tx at *
 generalize tlQ ps lb=ty at *
 generalize Qc la=dx at *
 generalize Qc lb=dy at *
 go_enter Tryz.func193,Tryz.ntmps193
 go_wp2_with fail
 refine cm_ Hra.out ?_;rintro e w1 ⟨rfl,hb⟩;have B2:=hd_ (hb.alloc hb.size (.cells #[.string (itx k.num),.string (dec k.den)] 42));clear hb Hra
 go_wp2_with fail
 generalize w1.alloc (.cells #[.string (itx k.num),.string (dec k.den)] 42)=w2 at *
 refine cm_ (Ht1.out _ B2.out) ?_;rintro e w3 ⟨b1,d1,b2,d2,rfl,X,hb⟩;have B3:=hd_ (B2.out.trans (hb.mono B2.out.size));have HX:=hd_ X;clear hb Ht1 X B2
 go_wp2_with fail
 refine cm_ (Ht2.out _ B3.out) ?_;rintro e w4 ⟨b3,d3,b4,d4,rfl,Y,hb⟩;have B4:=hd_ (B3.out.trans (hb.mono B3.out.size));have HX4:=hd_ (HX.out.below hb);have HY:=hd_ Y;clear hb Ht2 Y B3 HX
 go_wp2_with fail
 have Bx:=hd_ (((Below.refl w4.heap.size w4).alloc nr_ (.cells #[.slice b1 tx.length d1,.slice b2 tx.length d2,.string (dec dx)] 163)).alloc ((Below.refl w4.heap.size w4).alloc nr_ (.cells #[.slice b1 tx.length d1,.slice b2 tx.length d2,.string (dec dx)] 163)).size (.cells #[.slice b3 ty.length d3,.slice b4 ty.length d4,.string (dec dy)] 163));have S1:=hd_ (Kl (Qx w4 #[.slice b1 tx.length d1,.slice b2 tx.length d2,.string (dec dx)] 163 _ rfl) (.cells #[.slice b3 ty.length d3,.slice b4 ty.length d4,.string (dec dy)] 163));have S2:=hd_ (Qx (w4.alloc (.cells #[.slice b1 tx.length d1,.slice b2 tx.length d2,.string (dec dx)] 163)) #[.slice b3 ty.length d3,.slice b4 ty.length d4,.string (dec dy)] 163 (w4.heap.size+1) (by show (w4.heap.push _).size=_;exact Array.size_push ..))
 have HX5:=hd_ (HX4.out.below Bx.out);have HY5:=hd_ (HY.out.below Bx.out);have B5:=hd_ (B4.out.trans (Bx.out.mono B4.out.size));clear HX4 HY Bx;generalize hN:w4.heap.size=N9 at *
 generalize (w4.alloc (.cells #[.slice b1 tx.length d1,.slice b2 tx.length d2,.string (dec dx)] 163)).alloc (.cells #[.slice b3 ty.length d3,.slice b4 ty.length d4,.string (dec dy)] 163)=w5 at *
 clear hN B4;refine cm_ (Hqu.out _ _ _ _ _ d1 d2 d3 d4 HX5.out HY5.out (HL.out.below B5.out)) ?_;rintro e w6 ⟨q0,bq,rfl,hq0,hb⟩;have B6:=hd_ (B5.out.trans (hb.mono B5.out.size));have T1:=hd_ (Kd S1.out hb nr_);have T2:=hd_ (Kd S2.out hb nr_);have HX6:=hd_ (HX5.out.below hb);have HY6:=hd_ (HY5.out.below hb);have Hq0:=hd_ hq0;clear hb Hqu HX5 HY5 S1 S2 B5 hq0;cases bq with
 | true =>
  obtain⟨hqt,hlo,hhi⟩:=Hq0.out rfl;have Hoq:=hd_ (Hof.out w6 q hlo hhi B6.out);rw[hqt];clear hqt hlo hhi
  go_wp2_with fail
  refine cm_ Hoq.out ?_;rintro e w7 ⟨rfl,hb⟩;have B7:=hd_ (B6.out.trans (hb.mono B6.out.size));clear hb Hoq
  go_wp2_with fail
  go_ret;exact⟨rfl,B7.out⟩
 | false =>
  clear Hq0 Hof
  go_wp2_with fail
  go_loopw [13] (fun a wr=>∃ (n:Nat),Hid (n=64∨n=128)∧n≤128∧a = .int .i64 n∧Hid (Below w.heap.size w wr)∧Hid (wr.heap[N9]?=some (.cells #[.slice b1 tx.length d1,.slice b2 tx.length d2,.string (dec dx)] 163 (0,0)))∧Hid (wr.heap[N9+1]?=some (.cells #[.slice b3 ty.length d3,.slice b4 ty.length d4,.string (dec dy)] 163 (0,0)))∧Hid (Yo wr tx b1 b2)∧Hid (Yo wr ty b3 b4)) (fun a _=>128-(intOf a).toNat)
  case atStart=>exact⟨64,.inl rfl,by decide,rfl,B6,T1,T2,HX6,HY6⟩
  case round =>
   clear B6 T1 T2 HX6 HY6;obtain⟨n,Hp,hn,rfl,B1,T1,T2,HX,HY⟩:=hrel;obtain⟨vx1,vx2⟩:=Hbx.out n (by omega)
   obtain⟨vy1,vy2⟩:=Hby.out n (by omega)
   have HE1:=hd_ (Hen1.out n wr b1 b2 d1 d2 (by omega) HX.out (HL.out.below B1.out))
   have HE2:Hid (∀ W,Below wr.heap.size wr W→Kc Tryz.prog 172 #[.agg (Qa b3 d3 b4 d4 ty.length dy),.int .i64 n] W (.tuple #[.string (itx (LN.eLo (lf n) ty)),.string (itx (LN.eHi (lf n) ty))])):=fun W hW=>Hen2.out n W b3 b4 d3 d4 (by omega) (HY.out.below hW) (HL.out.below (B1.out.trans (hW.mono B1.out.size)))
   have Hf:=hd_ (Hfl.out n);have Hspec:Hid (∀ r,Zso n tx ty dx dy=some r→r=q):=fun r h=>HfF.out n r Hp.out h
   obtain⟨⟨hx0,hxx⟩,hy0⟩:=Hps.out n (by omega)
   have hn0:0<n:=by rcases Hp.out with h | h<;>omega
   have Hnx:Hid (Zso n tx ty dx dy=none→n*2≤128∧(n*2=64∨n*2=128)):=fun h=>by
    rcases Hp.out with e|e
    ·subst e;exact⟨by decide,.inr rfl⟩
    ·subst e;exact absurd h Hdec.out
   clear Hen1 Hen2 Hfl HfF Hdec Hbx Hby Hps;have hyy:=Zsw (lf n) ty;generalize Zso n tx ty dx dy=fl at *
   generalize LN.eLo (lf n) tx=xl at *
   generalize LN.eHi (lf n) tx=xh at *
   generalize LN.eLo (lf n) ty=yl at *
   generalize LN.eHi (lf n) ty=yh at *
   have hwn:IntKind.i64.wrap ((n:Int)*2)=((n*2:Nat):Int):=by rw[show (n:Int)*2=((n*2:Nat):Int) by omega];exact iw_ _ (by omega)
   obtain⟨m0,m1,m2,-⟩:=Kt T1.out
   go_wp2_with fail
   refine cm_ HE1.out ?_;rintro e_ w2 ⟨rfl,hb⟩;replace HE2:=hd_ (HE2.out w2 hb);have B2:=hd_ (B1.out.trans (hb.mono B1.out.size));replace T1:=hd_ (Kd T1.out hb nr_);replace T2:=hd_ (Kd T2.out hb nr_);replace HX:=hd_ (HX.out.below hb);replace HY:=hd_ (HY.out.below hb);clear hb HE1 B1 m0 m1 m2;obtain⟨m0,m1,m2,-⟩:=Kt T2.out
   go_wp2_with fail
   clear m0 m1 m2;refine cm_ (HE2.out) ?_;rintro e_ w3 ⟨rfl,hb⟩;have B3:=hd_ (B2.out.trans (hb.mono B2.out.size));replace T1:=hd_ (Kd T1.out hb nr_);replace T2:=hd_ (Kd T2.out hb nr_);replace HX:=hd_ (HX.out.below hb);replace HY:=hd_ (HY.out.below hb);clear hb B2;clear HE2
   go_wp2_with fail
   refine cm_ (HS.out yh _) ?_;rintro e_ w4 ⟨rfl,hb⟩;have B4:=hd_ (B3.out.trans (hb.mono B3.out.size));replace T1:=hd_ (Kd T1.out hb nr_);replace T2:=hd_ (Kd T2.out hb nr_);replace HX:=hd_ (HX.out.below hb);replace HY:=hd_ (HY.out.below hb);clear hb B3;have hsg0:¬ yh.sign≤0:=by have:=Zf yh;omega
   generalize yh.sign=sg0 at *
   go_wp2_with fail
   refine cm_ (HS.out yl _) ?_;rintro e_ w5 ⟨rfl,hb⟩;have B5:=hd_ (B4.out.trans (hb.mono B4.out.size));replace T1:=hd_ (Kd T1.out hb nr_);replace T2:=hd_ (Kd T2.out hb nr_);replace HX:=hd_ (HX.out.below hb);replace HY:=hd_ (HY.out.below hb);clear hb B4;have hsg:0<yl.sign:=by have:=Zf yl;omega
   generalize yl.sign=sg at *
   go_wp2_with fail
   clear hsg;refine cm_ (HS.out xl _) ?_;rintro e_ w6 ⟨rfl,hb⟩;have B6:=hd_ (B5.out.trans (hb.mono B5.out.size));replace T1:=hd_ (Kd T1.out hb nr_);replace T2:=hd_ (Kd T2.out hb nr_);replace HX:=hd_ (HX.out.below hb);replace HY:=hd_ (HY.out.below hb);clear hb B5;have hsg:¬ xl.sign<0:=by have:=Zf xl;omega
   generalize xl.sign=sg at *
   go_wp2_with fail
   clear hsg;refine cm_ (HS.out xh _) ?_;rintro e_ w7 ⟨rfl,hb⟩;have B7:=hd_ (B6.out.trans (hb.mono B6.out.size));replace T1:=hd_ (Kd T1.out hb nr_);replace T2:=hd_ (Kd T2.out hb nr_);replace HX:=hd_ (HX.out.below hb);replace HY:=hd_ (HY.out.below hb);clear hb B6;have hsg:¬ xh.sign<0:=by have:=Zf xh;omega
   generalize xh.sign=sg at *
   obtain⟨k0,k1,k2,-⟩:=Kt T1.out;obtain⟨m0,m1,m2,-⟩:=Kt T2.out;have s2:=BW.cell k2;have r2:=BW.cell m2;have hnon:Nonempty (BW w7):=⟨⟨w7,Below.refl _ _⟩⟩;have I:Hid (Below w7.heap.size w7 w7.drew):=(Below.refl _ _).drew
   go_wp2_with fail
   clear k0 k1 k2 m0 m1 m2;refine RP.wp_region_readers 15 [(1,0),(1,1),(1,2),(1,4),(1,5),(1,6),(0,3),(0,7),(0,8),(2,9),(2,10),(2,11),(2,12),(0,13),(0,14),(0,15)] (fun w'=>∃ p:BW w7,w'=p.w) (by kernel_rfl) (by kernel_rfl) ?_ ?_
   ·exact⟨⟨_,I.out⟩,rfl⟩
   iterate 6 (refine RP.walkR_read ?_;simp only[Kh,dz_,Kg,tz_];go_big_quiet_step (fail);refine wpQuiet_nil ?_)
   clear hnon s2 r2;refine RP.walkR_move ?_;simp only[Kh,dz_,Kg,tz_]
   go_wp2_with fail
   refine cm_ (HMg.out xl _ (by omega) (B7.out.drew)) ?_
   rintro e_ wa ⟨rfl,hb⟩;have Wa:Hid (Below w7.heap.size w7 wa):=(Below.refl w7.heap.size w7).drew.trans hb;clear hb I
   go_wp2_with fail
   refine⟨⟨⟨_,Wa.out⟩,rfl⟩,?_⟩;refine RP.walkR_move ?_;simp only[Kh,dz_,Kg,tz_]
   go_wp2_with fail
   refine cm_ (HMd.out yh _ (by omega) (B7.out.trans (Wa.out.mono B7.out.size))) ?_
   rintro e_ wb ⟨rfl,hb⟩;have Wb:=hd_ (Wa.out.trans (hb.mono Wa.out.size));clear hb Wa
   go_wp2_with fail
   refine⟨⟨⟨_,Wb.out⟩,rfl⟩,?_⟩;refine RP.walkR_move ?_;simp only[Kh,dz_,Kg,tz_]
   go_wp2_with fail
   refine cm_ (HDv.out xl yh _ (by omega) (by omega) (by omega) (B7.out.trans (Wb.out.mono B7.out.size))) ?_
   rintro e_ wc ⟨rfl,hb⟩;have Wc:=hd_ (Wb.out.trans (hb.mono Wb.out.size));clear hb Wb
   go_wp2_with fail
   refine⟨⟨⟨_,Wc.out⟩,rfl⟩,?_⟩;refine RP.walkR_any ?_;simp only[Kh,dz_,Kg,tz_]
   go_big_quiet_step (fail)
   refine wpQuiet_nil ?_;refine RP.walkR_any ?_;simp only[Kh,dz_,Kg,tz_]
   go_big_quiet_step (fail)
   refine wpQuiet_nil ?_;refine RP.walkR_any ?_;simp only[Kh,dz_,Kg,tz_]
   go_big_quiet_step (fail)
   refine wpQuiet_nil ?_;refine RP.walkR_any ?_;simp only[Kh,dz_,Kg,tz_]
   go_big_quiet_step (fail)
   refine wpQuiet_nil ?_;refine RP.walkR_move ?_;simp only[Kh,dz_,Kg,tz_]
   go_wp2_with fail
   refine⟨⟨⟨_,Wc.out⟩,rfl⟩,?_⟩;refine RP.walkR_move ?_;simp only[Kh,dz_,Kg,tz_]
   go_wp2_with fail
   refine⟨⟨⟨_,Wc.out⟩,rfl⟩,?_⟩;refine RP.walkR_move ?_;simp only[Kh,dz_,Kg,tz_]
   go_wp2_with fail
   simp only[RP.walkR];have hb:=Wc.out;have B8:=hd_ (B7.out.trans (hb.mono B7.out.size));replace T1:=hd_ (Kd T1.out hb nr_);replace T2:=hd_ (Kd T2.out hb nr_);replace HX:=hd_ (HX.out.below hb);replace HY:=hd_ (HY.out.below hb);clear hb Wc B7;generalize wc=w8 at *
   go_wp2_with fail
   obtain⟨k0,k1,k2,-⟩:=Kt T1.out;obtain⟨m0,m1,m2,-⟩:=Kt T2.out;have s2:=BW.cell k2;have r2:=BW.cell m2;have hnon:Nonempty (BW w8):=⟨⟨w8,Below.refl _ _⟩⟩;have I:Hid (Below w8.heap.size w8 w8.drew):=(Below.refl _ _).drew
   go_wp2_with fail
   clear k0 k1 k2 m0 m1 m2;refine RP.wp_region_readers 15 [(1,0),(1,1),(1,2),(1,4),(1,5),(1,6),(0,3),(0,7),(0,8),(2,9),(2,10),(2,11),(2,12),(0,13),(0,14),(0,15)] (fun w'=>∃ p:BW w8,w'=p.w) (by kernel_rfl) (by kernel_rfl) ?_ ?_
   ·exact⟨⟨_,I.out⟩,rfl⟩
   iterate 6 (refine RP.walkR_read ?_;simp only[Kh,dz_,Kg,tz_];go_big_quiet_step (fail);refine wpQuiet_nil ?_)
   clear hnon s2 r2;refine RP.walkR_move ?_;simp only[Kh,dz_,Kg,tz_]
   go_wp2_with fail
   refine cm_ (HMg.out xh _ (by omega) (B8.out.drew)) ?_
   rintro e_ wa ⟨rfl,hb⟩;have Wa:Hid (Below w8.heap.size w8 wa):=(Below.refl w8.heap.size w8).drew.trans hb;clear hb I
   go_wp2_with fail
   refine⟨⟨⟨_,Wa.out⟩,rfl⟩,?_⟩;refine RP.walkR_move ?_;simp only[Kh,dz_,Kg,tz_]
   go_wp2_with fail
   refine cm_ (HMd.out yl _ (by omega) (B8.out.trans (Wa.out.mono B8.out.size))) ?_
   rintro e_ wb ⟨rfl,hb⟩;have Wb:=hd_ (Wa.out.trans (hb.mono Wa.out.size));clear hb Wa
   go_wp2_with fail
   refine⟨⟨⟨_,Wb.out⟩,rfl⟩,?_⟩;refine RP.walkR_move ?_;simp only[Kh,dz_,Kg,tz_]
   go_wp2_with fail
   refine cm_ (HDv.out xh yl _ (by omega) (by omega) (by omega) (B8.out.trans (Wb.out.mono B8.out.size))) ?_
   rintro e_ wc ⟨rfl,hb⟩;have Wc:=hd_ (Wb.out.trans (hb.mono Wb.out.size));clear hb Wb
   go_wp2_with fail
   refine⟨⟨⟨_,Wc.out⟩,rfl⟩,?_⟩;refine RP.walkR_any ?_;simp only[Kh,dz_,Kg,tz_]
   go_big_quiet_step (fail)
   refine wpQuiet_nil ?_;refine RP.walkR_any ?_;simp only[Kh,dz_,Kg,tz_]
   go_big_quiet_step (fail)
   refine wpQuiet_nil ?_;refine RP.walkR_any ?_;simp only[Kh,dz_,Kg,tz_]
   go_big_quiet_step (fail)
   refine wpQuiet_nil ?_;refine RP.walkR_any ?_;simp only[Kh,dz_,Kg,tz_]
   go_big_quiet_step (fail)
   refine wpQuiet_nil ?_;refine RP.walkR_move ?_;simp only[Kh,dz_,Kg,tz_]
   go_wp2_with fail
   refine⟨⟨⟨_,Wc.out⟩,rfl⟩,?_⟩;refine RP.walkR_move ?_;simp only[Kh,dz_,Kg,tz_]
   go_wp2_with fail
   refine⟨⟨⟨_,Wc.out⟩,rfl⟩,?_⟩;refine RP.walkR_move ?_;simp only[Kh,dz_,Kg,tz_]
   go_wp2_with fail
   simp only[RP.walkR];have hb:=Wc.out;have B9:=hd_ (B8.out.trans (hb.mono B8.out.size));replace T1:=hd_ (Kd T1.out hb nr_);replace T2:=hd_ (Kd T2.out hb nr_);replace HX:=hd_ (HX.out.below hb);replace HY:=hd_ (HY.out.below hb);clear hb Wc B8;generalize wc=w9 at *
   have hfl:fl=if xl*(dy:Int)/(yh*(dx:Int))=xh*(dy:Int)/(yl*(dx:Int)) then some (xl*(dy:Int)/(yh*(dx:Int))) else none:=by
    rw[Hf.out];unfold flS;rw[if_neg (show ¬ yh≤0 by omega)]
    unfold flE LN.quoL LN.quoH;rw[if_neg (show ¬ yl≤0 by omega),if_neg (show ¬ xl<0 by omega),if_neg (show ¬ xh<0 by omega)]
   have hsame:=Zub (xl*(dy:Int)/(yh*(dx:Int))) (xh*(dy:Int)/(yl*(dx:Int)));clear Hf;generalize xl*(dy:Int)/(yh*(dx:Int))=q1 at *
   generalize xh*(dy:Int)/(yl*(dx:Int))=q2 at *
   by_cases hqq:q1=q2
   ·rw[if_pos hqq] at hfl;rw[decide_eq_true hqq] at hsame;have Hans:=hd_ (Hspec.out _ hfl);clear hfl hqq Hspec Hnx
    go_wp2_with fail
    go_ret;exact⟨by rw[Hans.out];rfl,B9.out⟩
   ·rw[if_neg hqq] at hfl;rw[decide_eq_false hqq] at hsame;obtain⟨hn2,hp2⟩:=Hnx.out hfl;have Hp2:=hd_ hp2;clear hfl hqq Hspec Hnx hp2
    go_wp2_with fail
    go_roundw
    case rel=>exact⟨n*2,Hp2,hn2,rfl,B9,T1,T2,HX,HY⟩
    case measure=>simp[intOf];omega
theorem Zuy:∀ p∈Yt,(lgN ((p:Nat):Int) 128+1)%274877906944≠0:=by decide +kernel
theorem Zeg(f:Int→Nat)(p k:Int)(h:0≤k):LN.eLo f [(p,k)]=k*(f p:Int):=by
 have e1:LN.eLo f [(p,k)]=(if k<0 then k*(LN.hiL f p:Int) else k*(f p:Int))+0:=by simp[LN.eLo]
 rw[e1,if_neg (by omega),Int.add_zero]
theorem Zjd(f:Int→Nat)(p k:Int)(h:0≤k):LN.eHi f [(p,k)]=k*(LN.hiL f p:Int):=by
 have e1:LN.eHi f [(p,k)]=(if k<0 then k*(f p:Int) else k*(LN.hiL f p:Int))+0:=by simp[LN.eHi]
 rw[e1,if_neg (by omega),Int.add_zero]
theorem Zvf{p n N:Nat}(hp:p∈Yt)(hN:N≤1056)(hn:n+38≤N)(hl:(lgN p N+1)%274877906944≠0):
  Zso N [((p:Int),((2^n:Nat):Int))] [((2:Int),(1:Int))] 1 1=some ((lgN p n:Nat):Int):=by
 have hcut:=Zgd (p:=p) (.inr hp) (N-n) (n:=n) (by omega)
 rw[show n+(N-n)=N by omega] at hcut
 have hp2:((p:Nat):Int)≠2:=by have:=Yg hp;omega
 have h2n:(2:Nat)^N=2^n*2^(N-n):=by rw[← Nat.pow_add];congr 1;omega
 have hdv:274877906944 ∣ 2^(N-n):=by
  rw[show (274877906944:Nat)=2^38 by decide]
  exact Nat.pow_dvd_pow 2 (by omega)
 have hnd:¬ 2^(N-n) ∣ lgN p N+1:=fun h=>hl (Nat.mod_eq_zero_of_dvd (Nat.dvd_trans hdv h))
 have hsd:(lgN p N+1)/2^(N-n)=lgN p N/2^(N-n):=Nat.succ_div_of_not_dvd hnd;have hpos:=Nat.two_pow_pos n;have hpos2:=Nat.two_pow_pos (N-n);unfold Zso;rw[Zeg _ _ _ (by omega),Zjd _ _ _ (by omega),Zeg _ _ _ (by decide),Zjd _ _ _ (by decide)]
 have f1:LN.hiL (lf N) p=lgN p N+1:=by unfold LN.hiL lf;rw[if_neg hp2]
 have f2:LN.hiL (lf N) 2=2^N:=by unfold LN.hiL lf;rw[if_pos rfl,Yl]
 have f3:lf N 2=2^N:=Yl N;have f4:lf N p=lgN p N:=rfl;rw[f1,f2,f3,f4,h2n];clear f1 f2 f3 f4 h2n hl hnd hdv;rw[hcut] at hsd;generalize lgN p N=L at *
 generalize lgN p n=K at *
 generalize (2:Nat)^n=A at *
 generalize (2:Nat)^(N-n)=D at *
 have g1:((A:Int)*(L:Int))=((A*L:Nat):Int):=by rw[Int.natCast_mul]
 have g2:((A:Int)*((L+1:Nat):Int))=((A*(L+1):Nat):Int):=by rw[Int.natCast_mul]
 have hAD:0<A*D:=Nat.mul_pos hpos hpos2;have q1:LN.quoL ((A:Int)*(L:Int)) (1*((A*D:Nat):Int)) (1*((A*D:Nat):Int)) 1 1=(K:Int):=by
  unfold LN.quoL;rw[g1,if_neg (by omega),Int.mul_one,Int.mul_one,Int.one_mul,← Int.natCast_ediv,Nat.mul_div_mul_left _ _ hpos,hcut]
 have q2:LN.quoH ((A:Int)*((L+1:Nat):Int)) (1*((A*D:Nat):Int)) (1*((A*D:Nat):Int)) 1 1=(K:Int):=by
  unfold LN.quoH;rw[g2,if_neg (by omega),Int.mul_one,Int.mul_one,Int.one_mul,← Int.natCast_ediv,Nat.mul_div_mul_left _ _ hpos,hsd]
 unfold flS;rw[if_neg (by rw[Int.one_mul];omega)]
 unfold flE;rw[if_neg (by rw[Int.one_mul];omega)]
 have c1:((1:Nat):Int)=1:=rfl;rw[c1,q1,q2,if_pos rfl]
theorem Zkq{p n N:Nat}{r:Int}(hp:p∈Yt)(hN:N≤1056)(h:Zso N [((p:Int),((2^n:Nat):Int))] [((2:Int),(1:Int))] 1 1=some r):r=((lgN p n:Nat):Int):=by
 have hp2:((p:Nat):Int)≠2:=by have:=Yg hp;omega
 have hz:(0:Int)≤((2^n:Nat):Int):=Int.natCast_nonneg _;unfold Zso at h;rw[Zeg _ _ _ hz,Zjd _ _ _ hz,Zeg _ _ _ (by decide),Zjd _ _ _ (by decide)] at h
 have f1:LN.hiL (lf N) p=lgN p N+1:=by unfold LN.hiL lf;rw[if_neg hp2]
 have f2:LN.hiL (lf N) 2=2^N:=by unfold LN.hiL lf;rw[if_pos rfl,Yl]
 have f3:lf N 2=2^N:=Yl N;have f4:lf N p=lgN p N:=rfl;rw[f1,f2,f3,f4] at h;have hpos:=Nat.two_pow_pos n;have hposN:=Nat.two_pow_pos N;unfold flS at h;rw[if_neg (by rw[Int.one_mul];omega)] at h
 obtain⟨-,h1,h2⟩:=Zve h;unfold LN.quoL at h1;unfold LN.quoH at h2;have c1:((1:Nat):Int)=1:=rfl;rw[c1,← Int.natCast_mul,if_neg (by omega),Int.mul_one,Int.mul_one,Int.one_mul,← Int.natCast_ediv] at h1
 rw[c1,← Int.natCast_mul,if_neg (by omega),Int.mul_one,Int.mul_one,Int.one_mul,← Int.natCast_ediv] at h2
 rcases Nat.lt_or_ge N n with hc|hc
 ·exfalso;have e:(2:Nat)^n=2^N*2^(n-N):=by rw[← Nat.pow_add];congr 1;omega
  have hd:=Nat.two_pow_pos (n-N);rw[e,Nat.mul_assoc,Nat.mul_div_cancel_left _ hposN] at h1;rw[e,Nat.mul_assoc,Nat.mul_div_cancel_left _ hposN,Nat.mul_add,Nat.mul_one] at h2;omega
 ·have hcut:=Zgd (p:=p) (.inr hp) (N-n) (n:=n) (by omega)
  rw[show n+(N-n)=N by omega] at hcut
  have e:(2:Nat)^N=2^n*2^(N-n):=by rw[← Nat.pow_add];congr 1;omega
  rw[e,Nat.mul_div_mul_left _ _ hpos,hcut] at h1;exact h1.symm
def pwA (n:Nat):List Rat:=[0,((((2^n:Nat):Int)):Rat)]
def pwB:List Rat:=[1,0]
theorem Zcu(n:Nat):Qc (pwA n)=1:=by
 have h:=LN.tden_min (l:=pwA n) (D:=1) fun q hq=>by
  simp only[pwA,List.mem_cons,List.not_mem_nil,or_false] at hq;rcases hq with rfl|rfl
  ·exact Nat.dvd_refl 1
  ·rw[Rat.den_intCast];exact Nat.dvd_refl 1
 exact Nat.dvd_one.1 h
theorem Zct:Qc pwB=1:=by decide +kernel
theorem Za9(p n:Nat):tlQ [2,(p:Int)] (pwA n)=[((p:Int),((2^n:Nat):Int))]:=by
 have h0:=Nat.two_pow_pos n;unfold tlQ;rw[Zcu];unfold Vo pwA;generalize 2^n=A at *
 rw[List.zip_cons_cons,List.zip_cons_cons,List.filterMap_cons,List.filterMap_cons];have z0:(0:Rat).num=0:=rfl;have z1:((((A:Nat):Int)):Rat).num=((A:Nat):Int):=by rw[Rat.num_intCast]
 have z2:((((A:Nat):Int)):Rat).den=1:=by rw[Rat.den_intCast]
 simp only[z0,z1,z2,if_pos];rw[if_neg (by omega)]
 simp
theorem Zba(p:Nat):tlQ [2,(p:Int)] pwB=[((2:Int),(1:Int))]:=by
 unfold tlQ;rw[Zct];unfold Vo pwB;rw[List.zip_cons_cons,List.zip_cons_cons,List.filterMap_cons,List.filterMap_cons];rfl
theorem Zrk{p:Nat}(hp:p∈Yt):Vp [2,(p:Int)]=0:=by
 have key:∀ q∈Yt,Vp [2,((q:Nat):Int)]=0:=by decide +kernel
 exact key p hp
theorem Zyf{p:Nat}(hp:p∈Yt):∀ x∈[2,(p:Int)],x∈Zjn:=by
 have key:∀ q∈Yt,((q:Nat):Int)∈Zjn:=by decide
 intro x hx;simp only[List.mem_cons,List.not_mem_nil,or_false] at hx;rcases hx with rfl|rfl
 ·decide
 ·exact key p hp
theorem Zr4(p k:Int):Zcz [(p,k)]=min (k*lgA p) (k*lgB p)∧Yi [(p,k)]=max (k*lgA p) (k*lgB p):=by
 unfold Zcz Yi;exact⟨by simp,by simp⟩
theorem Zxk:okT 100000 ((2:Int),(1:Int)):=by decide +kernel
theorem Zy3:lgA 2=67108864∧lgB 2=67108864:=by decide +kernel
theorem Zxj:∀ q∈Yt,(0:Int)≤lgA ((q:Nat):Int)∧lgA ((q:Nat):Int)≤500000000∧lgB ((q:Nat):Int)=lgA ((q:Nat):Int)+1:=by decide +kernel
theorem Zsn{p n:Nat}(hp:p∈Yt)(hn:n≤90):Zz8 [2,(p:Int)] (pwA n) pwB 91 ((lgN p n:Nat):Int):=by
 have hpos:=Nat.two_pow_pos n;obtain⟨o1,o2⟩:=Zy3;obtain⟨g1,g2,g3⟩:=Zxj p hp;obtain⟨l1,l2⟩:=Zr4 (p:Int) ((2^n:Nat):Int);obtain⟨m1,m2⟩:=Zr4 2 1;rw[o1,o2] at m1 m2;rw[g3] at l1 l2;have q1:((2^n:Nat):Int)*lgA p≤((2^n:Nat):Int)*(lgA p+1):=Int.mul_le_mul_of_nonneg_left (by omega) (by omega)
 have q0:0≤((2^n:Nat):Int)*lgA p:=Int.mul_nonneg (by omega) g1
 rw[Int.min_eq_left q1] at l1;rw[Int.max_eq_right q1] at l2;have m1':Zcz [((2:Int),(1:Int))]=67108864:=m1;have m2':Yi [((2:Int),(1:Int))]=67108864:=m2;have hm:∀ {P:Int×Int→Prop} {x:Int×Int},P x→∀ t∈[x],P t:=fun h t ht=>by obtain rfl:=List.mem_singleton.1 ht;exact h
 refine⟨Zyf hp,by simp,?_,?_,by rw[Zcu];decide,by rw[Zct];decide,by decide,fun N hN=>?_,?_,fun N r hN h=>?_,?_,?_,by rw[Zcu];decide,by rw[Zct];decide,?_,?_,fun h=>?_,?_,?_,?_,fun h=>?_⟩
 ·rw[Za9];refine hm (P:=fun t=>t.2.natAbs<2^91) ?_
  show (((2^n:Nat):Int)).natAbs<2^91
  rw[Int.natAbs_natCast];exact Nat.pow_lt_pow_right (by decide) (by omega)
 ·rw[Zba];exact hm (P:=fun t=>t.2.natAbs<2^91) (by decide)
 ·rw[Za9,Zba,Zeg _ _ _ (Int.natCast_nonneg _),Zeg _ _ _ (by decide)]
  refine⟨Int.mul_nonneg (Int.natCast_nonneg _) (Int.natCast_nonneg _),?_⟩;have f3:lf N 2=2^N:=Yl N;rw[f3,Int.one_mul];have:=Nat.two_pow_pos N
  omega
 ·rw[Za9,Zba,Zcu,Zct,Zvf hp (by decide) (by omega) (Zuy p hp)]
  exact fun h=>by cases h
 ·rw[Za9,Zba,Zcu,Zct] at h;exact Zkq hp (by omega) h
 ·refine decide_eq_false fun h=>?_
  have h1:=h 1 (by simp)
  have e1:pwB.getD 1 0=0:=rfl;have e2:(pwA n).getD 1 0=((((2^n:Nat):Int)):Rat):=rfl;rw[e1,e2,Rat.mul_zero] at h1;have h2:((0:Int):Rat)=((((2^n:Nat):Int)):Rat):=h1;have:=Rat.intCast_inj.1 h2
  omega
 ·rw[Zba];exact hm (P:=okT 100000) Zxk
 ·rw[Za9,l1];exact q0
 ·rw[Za9,l1,l2];exact q1
 ·rw[Za9] at h;have hk:=(h _ (List.mem_singleton.2 rfl)).1.2;rw[Za9,l2];have hk':((2^n:Nat):Int)≤100000:=hk;have:=Int.mul_le_mul hk' (show lgA p+1≤500000001 by omega) (by omega) (by omega)
  omega
 ·rw[Zba,m1'];decide
 ·rw[Zba,m1',m2'];decide
 ·rw[Zba,m2'];decide
 ·rw[Za9] at h;have hk:=h _ (List.mem_singleton.2 rfl);have hk':((2^n:Nat):Int)≤100000:=hk.1.2;have hd:=(Zzc (p:=(p:Int)) ⟨p,rfl,.inr hp⟩ hk.2).1;have hn16:n≤16:=by
   refine Nat.le_of_not_lt fun hc=>?_
   have:2^17≤2^n:=Nat.pow_le_pow_right (by decide) hc
   have e:(2:Nat)^17=131072:=by decide
   omega
  rw[Za9,Zba,l1,m2',Zcu,Zct,hd];have hcut:=Zgd (p:=p) (.inr hp) (26-n) (n:=n) (by omega)
  rw[show n+(26-n)=26 by omega] at hcut
  have e:(67108864:Nat)=2^n*2^(26-n):=by
   rw[← Nat.pow_add,show n+(26-n)=26 by omega]
  have f4:lf 26 p=lgN p 26:=rfl;have key:((2^n:Nat):Int)*((lf 26 p:Nat):Int)*((1:Nat):Int)/(67108864*((1:Nat):Int))=((lgN p n:Nat):Int):=by
   rw[show (67108864:Int)=((67108864:Nat):Int) from rfl,← Int.natCast_mul,← Int.natCast_mul,← Int.natCast_mul,← Int.natCast_ediv,Nat.mul_one,Nat.mul_one,e,Nat.mul_div_mul_left _ _ hpos,f4,hcut]
  have hlt:=Zgc (.inr hp) (show n≤1056 by omega)
  have h16:2^n≤2^16:=Nat.pow_le_pow_right (by decide) hn16
  have e16:(2:Nat)^16=65536:=by decide
  exact⟨key,by omega,by omega⟩
theorem Qaj{n:Nat}(hn:n≤90):(∀ q∈pwA n,Sm 30 q)∧∀ q∈pwB,Sm 30 q:=by
 have h1:(2:Nat)^n≤2^90:=Nat.pow_le_pow_right (by decide) hn
 have h2:(2:Nat)^90<10^30:=by decide
 have z:Sm 30 (0:Rat):=⟨by decide,by decide⟩
 constructor
 ·intro q hq;simp only[pwA,List.mem_cons,List.not_mem_nil,or_false] at hq;rcases hq with rfl|rfl
  ·exact z
  ·exact⟨by rw[Rat.num_intCast,Int.natAbs_natCast];omega,by rw[Rat.den_intCast];decide⟩
 ·intro q hq;simp only[pwB,List.mem_cons,List.not_mem_nil,or_false] at hq;rcases hq with rfl|rfl
  ·exact⟨by decide,by decide⟩
  ·exact z
theorem Zux{p n:Nat}(hp:p∈Yt)(hn:n≤1056):2^lgN p n≤p^(2^n)∧p^(2^n)<2^(lgN p n+1):=by
 have h:=Zzb (.inr hp) hn;exact⟨h.le,h.lt⟩
theorem Zke{p k:Nat}(hp:p≤97)(hk:k≤4000):Num (p^k):=by
 show (dec (p^k)).size≤1000000
 obtain⟨D,hD⟩:∃ D:Nat,D=8001:=⟨_,rfl⟩;refine Nat.le_trans ((Yz (p^k) D (by omega)).2 ?_) (by omega)
 have h1:p^k≤(10^2)^k:=Nat.pow_le_pow_left (by omega) k
 rw[← Nat.pow_mul] at h1;exact Nat.lt_of_le_of_lt h1 (Nat.pow_lt_pow_right (by decide) (by omega))
theorem Zr8(w:World)(n:Nat)(hn:n≤90)(L:Qb w):Kc Tryz.prog 49 #[.int .i64 2,.int .i64 n] w (.string (dec (lgN 2 n))):=by
 have h:=Zcy w 2 n (by decide) (Zke (by decide) (by omega)) (by omega) L
 rw[Zde] at h;rw[Yl];unfold Kc;have H:=hd_ h;clear h L hn;generalize dec (2^n)=s at *
 go_enter Tryz.func49,Tryz.ntmps49
 go_wp2_with fail
 refine cm_ H.out ?_;rintro e w1 ⟨rfl,hb⟩;have B1:=hd_ hb;clear hb H
 go_wp2_with fail
 go_ret;exact⟨rfl,B1.out⟩
theorem Zr9(w:World)(p n:Nat)(hp:p∈Yt)(hn:n≤9)(L:Qb w):Kc Tryz.prog 49 #[.int .i64 p,.int .i64 n] w (.string (dec (lgN p n))):=by
 have h97:=Yg hp;obtain⟨b1,b2⟩:=Zux hp (show n≤1056 by omega)
 have hlt:=Zgc (.inr hp) (show n≤1056 by omega)
 have h2n:2^n≤512:=by
  have:2^n≤2^9:=Nat.pow_le_pow_right (by decide) hn
  simpa using this
 have hsh:(1:Int)*2^n=((2^n:Nat):Int):=by rw[Int.one_mul,Int.natCast_pow];rfl
 obtain⟨K,hK⟩:∃ K,2^n=K:=⟨_,rfl⟩;obtain⟨T,hT⟩:∃ T,lgN (p:Int) n=T:=⟨_,rfl⟩;rw[hK] at h2n b1 b2 hlt hsh;rw[hT] at b1 b2 hlt ⊢;unfold Kc;have H1:=hd_ (fun W (hW:Below w.heap.size w W)=>Ziv W (p:Int) (by omega) (by omega) (L.below hW))
 have H2:=hd_ (fun W (hW:Below w.heap.size w W)=>Zcy W p K (by omega) (Zke (by omega) (by omega)) (by omega) (L.below hW))
 have H3:=hd_ (fun W (hW:Below w.heap.size w W)=>Zti W (p^K) T (Zke (by omega) (by omega)) b1 b2 (by omega) (L.below hW))
 have H4:=hd_ (fun W (hW:Below w.heap.size w W)=>Ziv W (T:Int) (by omega) (by omega) (L.below hW))
 rw[Kj] at H1 H4;have hp2:((p:Int)==2)=false:=by rw[beq_eq_false_iff_ne];omega
 have hn9:(n:Int)≤9:=by omega
 have ew1:IntKind.i64.wrap (K:Int)=(K:Int):=iw_ _ (by omega)
 have ew2:IntKind.i64.wrap (((T+1:Nat):Int)-1)=(T:Int):=by rw[show ((T+1:Nat):Int)-1=(T:Int) by omega];exact iw_ _ (by omega)
 have ew3:IntKind.i64.wrap ((T:Int)+1-1)=(T:Int):=by rw[show (T:Int)+1-1=(T:Int) by omega];exact iw_ _ (by omega)
 have ew4:wrap64 (T:Int)=(T:Int):=IntWalk.wrap64_in _ ⟨by clear ew1 ew2 ew3;omega,by clear ew1 ew2 ew3;omega⟩
 clear hp h97 b1 b2 hlt hT hK L;generalize dec T=st at *
 generalize dec (p^K)=sk at *
 generalize dec p=sp at *
 go_enter Tryz.func49,Tryz.ntmps49;have hnon:Nonempty (NW w):=⟨⟨w,Below.refl _ _⟩⟩;have I:Hid (Below w.heap.size w w.drew):=(Below.refl _ _).drew
 go_wp2_with fail
 refine RP.wp_region_readers 8 [(2,0),(2,2),(2,3),(0,1),(0,4),(0,5),(0,6),(0,7),(0,8)] (fun w'=>∃ p:NW w,w'=p.w) (by kernel_rfl) (by kernel_rfl) ?_ ?_
 ·exact⟨⟨_,I.out⟩,rfl⟩
 iterate 3 (refine RP.walkR_any ?_;simp only[Kh,dz_,Kg,tz_];go_big_quiet_step (fail);refine wpQuiet_nil ?_)
 clear hnon;refine RP.walkR_move ?_;simp only[Kh,dz_,Kg,tz_]
 go_wp2_with fail
 refine cm_ (H1.out _ I.out) ?_;rintro e_ x1 ⟨rfl,hb_⟩;have W_x1:Hid (Below w.heap.size w x1):=I.out.trans (hb_.mono I.out.size);clear hb_ H1 I
 go_wp2_with fail
 refine⟨⟨⟨_,W_x1.out⟩,rfl⟩,?_⟩;refine RP.walkR_move ?_;simp only[Kh,dz_,Kg,tz_]
 go_wp2_with fail
 refine cm_ (H2.out _ W_x1.out) ?_;rintro e_ x2 ⟨rfl,hb_⟩;have W_x2:Hid (Below w.heap.size w x2):=W_x1.out.trans (hb_.mono W_x1.out.size);clear hb_ H2 W_x1
 go_wp2_with fail
 refine⟨⟨⟨_,W_x2.out⟩,rfl⟩,?_⟩;refine RP.walkR_move ?_;simp only[Kh,dz_,Kg,tz_]
 go_wp2_with fail
 refine cm_ (H3.out _ W_x2.out) ?_;rintro e_ x3 ⟨rfl,hb_⟩;have W_x3:Hid (Below w.heap.size w x3):=W_x2.out.trans (hb_.mono W_x2.out.size);clear hb_ H3 W_x2
 go_wp2_with fail
 refine⟨⟨⟨_,W_x3.out⟩,rfl⟩,?_⟩;refine RP.walkR_move ?_;simp only[Kh,dz_,Kg,tz_]
 go_wp2_with fail
 refine⟨⟨⟨_,W_x3.out⟩,rfl⟩,?_⟩;refine RP.walkR_move ?_;simp only[Kh,dz_,Kg,tz_]
 go_wp2_with fail
 refine cm_ (H4.out _ W_x3.out) ?_;rintro e_ x4 ⟨rfl,hb_⟩;have W_x4:Hid (Below w.heap.size w x4):=W_x3.out.trans (hb_.mono W_x3.out.size);clear hb_ H4 W_x3
 go_wp2_with fail
 refine⟨⟨⟨_,W_x4.out⟩,rfl⟩,?_⟩;refine RP.walkR_move ?_;simp only[Kh,dz_,Kg,tz_]
 go_wp2_with fail
 simp only[RP.walkR]
 go_wp2_with fail
 go_ret;exact⟨rfl,W_x4.out⟩
theorem Zlv:Kx pwB=[.string ⟨#[49]⟩,.string ⟨#[49]⟩,.string ⟨#[48]⟩,.string ⟨#[49]⟩]:=by
 obtain⟨z1,z2⟩:=Zcr;have o1:itx (1:Rat).num=⟨#[49]⟩:=by show itx 1=_;rw[show itx 1=dec 1 from Kj 1,Vf]
 have o2:dec (1:Rat).den=⟨#[49]⟩:=Vf
 show ([.string (itx (1:Rat).num),.string (dec (1:Rat).den),.string (itx (0:Rat).num),.string (dec (0:Rat).den)]:List Value)=_
 rw[z1,z2,o1,o2]
theorem Zlu(n:Nat):Kx (pwA n)=[.string ⟨#[48]⟩,.string ⟨#[49]⟩,.string (dec (2^n)),.string ⟨#[49]⟩]:=by
 obtain⟨z1,z2⟩:=Zcr;unfold pwA;generalize 2^n=A
 show ([.string (itx (0:Rat).num),.string (dec (0:Rat).den),.string (itx (((A:Int)):Rat).num),.string (dec (((A:Int)):Rat).den)]:List Value)=_
 rw[z1,z2,Rat.num_intCast,Rat.den_intCast,Kj,Vf]
theorem Zsa(w:World)(p n:Nat)(hp:p∈Yt)(h9:9<n)(hn:n≤90)(L:Qb w):Kc Tryz.prog 49 #[.int .i64 p,.int .i64 n] w (.string (dec (lgN p n))):=by
 have h97:=Yg hp;have hok:=Zsn hp hn;have hpc:=Zrk hp;obtain⟨sA,sB⟩:=Qaj hn;have hpr:∀ x∈[2,(p:Int)],2≤x∧x≤97:=fun x hx=>by
  simp only[List.mem_cons,List.not_mem_nil,or_false] at hx;rcases hx with rfl|rfl<;>omega
 have hsz:∀ (W:World) (a0 a1:Option Addr) (l:List Rat),Rd W a0 (Vc [2,(p:Int)])→Rd W a1 (Kx l)→l.length=2→(∀ q∈l,Sm 30 q)→Zt W [2,(p:Int)] a0 a1 l 30:=fun W a0 a1 l r0 r1 hl hs=>⟨r0,r1,hl,by simp,hpr,hs,by decide⟩
 have HF:=hd_ (fun (W:World) (hW:Below w.heap.size w W) (a0 a1 a2:Option Addr) (r0:Rd W a0 (Vc [2,(p:Int)])) (r1:Rd W a1 (Kx (pwA n))) (r2:Rd W a2 (Kx pwB))=>by
  have A:=hsz W a0 a1 _ r0 r1 rfl sA;have B:=hsz W a0 a2 _ r0 r2 rfl sB;have h:=Zv8 W [2,(p:Int)] a0 a1 a2 2 2 2 _ _ A B hpc (L.below hW) (by rw[Zba];simp) ((lgN p n:Nat):Int) fun W' hW'=>Zvd W' [2,(p:Int)] a0 a1 a2 2 2 2 30 91 _ _ _ (A.below hW') (B.below hW') (by decide) hok ((L.below hW).below hW')
  rw[Kj] at h;exact(show Kc Tryz.prog 128 #[.slice a0 2 2,.slice a1 2 2,.slice a2 2 2] W (.tuple #[.string (dec (lgN p n)),.int .i64 0]) from h))
 rw[Zlv,Zlu] at HF;have HPw:=hd_ (fun W (hW:Below w.heap.size w W)=>Zcy W 2 n (by decide) (Zke (by decide) (by omega)) (by omega) (L.below hW))
 rw[Zde] at HPw;have N0:=hd_ (fun W (hW:Below w.heap.size w W)=>Zge W 0 1 0 (by decide +kernel) (by decide) (by decide) (by decide) (by decide) (L.below hW))
 have N1:=hd_ (fun W (hW:Below w.heap.size w W)=>Zge W 1 1 1 (by decide +kernel) (by decide) (by decide) (by decide) (by decide) (L.below hW))
 obtain⟨z1,z2⟩:=Zcr;have o1:itx (1:Rat).num=⟨#[49]⟩:=by show itx 1=_;rw[show itx 1=dec 1 from Kj 1,Vf]
 have o2:dec (1:Rat).den=⟨#[49]⟩:=Vf;unfold fr fv at N0 N1;rw[z1,z2] at N0;rw[o1,o2] at N1;have hp2:((p:Int)==2)=false:=by rw[beq_eq_false_iff_ne];omega
 have hn9:¬ (n:Int)≤9:=by omega
 clear hp h97 hok hsz sA sB hpc hpr z1 z2 o1 o2 L h9;unfold Kc;generalize dec (lgN p n)=st at *
 generalize dec (2^n)=sp at *
 go_enter Tryz.func49,Tryz.ntmps49
 go_wp2_with fail
 have B1:=hd_ ((Below.refl w.heap.size w).alloc nr_ (.cells #[.int .i64 2,.int .i64 p] 3));have F1:Hid ((w.alloc (.cells #[.int .i64 2,.int .i64 p] 3)).heap[w.heap.size]?=some (.cells #[.int .i64 2,.int .i64 p] 3 (0,0))):=heap_alloc_new w _;generalize w.alloc (.cells #[.int .i64 2,.int .i64 p] 3)=w1 at *
 refine cm_ (HPw.out _ B1.out) ?_;rintro e_ w2 ⟨rfl,hb_⟩;have B2:=hd_ (B1.out.trans (hb_.mono B1.out.size));replace F1:=hd_ (Kl (Kd F1.out hb_ nr_) (.cells #[.string sp,.string ⟨#[49]⟩] 42));have B3:=hd_ (B2.out.alloc B2.out.size (.cells #[.string sp,.string ⟨#[49]⟩] 42));have F2:Hid ((w2.alloc (.cells #[.string sp,.string ⟨#[49]⟩] 42)).heap[w2.heap.size]?=some (.cells #[.string sp,.string ⟨#[49]⟩] 42 (0,0))):=heap_alloc_new w2 _;clear hb_ B1 B2 HPw
 go_wp2_with fail
 generalize w2.alloc (.cells #[.string sp,.string ⟨#[49]⟩] 42)=w3 at *
 generalize w2.heap.size=g2 at *
 obtain⟨k0,k1,-,-⟩:=Ka F2.out;have q0:=BW.cell k0;have q1:=BW.cell k1;have hnon:Nonempty (BW w3):=⟨⟨w3,Below.refl _ _⟩⟩;have I:Hid (Below w3.heap.size w3 w3.drew):=(Below.refl w3.heap.size w3).drew;clear k0 k1 F2;refine RP.wp_region_tree 12 (.rd 2 0 (.rd 1 2 (.mv 1 (.two 3 4 (.mv 4 (.mv 5 (.mv 6 (.mv 7 (.rd 2 8 (.rd 2 9 (.rd 2 10 (.mv 11 (.mv 12 .nil))))))))) (.two 3 5 (.mv 5 (.mv 6 (.mv 7 (.rd 2 8 (.rd 2 9 (.rd 2 10 (.mv 11 (.mv 12 .nil)))))))) (.two 3 6 (.mv 6 (.mv 7 (.rd 2 8 (.rd 2 9 (.rd 2 10 (.mv 11 (.mv 12 .nil))))))) (.mv 3 (.mv 7 (.rd 2 8 (.rd 2 9 (.rd 2 10 (.mv 11 (.mv 12 .nil))))))))))))) (fun w'=>∃ p:BW w3,w'=p.w) (by kernel_rfl) (by kernel_rfl) ?_ ?_
 ·exact⟨⟨_,I.out⟩,rfl⟩
 refine RP.walkT_any ?_;simp only[dz_,Kg,tz_]
 go_big_quiet_step (fail);refine wpQuiet_nil ?_
 refine RP.walkT_read ?_;simp only[Kh,dz_,Kg,tz_]
 go_big_quiet_step (fail);refine wpQuiet_nil ?_
 clear q0 q1 hnon;refine RP.walkT_move ?_;simp only[Kh,dz_,Kg,tz_]
 go_wp2_with fail
 refine cm_ (N0.out _ (B3.out.trans (I.out.mono B3.out.size))) ?_;rintro e_ y1 ⟨rfl,hb_⟩;have W_y1:Hid (Below w3.heap.size w3 y1):=I.out.trans (hb_.mono I.out.size);clear hb_
 go_wp2_with fail
 refine⟨⟨⟨_,W_y1.out⟩,rfl⟩,?_⟩;refine RP.walkT_two ?_ ?_
 ·simp only[Kh,dz_,Kg,tz_]
  go_wp2_with fail
  have W_y2:=hd_ (W_y1.out.alloc W_y1.out.size (.cells #[.string ⟨#[48]⟩,.string ⟨#[49]⟩,.string sp,.string ⟨#[49]⟩] 42));have X_y2:Hid ((y1.alloc (.cells #[.string ⟨#[48]⟩,.string ⟨#[49]⟩,.string sp,.string ⟨#[49]⟩] 42)).heap[y1.heap.size]?=some (.cells #[.string ⟨#[48]⟩,.string ⟨#[49]⟩,.string sp,.string ⟨#[49]⟩] 42 (0,0))):=heap_alloc_new y1 _;refine⟨⟨⟨_,W_y2.out⟩,rfl⟩,?_⟩;obtain⟨gX_y2,hgX_y2⟩:∃ g,g=y1.heap.size:=⟨_,rfl⟩;rw[← hgX_y2] at X_y2 ⊢;clear hgX_y2;generalize y1.alloc (.cells #[.string ⟨#[48]⟩,.string ⟨#[49]⟩,.string sp,.string ⟨#[49]⟩] 42)=y2 at *
  refine RP.walkT_move ?_;simp only[Kh,dz_,Kg,tz_]
  go_wp2_with fail
  refine cm_ (N1.out _ (B3.out.trans (W_y2.out.mono B3.out.size))) ?_;rintro e_ y3 ⟨rfl,hb_⟩;have W_y3:Hid (Below w3.heap.size w3 y3):=W_y2.out.trans (hb_.mono W_y2.out.size);have X_y3:=hd_ (Kd X_y2.out hb_ nr_);clear hb_
  go_wp2_with fail
  refine⟨⟨⟨_,W_y3.out⟩,rfl⟩,?_⟩;refine RP.walkT_move ?_;simp only[Kh,dz_,Kg,tz_]
  go_wp2_with fail
  refine cm_ (N0.out _ (B3.out.trans (W_y3.out.mono B3.out.size))) ?_;rintro e_ y4 ⟨rfl,hb_⟩;have W_y4:Hid (Below w3.heap.size w3 y4):=W_y3.out.trans (hb_.mono W_y3.out.size);have X_y4:=hd_ (Kd X_y3.out hb_ nr_);clear hb_
  go_wp2_with fail
  refine⟨⟨⟨_,W_y4.out⟩,rfl⟩,?_⟩;refine RP.walkT_move ?_;simp only[Kh,dz_,Kg,tz_]
  go_wp2_with fail
  have W_y5:=hd_ (W_y4.out.alloc W_y4.out.size (.cells #[.string ⟨#[49]⟩,.string ⟨#[49]⟩,.string ⟨#[48]⟩,.string ⟨#[49]⟩] 42));have Y_y5:Hid ((y4.alloc (.cells #[.string ⟨#[49]⟩,.string ⟨#[49]⟩,.string ⟨#[48]⟩,.string ⟨#[49]⟩] 42)).heap[y4.heap.size]?=some (.cells #[.string ⟨#[49]⟩,.string ⟨#[49]⟩,.string ⟨#[48]⟩,.string ⟨#[49]⟩] 42 (0,0))):=heap_alloc_new y4 _;have X_y5:=hd_ (Kl X_y4.out (.cells #[.string ⟨#[49]⟩,.string ⟨#[49]⟩,.string ⟨#[48]⟩,.string ⟨#[49]⟩] 42));refine⟨⟨⟨_,W_y5.out⟩,rfl⟩,?_⟩;obtain⟨gY_y5,hgY_y5⟩:∃ g,g=y4.heap.size:=⟨_,rfl⟩;rw[← hgY_y5] at Y_y5 ⊢;clear hgY_y5;generalize y4.alloc (.cells #[.string ⟨#[49]⟩,.string ⟨#[49]⟩,.string ⟨#[48]⟩,.string ⟨#[49]⟩] 42)=y5 at *
  refine RP.walkT_move ?_;simp only[Kh,dz_,Kg,tz_]
  go_wp2_with fail
  refine cm_ (HF.out _ (B3.out.trans (W_y5.out.mono B3.out.size)) _ _ _ (Zg (Kd F1.out W_y5.out nr_)) (Zg X_y5.out) (Zg Y_y5.out)) ?_;rintro e_ z1 ⟨rfl,hb_⟩;have W1:Hid (Below w3.heap.size w3 z1):=W_y5.out.trans (hb_.mono W_y5.out.size);clear hb_
  go_wp2_with fail
  refine⟨⟨⟨_,W1.out⟩,rfl⟩,?_⟩;refine RP.walkT_any ?_;simp only[Kh,dz_,Kg,tz_]
  go_big_quiet_step (fail);refine wpQuiet_nil ?_
  refine RP.walkT_any ?_;simp only[Kh,dz_,Kg,tz_]
  go_big_quiet_step (fail);refine wpQuiet_nil ?_
  refine RP.walkT_any ?_;simp only[Kh,dz_,Kg,tz_]
  go_big_quiet_step (fail);refine wpQuiet_nil ?_
  refine RP.walkT_move ?_;simp only[Kh,dz_,Kg,tz_]
  go_wp2_with fail
  refine⟨⟨⟨_,W1.out⟩,rfl⟩,?_⟩;refine RP.walkT_move ?_;simp only[Kh,dz_,Kg,tz_]
  go_wp2_with fail
  simp only[RP.walkT]
  go_wp2_with fail
  go_ret;exact⟨rfl,B3.out.trans (W1.out.mono B3.out.size)⟩
 ·simp only[Kh,dz_,Kg,tz_]
  go_wp2_with fail
  refine cm_ (N1.out _ (B3.out.trans (W_y1.out.mono B3.out.size))) ?_;rintro e_ y6 ⟨rfl,hb_⟩;have W_y6:Hid (Below w3.heap.size w3 y6):=W_y1.out.trans (hb_.mono W_y1.out.size);clear hb_
  go_wp2_with fail
  refine⟨⟨⟨_,W_y6.out⟩,rfl⟩,?_⟩;refine RP.walkT_two ?_ ?_
  ·simp only[Kh,dz_,Kg,tz_]
   go_wp2_with fail
   have W_y7:=hd_ (W_y6.out.alloc W_y6.out.size (.cells #[.string ⟨#[48]⟩,.string ⟨#[49]⟩,.string sp,.string ⟨#[49]⟩] 42));have X_y7:Hid ((y6.alloc (.cells #[.string ⟨#[48]⟩,.string ⟨#[49]⟩,.string sp,.string ⟨#[49]⟩] 42)).heap[y6.heap.size]?=some (.cells #[.string ⟨#[48]⟩,.string ⟨#[49]⟩,.string sp,.string ⟨#[49]⟩] 42 (0,0))):=heap_alloc_new y6 _;refine⟨⟨⟨_,W_y7.out⟩,rfl⟩,?_⟩;obtain⟨gX_y7,hgX_y7⟩:∃ g,g=y6.heap.size:=⟨_,rfl⟩;rw[← hgX_y7] at X_y7 ⊢;clear hgX_y7;generalize y6.alloc (.cells #[.string ⟨#[48]⟩,.string ⟨#[49]⟩,.string sp,.string ⟨#[49]⟩] 42)=y7 at *
   refine RP.walkT_move ?_;simp only[Kh,dz_,Kg,tz_]
   go_wp2_with fail
   refine cm_ (N0.out _ (B3.out.trans (W_y7.out.mono B3.out.size))) ?_;rintro e_ y8 ⟨rfl,hb_⟩;have W_y8:Hid (Below w3.heap.size w3 y8):=W_y7.out.trans (hb_.mono W_y7.out.size);have X_y8:=hd_ (Kd X_y7.out hb_ nr_);clear hb_
   go_wp2_with fail
   refine⟨⟨⟨_,W_y8.out⟩,rfl⟩,?_⟩;refine RP.walkT_move ?_;simp only[Kh,dz_,Kg,tz_]
   go_wp2_with fail
   have W_y9:=hd_ (W_y8.out.alloc W_y8.out.size (.cells #[.string ⟨#[49]⟩,.string ⟨#[49]⟩,.string ⟨#[48]⟩,.string ⟨#[49]⟩] 42));have Y_y9:Hid ((y8.alloc (.cells #[.string ⟨#[49]⟩,.string ⟨#[49]⟩,.string ⟨#[48]⟩,.string ⟨#[49]⟩] 42)).heap[y8.heap.size]?=some (.cells #[.string ⟨#[49]⟩,.string ⟨#[49]⟩,.string ⟨#[48]⟩,.string ⟨#[49]⟩] 42 (0,0))):=heap_alloc_new y8 _;have X_y9:=hd_ (Kl X_y8.out (.cells #[.string ⟨#[49]⟩,.string ⟨#[49]⟩,.string ⟨#[48]⟩,.string ⟨#[49]⟩] 42));refine⟨⟨⟨_,W_y9.out⟩,rfl⟩,?_⟩;obtain⟨gY_y9,hgY_y9⟩:∃ g,g=y8.heap.size:=⟨_,rfl⟩;rw[← hgY_y9] at Y_y9 ⊢;clear hgY_y9;generalize y8.alloc (.cells #[.string ⟨#[49]⟩,.string ⟨#[49]⟩,.string ⟨#[48]⟩,.string ⟨#[49]⟩] 42)=y9 at *
   refine RP.walkT_move ?_;simp only[Kh,dz_,Kg,tz_]
   go_wp2_with fail
   refine cm_ (HF.out _ (B3.out.trans (W_y9.out.mono B3.out.size)) _ _ _ (Zg (Kd F1.out W_y9.out nr_)) (Zg X_y9.out) (Zg Y_y9.out)) ?_;rintro e_ z1 ⟨rfl,hb_⟩;have W1:Hid (Below w3.heap.size w3 z1):=W_y9.out.trans (hb_.mono W_y9.out.size);clear hb_
   go_wp2_with fail
   refine⟨⟨⟨_,W1.out⟩,rfl⟩,?_⟩;refine RP.walkT_any ?_;simp only[Kh,dz_,Kg,tz_]
   go_big_quiet_step (fail);refine wpQuiet_nil ?_
   refine RP.walkT_any ?_;simp only[Kh,dz_,Kg,tz_]
   go_big_quiet_step (fail);refine wpQuiet_nil ?_
   refine RP.walkT_any ?_;simp only[Kh,dz_,Kg,tz_]
   go_big_quiet_step (fail);refine wpQuiet_nil ?_
   refine RP.walkT_move ?_;simp only[Kh,dz_,Kg,tz_]
   go_wp2_with fail
   refine⟨⟨⟨_,W1.out⟩,rfl⟩,?_⟩;refine RP.walkT_move ?_;simp only[Kh,dz_,Kg,tz_]
   go_wp2_with fail
   simp only[RP.walkT]
   go_wp2_with fail
   go_ret;exact⟨rfl,B3.out.trans (W1.out.mono B3.out.size)⟩
  ·simp only[Kh,dz_,Kg,tz_]
   go_wp2_with fail
   refine cm_ (N0.out _ (B3.out.trans (W_y6.out.mono B3.out.size))) ?_;rintro e_ y10 ⟨rfl,hb_⟩;have W_y10:Hid (Below w3.heap.size w3 y10):=W_y6.out.trans (hb_.mono W_y6.out.size);clear hb_
   go_wp2_with fail
   refine⟨⟨⟨_,W_y10.out⟩,rfl⟩,?_⟩;refine RP.walkT_two ?_ ?_
   ·simp only[Kh,dz_,Kg,tz_]
    go_wp2_with fail
    have W_y11:=hd_ (W_y10.out.alloc W_y10.out.size (.cells #[.string ⟨#[48]⟩,.string ⟨#[49]⟩,.string sp,.string ⟨#[49]⟩] 42));have X_y11:Hid ((y10.alloc (.cells #[.string ⟨#[48]⟩,.string ⟨#[49]⟩,.string sp,.string ⟨#[49]⟩] 42)).heap[y10.heap.size]?=some (.cells #[.string ⟨#[48]⟩,.string ⟨#[49]⟩,.string sp,.string ⟨#[49]⟩] 42 (0,0))):=heap_alloc_new y10 _;refine⟨⟨⟨_,W_y11.out⟩,rfl⟩,?_⟩;obtain⟨gX_y11,hgX_y11⟩:∃ g,g=y10.heap.size:=⟨_,rfl⟩;rw[← hgX_y11] at X_y11 ⊢;clear hgX_y11;generalize y10.alloc (.cells #[.string ⟨#[48]⟩,.string ⟨#[49]⟩,.string sp,.string ⟨#[49]⟩] 42)=y11 at *
    refine RP.walkT_move ?_;simp only[Kh,dz_,Kg,tz_]
    go_wp2_with fail
    have W_y12:=hd_ (W_y11.out.alloc W_y11.out.size (.cells #[.string ⟨#[49]⟩,.string ⟨#[49]⟩,.string ⟨#[48]⟩,.string ⟨#[49]⟩] 42));have Y_y12:Hid ((y11.alloc (.cells #[.string ⟨#[49]⟩,.string ⟨#[49]⟩,.string ⟨#[48]⟩,.string ⟨#[49]⟩] 42)).heap[y11.heap.size]?=some (.cells #[.string ⟨#[49]⟩,.string ⟨#[49]⟩,.string ⟨#[48]⟩,.string ⟨#[49]⟩] 42 (0,0))):=heap_alloc_new y11 _;have X_y12:=hd_ (Kl X_y11.out (.cells #[.string ⟨#[49]⟩,.string ⟨#[49]⟩,.string ⟨#[48]⟩,.string ⟨#[49]⟩] 42));refine⟨⟨⟨_,W_y12.out⟩,rfl⟩,?_⟩;obtain⟨gY_y12,hgY_y12⟩:∃ g,g=y11.heap.size:=⟨_,rfl⟩;rw[← hgY_y12] at Y_y12 ⊢;clear hgY_y12;generalize y11.alloc (.cells #[.string ⟨#[49]⟩,.string ⟨#[49]⟩,.string ⟨#[48]⟩,.string ⟨#[49]⟩] 42)=y12 at *
    refine RP.walkT_move ?_;simp only[Kh,dz_,Kg,tz_]
    go_wp2_with fail
    refine cm_ (HF.out _ (B3.out.trans (W_y12.out.mono B3.out.size)) _ _ _ (Zg (Kd F1.out W_y12.out nr_)) (Zg X_y12.out) (Zg Y_y12.out)) ?_;rintro e_ z1 ⟨rfl,hb_⟩;have W1:Hid (Below w3.heap.size w3 z1):=W_y12.out.trans (hb_.mono W_y12.out.size);clear hb_
    go_wp2_with fail
    refine⟨⟨⟨_,W1.out⟩,rfl⟩,?_⟩;refine RP.walkT_any ?_;simp only[Kh,dz_,Kg,tz_]
    go_big_quiet_step (fail);refine wpQuiet_nil ?_
    refine RP.walkT_any ?_;simp only[Kh,dz_,Kg,tz_]
    go_big_quiet_step (fail);refine wpQuiet_nil ?_
    refine RP.walkT_any ?_;simp only[Kh,dz_,Kg,tz_]
    go_big_quiet_step (fail);refine wpQuiet_nil ?_
    refine RP.walkT_move ?_;simp only[Kh,dz_,Kg,tz_]
    go_wp2_with fail
    refine⟨⟨⟨_,W1.out⟩,rfl⟩,?_⟩;refine RP.walkT_move ?_;simp only[Kh,dz_,Kg,tz_]
    go_wp2_with fail
    simp only[RP.walkT]
    go_wp2_with fail
    go_ret;exact⟨rfl,B3.out.trans (W1.out.mono B3.out.size)⟩
   ·simp only[Kh,dz_,Kg,tz_]
    go_wp2_with fail
    have W_y13:=hd_ (W_y10.out.alloc W_y10.out.size (.cells #[.string ⟨#[49]⟩,.string ⟨#[49]⟩,.string ⟨#[48]⟩,.string ⟨#[49]⟩] 42));have Y_y13:Hid ((y10.alloc (.cells #[.string ⟨#[49]⟩,.string ⟨#[49]⟩,.string ⟨#[48]⟩,.string ⟨#[49]⟩] 42)).heap[y10.heap.size]?=some (.cells #[.string ⟨#[49]⟩,.string ⟨#[49]⟩,.string ⟨#[48]⟩,.string ⟨#[49]⟩] 42 (0,0))):=heap_alloc_new y10 _;refine⟨⟨⟨_,W_y13.out⟩,rfl⟩,?_⟩;obtain⟨gY_y13,hgY_y13⟩:∃ g,g=y10.heap.size:=⟨_,rfl⟩;rw[← hgY_y13] at Y_y13 ⊢;clear hgY_y13;generalize y10.alloc (.cells #[.string ⟨#[49]⟩,.string ⟨#[49]⟩,.string ⟨#[48]⟩,.string ⟨#[49]⟩] 42)=y13 at *
    refine RP.walkT_move ?_;simp only[Kh,dz_,Kg,tz_]
    go_wp2_with fail
    have W_y14:=hd_ (W_y13.out.alloc W_y13.out.size (.cells #[.string ⟨#[48]⟩,.string ⟨#[49]⟩,.string sp,.string ⟨#[49]⟩] 42));have X_y14:Hid ((y13.alloc (.cells #[.string ⟨#[48]⟩,.string ⟨#[49]⟩,.string sp,.string ⟨#[49]⟩] 42)).heap[y13.heap.size]?=some (.cells #[.string ⟨#[48]⟩,.string ⟨#[49]⟩,.string sp,.string ⟨#[49]⟩] 42 (0,0))):=heap_alloc_new y13 _;have Y_y14:=hd_ (Kl Y_y13.out (.cells #[.string ⟨#[48]⟩,.string ⟨#[49]⟩,.string sp,.string ⟨#[49]⟩] 42));refine⟨⟨⟨_,W_y14.out⟩,rfl⟩,?_⟩;obtain⟨gX_y14,hgX_y14⟩:∃ g,g=y13.heap.size:=⟨_,rfl⟩;rw[← hgX_y14] at X_y14 ⊢;clear hgX_y14;generalize y13.alloc (.cells #[.string ⟨#[48]⟩,.string ⟨#[49]⟩,.string sp,.string ⟨#[49]⟩] 42)=y14 at *
    refine RP.walkT_move ?_;simp only[Kh,dz_,Kg,tz_]
    go_wp2_with fail
    refine cm_ (HF.out _ (B3.out.trans (W_y14.out.mono B3.out.size)) _ _ _ (Zg (Kd F1.out W_y14.out nr_)) (Zg X_y14.out) (Zg Y_y14.out)) ?_;rintro e_ z1 ⟨rfl,hb_⟩;have W1:Hid (Below w3.heap.size w3 z1):=W_y14.out.trans (hb_.mono W_y14.out.size);clear hb_
    go_wp2_with fail
    refine⟨⟨⟨_,W1.out⟩,rfl⟩,?_⟩;refine RP.walkT_any ?_;simp only[Kh,dz_,Kg,tz_]
    go_big_quiet_step (fail);refine wpQuiet_nil ?_
    refine RP.walkT_any ?_;simp only[Kh,dz_,Kg,tz_]
    go_big_quiet_step (fail);refine wpQuiet_nil ?_
    refine RP.walkT_any ?_;simp only[Kh,dz_,Kg,tz_]
    go_big_quiet_step (fail);refine wpQuiet_nil ?_
    refine RP.walkT_move ?_;simp only[Kh,dz_,Kg,tz_]
    go_wp2_with fail
    refine⟨⟨⟨_,W1.out⟩,rfl⟩,?_⟩;refine RP.walkT_move ?_;simp only[Kh,dz_,Kg,tz_]
    go_wp2_with fail
    simp only[RP.walkT]
    go_wp2_with fail
    go_ret;exact⟨rfl,B3.out.trans (W1.out.mono B3.out.size)⟩
theorem Zny(w:World)(p n:Nat)(hp:p=2∨p∈Yt)(hn:n≤90)(L:Qb w):Kc Tryz.prog 49 #[.int .i64 p,.int .i64 n] w (.string (dec (lgN p n))):=by
 rcases hp with rfl|hp
 ·exact Zr8 w n hn L
 ·rcases Nat.lt_or_ge 9 n with h | h
  ·exact Zsa w p n hp h hn L
  ·exact Zr9 w p n hp h L
structure Qbd (x y j c:Nat) (a:Option Addr) (d:Nat) (w wr:World):Prop where
 own:Zes wr w.heap.size a d (nI (Yq (x+y) j))
 bel:Below w.heap.size w wr
 car:(x+y)/1000000000^j=x/1000000000^j+y/1000000000^j+c
 one:c≤1
theorem Zri(x y j c:Nat)(hc:(x+y)/1000000000^j=x/1000000000^j+y/1000000000^j+c):
  (c+(Kf x).getD j 0+(Kf y).getD j 0)%1000000000=(x+y)/1000000000^j%1000000000 ∧
  (x+y)/1000000000^(j+1)=x/1000000000^(j+1)+y/1000000000^(j+1)+(c+(Kf x).getD j 0+(Kf y).getD j 0)/1000000000:=by
 rw[Zhx,Zhx,Nat.pow_succ,← Nat.div_div_eq_div_mul,← Nat.div_div_eq_div_mul,← Nat.div_div_eq_div_mul];generalize (x+y)/1000000000^j=N at *
 generalize x/1000000000^j=X at *
 generalize y/1000000000^j=Y at *
 omega
theorem Zhv(n j:Nat)(h:(Kf n).length≤j):(Kf n).getD j 0=0∧n/1000000000^j=0:=by
 refine⟨by rw[List.getD_eq_getElem?_getD,List.getElem?_eq_none h];rfl,?_⟩
 rw[Nat.div_eq_of_lt ((Kn n j).1 h)]
theorem Zrj(w:World)(a1 a2:Option Addr)(c1 c2 x y:Nat)(h1:Rd w a1 (Vc (nI (Kf x))))(h2:Rd w a2 (Vc (nI (Kf y))))(l1:(Kf x).length≤400000)(l2:(Kf y).length≤400000):
  Calls Tryz.prog 180 #[.slice a1 (Kf x).length c1,.slice a2 (Kf y).length c2] w fun e w'=>∃ (a:Option Addr) (j d:Nat),e = .returned (.slice a j d)∧Rd w' a (Vc (nI (Yq (x+y) j)))∧j≤d∧j≤1000000∧val (Yq (x+y) j)=x+y∧Below w.heap.size w w':=by
 have H1:=hd_ h1;have H2:=hd_ h2;clear h1 h2;have P1:=hd_ (Ko x);have P2:=hd_ (Ko y);obtain⟨n,hn⟩:∃ n,(Kf x).length=n:=⟨_,rfl⟩;obtain⟨m,hm⟩:∃ m,(Kf y).length=m:=⟨_,rfl⟩;have Hn:=hd_ hn;have Hm:=hd_ hm;rw[hn] at l1 ⊢;rw[hm] at l2 ⊢;clear hn hm;go_enter Tryz.func180,Tryz.ntmps180
 go_wp2_with fail
 go_loopw [5,6,7] (fun o cv i wr=>∃ (a:Option Addr) (d j c:Nat),o = .slice a j d∧cv = .int .i64 c∧i = .int .i64 j∧j≤max n m+1∧(c=0∨j≤max n m)∧c≤1∧Hid (Qbd x y j c a d w wr)) (fun _ _ i _=>max n m+1-(intOf i).toNat)
 case atStart =>
  refine⟨none,0,0,0,rfl,rfl,rfl,by omega,.inl rfl,by omega,⟨Zes.nil w w.heap.size,Below.refl _ _,?_,by omega⟩⟩
  rw[Nat.pow_zero,Nat.div_one,Nat.div_one,Nat.div_one];omega
 case round =>
  obtain⟨a,d,j,c,rfl,rfl,rfl,hj,hcj,hc,HA⟩:=hrel;obtain⟨hs1,hs2⟩:=Zri x y j c HA.out.car;have hu0:j<n∨(n≤j∧(Kf x).getD j 0=0∧x/1000000000^j=0):=by
   rcases Nat.lt_or_ge j n with h|h
   ·exact .inl h
   ·obtain⟨e1,e2⟩:=Zhv x j (by rw[Hn.out];exact h)
    exact .inr ⟨h,e1,e2⟩
  have hv0:j<m∨(m≤j∧(Kf y).getD j 0=0∧y/1000000000^j=0):=by
   rcases Nat.lt_or_ge j m with h|h
   ·exact .inl h
   ·obtain⟨e1,e2⟩:=Zhv y j (by rw[Hm.out];exact h)
    exact .inr ⟨h,e1,e2⟩
  have hub:=P1.out.getD j;have hvb:=P2.out.getD j;have cx:j<n→∃ b o,a1=some ⟨b,o,none⟩∧wr.cell? ⟨b,o+j,none⟩=some (.int .i64 ((Kf x).getD j 0:Nat)):=fun h=>by
   obtain⟨b,o,e1,hb,hcl⟩:=Zea H1.out j (by rw[Hn.out];exact h)
   refine⟨b,o,e1,?_⟩;rw[HA.out.bel.cell (p:=⟨b,o+j,none⟩) hb];exact hcl j (by rw[Hn.out];exact h)
  have cy:j<m→∃ b o,a2=some ⟨b,o,none⟩∧wr.cell? ⟨b,o+j,none⟩=some (.int .i64 ((Kf y).getD j 0:Nat)):=fun h=>by
   obtain⟨b,o,e1,hb,hcl⟩:=Zea H2.out j (by rw[Hm.out];exact h)
   refine⟨b,o,e1,?_⟩;rw[HA.out.bel.cell (p:=⟨b,o+j,none⟩) hb];exact hcl j (by rw[Hm.out];exact h)
  have Hnx:Hid (∀ a3 d3 w3,Zes w3 w.heap.size a3 d3 (nI (Yq (x+y) (j+1)))→Below w.heap.size w w3→Qbd x y (j+1) ((c+(Kf x).getD j 0+(Kf y).getD j 0)/1000000000) a3 d3 w w3):=fun a3 d3 w3 h1 h2=>⟨h1,h2,hs2,by omega⟩
  have Hfin:Hid (¬ j<n→¬ j<m→c=0→val (Yq (x+y) j)=x+y):=fun h1 h2 h3=>by
   rw[Zgo,Nat.mod_eq_of_lt];have e:=HA.out.car;have ex:x/1000000000^j=0:=hu0.elim (fun h=>absurd h h1) (fun h=>h.2.2)
   have ey:y/1000000000^j=0:=hv0.elim (fun h=>absurd h h2) (fun h=>h.2.2)
   rw[ex,ey,h3] at e;rcases Nat.div_eq_zero_iff.1 e with h|h
   ·exact absurd h (Nat.ne_of_gt (Nat.pow_pos (by decide)))
   ·exact h
  have Hdg:Hid ((c+(Kf x).getD j 0+(Kf y).getD j 0)%1000000000=(x+y)/1000000000^j%1000000000):=hs1;have hrow:wr.ownsRow w.heap.size 3 1 (.slice a j d) j (Vc (nI (Yq (x+y) j))):=by have:=HA.out.own;unfold Zes at this;rw[Qp,Ks] at this;exact this
  have Hrow:=hd_ hrow;have hu1:¬ j<n→(Kf x).getD j 0=0:=fun h=>by
   rcases hu0 with h1|h1
   ·exact absurd h1 h
   ·exact h1.2.1
  have hv1:¬ j<m→(Kf y).getD j 0=0:=fun h=>by
   rcases hv0 with h1|h1
   ·exact absurd h1 h
   ·exact h1.2.1
  clear hs1 hs2 hu0 hv0 hrow;generalize (Kf x).getD j 0=u at *
  generalize (Kf y).getD j 0=v at *
  by_cases hgo:j<n∨j<m∨0<c
  ·have hnew:max n m+1-(j+1)<max n m+1-j∧j+1≤max n m+1∧((c+u+v)/1000000000=0∨j+1≤max n m)∧(c+u+v)/1000000000≤1:=by
    refine⟨by omega,by omega,?_,by omega⟩
    rcases Nat.lt_or_ge j n with h|h
    ·right;omega
    ·rcases Nat.lt_or_ge j m with h2 | h2
     ·right;omega
     ·left;have e1:=hu1 (by omega)
      have e2:=hv1 (by omega)
      rw[e1,e2];omega
   obtain⟨T,hT⟩:∃ T,c+u+v=T:=⟨_,rfl⟩;rw[hT] at hnew Hnx Hdg;have hTb:T<2000000001:=by omega
   have hd1:Int.tmod (T:Int) 1000000000=((T%1000000000:Nat):Int):=by rw[Int.tmod_eq_emod_of_nonneg (by omega)];omega
   have hd1':(T:Int)%1000000000=((T%1000000000:Nat):Int):=by omega
   have hd2:Int.tdiv (T:Int) 1000000000=((T/1000000000:Nat):Int):=by rw[Int.tdiv_eq_ediv_of_nonneg (by omega)];omega
   have hd2':(T:Int)/1000000000=((T/1000000000:Nat):Int):=by omega
   have hd3:T/1000000000<1000000000:=by omega
   have hd4:T%1000000000<1000000000:=Nat.mod_lt _ (by decide)
   have ew4:IntKind.i64.wrap ((j:Int)+1)=((j+1:Nat):Int):=by rw[← Int.natCast_succ];exact iw_ _ (by omega)
   have hjb:j≤400001:=by omega
   clear hub hvb Hfin hd3;generalize T%1000000000=D at *
   generalize T/1000000000=C at *
   have ew5:IntKind.i64.wrap (D:Int)=(D:Int):=iw_ _ (by omega)
   have ew6:IntKind.i64.wrap (C:Int)=(C:Int):=iw_ _ (by omega)
   have HB:=hd_ HA.out.bel;have hc2:=HA.out.one;clear HA hcj;obtain⟨hn1,hn2,hn3,hn4⟩:=hnew;have Hn1:=hd_ hn1;clear hn1
   by_cases h1:j<n
   ·by_cases h2:j<m
    ·obtain⟨b1,o1,rfl,kx⟩:=cx h1;obtain⟨b2,o2,rfl,ky⟩:=cy h2;have g1:(j:Int)<n:=by omega
     have g2:(j:Int)<m:=by omega
     have ew1:IntKind.i64.wrap ((c:Int)+u)=(c:Int)+u:=iw_ _ (by omega)
     have ew2:IntKind.i64.wrap ((c:Int)+u+v)=(T:Int):=by rw[show (c:Int)+u+v=(T:Int) by omega];exact iw_ _ (by omega)
     clear cx cy hu1 hv1 hgo
     go_wp2_with (at_builtin;refine Km rfl (.tmp 44) (.tmp 47) 35 rfl Zp6 _ 1 [.int .i64 (D:Nat)] rfl rfl Hrow.out HB.out.size rfl ?c1 (by omega) (by omega) ?_)
     case c1=>first | rfl | (intro u hu;obtain rfl:=List.mem_singleton.1 hu;rfl)
     intro v' w3 hown3 hg3 _;obtain⟨a3,c3,rfl⟩:=Qj hown3;have HC3:=hd_ (Hnx.out a3 c3 w3 (by
      unfold Zes;rw[Qp,Ks,Yj,Zbi,Zc,← Hdg.out];exact hown3) ((HB.out.alloc HB.out.size _).grown hg3 (by have:=HB.out.size;simp;omega) (fun k hk=>(Hrow.out.lt k hk).1)))
     clear hown3 hg3 Hnx Hrow HB Hdg
     go_wp2_with fail
     exact⟨⟨a3,c3,j+1,C,rfl,by go_num,by go_num,hn2,hn3,hn4,HC3⟩,by simpa [intOf] using Hn1.out⟩
    ·obtain⟨b1,o1,rfl,kx⟩:=cx h1;have g1:(j:Int)<n:=by omega
     have g2:¬ (j:Int)<m:=by omega
     have g3:v=0:=hv1 h2;have ew1:IntKind.i64.wrap ((c:Int)+u)=(T:Int):=by rw[show (c:Int)+u=(T:Int) by omega];exact iw_ _ (by omega)
     clear cx cy hu1 hv1 hgo g3
     go_wp2_with (at_builtin;refine Km rfl (.tmp 44) (.tmp 47) 35 rfl Zp6 _ 1 [.int .i64 (D:Nat)] rfl rfl Hrow.out HB.out.size rfl ?c1 (by omega) (by omega) ?_)
     case c1=>first | rfl | (intro u hu;obtain rfl:=List.mem_singleton.1 hu;rfl)
     intro v' w3 hown3 hg3 _;obtain⟨a3,c3,rfl⟩:=Qj hown3;have HC3:=hd_ (Hnx.out a3 c3 w3 (by
      unfold Zes;rw[Qp,Ks,Yj,Zbi,Zc,← Hdg.out];exact hown3) ((HB.out.alloc HB.out.size _).grown hg3 (by have:=HB.out.size;simp;omega) (fun k hk=>(Hrow.out.lt k hk).1)))
     clear hown3 hg3 Hnx Hrow HB Hdg
     go_wp2_with fail
     exact⟨⟨a3,c3,j+1,C,rfl,by go_num,by go_num,hn2,hn3,hn4,HC3⟩,by simpa [intOf] using Hn1.out⟩
   ·by_cases h2:j<m
    ·obtain⟨b2,o2,rfl,ky⟩:=cy h2;have g1:¬ (j:Int)<n:=by omega
     have g2:(j:Int)<m:=by omega
     have g3:u=0:=hu1 h1;have ew1:IntKind.i64.wrap ((c:Int)+v)=(T:Int):=by rw[show (c:Int)+v=(T:Int) by omega];exact iw_ _ (by omega)
     clear cx cy hu1 hv1 hgo g3
     go_wp2_with (at_builtin;refine Km rfl (.tmp 44) (.tmp 47) 35 rfl Zp6 _ 1 [.int .i64 (D:Nat)] rfl rfl Hrow.out HB.out.size rfl ?c1 (by omega) (by omega) ?_)
     case c1=>first | rfl | (intro u hu;obtain rfl:=List.mem_singleton.1 hu;rfl)
     intro v' w3 hown3 hg3 _;obtain⟨a3,c3,rfl⟩:=Qj hown3;have HC3:=hd_ (Hnx.out a3 c3 w3 (by
      unfold Zes;rw[Qp,Ks,Yj,Zbi,Zc,← Hdg.out];exact hown3) ((HB.out.alloc HB.out.size _).grown hg3 (by have:=HB.out.size;simp;omega) (fun k hk=>(Hrow.out.lt k hk).1)))
     clear hown3 hg3 Hnx Hrow HB Hdg
     go_wp2_with fail
     exact⟨⟨a3,c3,j+1,C,rfl,by go_num,by go_num,hn2,hn3,hn4,HC3⟩,by simpa [intOf] using Hn1.out⟩
    ·have g1:¬ (j:Int)<n:=by omega
     have g2:¬ (j:Int)<m:=by omega
     have g3:u=0:=hu1 h1;have g4:v=0:=hv1 h2;obtain rfl:c=T:=by omega
     have g5:(0:Int)<c:=by omega
     clear cx cy hu1 hv1 hgo g3 g4
     go_wp2_with (at_builtin;refine Km rfl (.tmp 44) (.tmp 47) 35 rfl Zp6 _ 1 [.int .i64 (D:Nat)] rfl rfl Hrow.out HB.out.size rfl ?c1 (by omega) (by omega) ?_)
     case c1=>first | rfl | (intro u hu;obtain rfl:=List.mem_singleton.1 hu;rfl)
     intro v' w3 hown3 hg3 _;obtain⟨a3,c3,rfl⟩:=Qj hown3;have HC3:=hd_ (Hnx.out a3 c3 w3 (by
      unfold Zes;rw[Qp,Ks,Yj,Zbi,Zc,← Hdg.out];exact hown3) ((HB.out.alloc HB.out.size _).grown hg3 (by have:=HB.out.size;simp;omega) (fun k hk=>(Hrow.out.lt k hk).1)))
     clear hown3 hg3 Hnx Hrow HB Hdg
     go_wp2_with fail
     exact⟨⟨a3,c3,j+1,C,rfl,by go_num,by go_num,hn2,hn3,hn4,HC3⟩,by simpa [intOf] using Hn1.out⟩
  ·have hg1:¬ (j:Int)<n:=by omega
   have hg2:¬ (j:Int)<m:=by omega
   obtain rfl:c=0:=by omega
   have hfv:=hd_ (Hfin.out (by omega) (by omega) rfl)
   have hcap:=HA.out.own.cap2;rw[Qp,Ks] at hcap;have HR:=hd_ HA.out.own.rd;have HB:=hd_ HA.out.bel;have Hj:Hid (j≤d∧j≤1000000):=⟨hcap,by omega⟩
   clear hcap HA Hnx Hfin Hdg Hrow cx cy hub hvb hgo hcj hu1 hv1
   go_wp2_with fail
   go_ret;exact⟨a,j,d,rfl,HR.out,Hj.out.1,Hj.out.2,hfv.out,HB.out⟩
theorem Zv6(w:World)(x y:Nat)(hx:Num x)(hy:Num y)(L:Qb w):
  Kc Tryz.prog 109 #[.string (dec x),.string (dec y)] w (.string (dec (x+y))):=by
 unfold Kc;have hx1:(dec x).size≤1000000:=hx;have hy1:(dec y).size≤1000000:=hy;have Q1:=hd_ fun w:World=>Zcx w x
 have Q2:=hd_ fun w:World=>Zcx w y
 by_cases hs:(dec x).size≤18∧(dec y).size≤18
 ·rw[if_pos hs.1] at Q1;rw[if_pos hs.2] at Q2;have d1:=(Kr x (dec x).size (by rw[Kw];exact Yn x)).1 (by rw[Kw];exact Nat.le_refl _)
  have d2:=(Kr y (dec y).size (by rw[Kw];exact Yn y)).1 (by rw[Kw];exact Nat.le_refl _)
  have d3:10^(dec x).size≤10^18:=Nat.pow_le_pow_right (by decide) hs.1
  have d4:10^(dec y).size≤10^18:=Nat.pow_le_pow_right (by decide) hs.2
  have d5:x+y<2000000000000000000:=by omega
  have hw1:IntKind.i64.wrap ((x:Int)+(y:Int))=((x+y:Nat):Int):=by rw[← Int.natCast_add];exact iw_ _ (by omega)
  have HOf:=hd_ fun (W:World) (hW:Below w.heap.size w W)=>Ziv W ((x+y:Nat):Int) (by omega) (by omega) (L.below hW)
  rw[Kj] at HOf;clear d1 d2 d3 d4 d5 hx hy hx1 hy1 L hs;generalize dec (x+y)=r at *
  generalize x+y=u at *
  generalize dec x=s1 at *
  generalize dec y=s2 at *
  go_enter Tryz.func109,Tryz.ntmps109
  go_wp2_with fail
  refine Calls.mono (Q1.out _) ?_;rintro e w3 ⟨rfl,hb3⟩;have Hb3:=hd_ hb3;clear hb3
  go_wp2_with fail
  refine Calls.mono (Q2.out _) ?_;rintro e w4 ⟨rfl,hb4⟩;have Hb4:=hd_ (Hb3.out.trans (hb4.mono Hb3.out.size));clear hb4 Hb3
  go_wp2_with fail
  refine cm_ (HOf.out _ Hb4.out) ?_;rintro e w5 ⟨rfl,hb5⟩;have Hb5:=hd_ (Hb4.out.trans (hb5.mono Hb4.out.size));clear hb5 Hb4
  go_wp2_with fail
  go_ret;exact⟨rfl,Hb5.out⟩
 ·obtain⟨u1,b1,hq1,hb1⟩:∃ (u1:Int) (b1:Bool),(if (dec x).size≤18 then Value.tuple #[.int .i64 x,.bool true] else .tuple #[.int .i64 0,.bool false]) = .tuple #[.int .i64 u1,.bool b1]∧(b1=true→(dec x).size≤18):=by
   by_cases h:(dec x).size≤18
   ·rw[if_pos h];exact⟨_,_,rfl,fun _=>h⟩
   ·rw[if_neg h];exact⟨_,_,rfl,fun h=>by cases h⟩
  obtain⟨u2,b2,hq2,hb2⟩:∃ (u2:Int) (b2:Bool),(if (dec y).size≤18 then Value.tuple #[.int .i64 y,.bool true] else .tuple #[.int .i64 0,.bool false]) = .tuple #[.int .i64 u2,.bool b2]∧(b2=true→(dec y).size≤18):=by
   by_cases h:(dec y).size≤18
   ·rw[if_pos h];exact⟨_,_,rfl,fun _=>h⟩
   ·rw[if_neg h];exact⟨_,_,rfl,fun h=>by cases h⟩
  rw[hq1] at Q1;rw[hq2] at Q2;have hb12:b1=true→b2=false:=fun h1=>by
   cases b2
   ·rfl
   ·exact absurd ⟨hb1 h1,hb2 rfl⟩ hs
  have D1:=hd_ fun w:World=>Zax w x
  have D2:=hd_ fun w:World=>Zax w y
  have S1:=hd_ fun w:World=>Zdl w x
  have S2:=hd_ fun w:World=>Zdl w y
  have SP1:=hd_ fun w:World=>Zcv w x hx
  have SP2:=hd_ fun w:World=>Zcv w y hy
  unfold Ze5 at SP1 SP2;have HT:=hd_ fun (W:World) (a1 a2:Option Addr) (c1 c2:Nat) (h1:Rd W a1 (Vc (nI (Kf x)))) (h2:Rd W a2 (Vc (nI (Kf y))))=>Zrj W a1 a2 c1 c2 x y h1 h2 (Zat x hx) (Zat y hy)
  have HG:=hd_ fun (W:World) (a:Option Addr) (c j:Nat) (h:Rd W a (Vc (nI (Yq (x+y) j)))) (hc:j≤c) (hj:j≤1000000) (hv:val (Yq (x+y) j)=x+y) (LW:Qb W)=>by
   have:=Zf0 W a c (Yq (x+y) j) h (Zaw _ _) (by rw[Ks];exact hj) (by rw[Ks];exact hc) LW
   rw[hv,Ks] at this;exact this
  have HL:=hd_ L;clear hx hy L hx1 hy1 hs hq1 hq2 hb1 hb2;generalize dec (x+y)=r at *
  generalize dec x=s1 at *
  generalize dec y=s2 at *
  obtain⟨lp,hlp⟩:∃ lp,(Kf x).length=lp:=⟨_,rfl⟩;obtain⟨lq,hlq⟩:∃ lq,(Kf y).length=lq:=⟨_,rfl⟩;rw[hlp] at SP1 HT;rw[hlq] at SP2 HT;clear hlp hlq;go_enter Tryz.func109,Tryz.ntmps109
  go_wp2_with fail
  refine Calls.mono (Q1.out _) ?_;rintro e w3 ⟨rfl,hb3⟩;have Hb3:=hd_ hb3;clear hb3 Q1
  go_wp2_with fail
  refine Calls.mono (Q2.out _) ?_;rintro e w4 ⟨rfl,hb4⟩;have Hb4:=hd_ (Hb3.out.trans (hb4.mono Hb3.out.size));clear hb4 Hb3 Q2;obtain⟨hb,hbb⟩:∃ hb:b1=false∨(b1=true∧b2=false),True:=⟨by cases b1;exact .inl rfl;exact .inr ⟨rfl,hb12 rfl⟩,trivial⟩
  clear hb12 hbb;rcases hb with rfl|⟨rfl,rfl⟩
  all_goals
   go_wp2_with fail
   refine cm_ (D1.out _) ?_;rintro e w5 ⟨rfl,hb5⟩;have Hb5:=hd_ (Hb4.out.trans (hb5.mono Hb4.out.size));clear hb5 Hb4
   go_wp2_with fail
   refine cm_ (SP1.out _) ?_;rintro e w6 ⟨a1,c1,rfl,r1,hc1,hb6⟩;have Hb6:=hd_ (Hb5.out.trans (hb6.mono Hb5.out.size));have R1:=hd_ r1;clear hb6 Hb5 r1 hc1
   go_wp2_with fail
   refine cm_ (D2.out _) ?_;rintro e w7 ⟨rfl,hb7⟩;have Hb7:=hd_ (Hb6.out.trans (hb7.mono Hb6.out.size));replace R1:=hd_ (R1.out.below hb7 nr_);clear hb7 Hb6
   go_wp2_with fail
   refine cm_ (SP2.out _) ?_;rintro e w8 ⟨a2,c2,rfl,r2,hc2,hb8⟩;have Hb8:=hd_ (Hb7.out.trans (hb8.mono Hb7.out.size));replace R1:=hd_ (R1.out.below hb8 nr_);have R2:=hd_ r2;clear hb8 Hb7 r2 hc2
   go_wp2_with fail
   refine cm_ (S1.out _) ?_;rintro e w9 ⟨rfl,hb9⟩;have Hb9:=hd_ (Hb8.out.trans (hb9.mono Hb8.out.size));replace R1:=hd_ (R1.out.below hb9 nr_);replace R2:=hd_ (R2.out.below hb9 nr_);clear hb9 Hb8
   go_wp2_with fail
   refine cm_ (S2.out _) ?_;rintro e w10 ⟨rfl,hb10⟩;have Hb10:=hd_ (Hb9.out.trans (hb10.mono Hb9.out.size));replace R1:=hd_ (R1.out.below hb10 nr_);replace R2:=hd_ (R2.out.below hb10 nr_);clear hb10 Hb9
   go_wp2_with fail
   refine cm_ (S1.out _) ?_;rintro e w11 ⟨rfl,hb11⟩;have Hb11:=hd_ (Hb10.out.trans (hb11.mono Hb10.out.size));replace R1:=hd_ (R1.out.below hb11 nr_);replace R2:=hd_ (R2.out.below hb11 nr_);clear hb11 Hb10
   go_wp2_with fail
   refine cm_ (HT.out _ a1 a2 c1 c2 R1.out R2.out) ?_;rintro e w12 ⟨a3,j3,c3,rfl,r3,hc3,hj3,hv3,hb12⟩;have Hb12:=hd_ (Hb11.out.trans (hb12.mono Hb11.out.size));have HG3:=hd_ (HG.out w12 a3 c3 j3 r3 hc3 hj3 hv3 (HL.out.below Hb12.out));clear hb12 Hb11 r3 hc3 hj3 hv3 R1 R2 HT HG
   go_wp2_with fail
   refine cm_ HG3.out ?_;rintro e w13 ⟨rfl,hb13⟩;have Hb13:=hd_ (Hb12.out.trans (hb13.mono Hb12.out.size));clear hb13 Hb12
   go_wp2_with fail
   go_ret;exact⟨rfl,Hb13.out⟩
def ptQ (b:Nat):Rat:=⟨1,2^b,Nat.ne_of_gt (Nat.two_pow_pos b),Nat.coprime_one_left _⟩
theorem Zre(b:Nat):(ptQ b).num=1:=rfl
theorem Zrg(b:Nat):(ptQ b).den=2^b:=rfl
theorem Zrf(b:Nat):ptQ b*2^b=1:=by
 have h:mkRat (ptQ b).num (ptQ b).den=ptQ b:=Rat.mkRat_self _;rw[Zre,Zrg] at h;rw[← h,← Zaq,Zby _ _ (Nat.two_pow_pos b)];rfl
theorem Qal(p:Int)(b:Nat):ptQ b*((lgN p b:Nat):Rat)=xE p b:=by
 rw[← Zng];have h:=Zrf b;generalize (2:Rat)^b=T at *
 grind
theorem Qak(p:Int)(b:Nat):ptQ b*((LN.hiL (lf b) p:Nat):Rat)=yE p b:=by
 rw[← Znf];have h:=Zrf b;generalize (2:Rat)^b=T at *
 grind
theorem Zfo{b:Nat}(hb:b≤91):8*2^b<10^30:=by
 have h1:2^b≤2^91:=Nat.pow_le_pow_right (by decide) hb
 have h2:8*2^91<10^30:=by decide
 omega
theorem Zwh{b:Nat}(hb:b≤91):Sm 30 (ptQ b):=by
 have h:=Zfo hb;have h0:=Nat.two_pow_pos b;exact⟨by rw[Zre];decide,by rw[Zrg];omega⟩
theorem Zwk{n D:Nat}(h:n<10^D)(h1:1<10^D):Sm D ((n:Nat):Rat):=⟨by rw[Rat.num_natCast,Int.natAbs_natCast];exact h,by rw[Rat.den_natCast];exact h1⟩
theorem Qao{q b:Nat}(hq:q=2∨q∈Yt)(hb:b≤90):Sm 30 ((lgN q b:Nat):Rat)∧Sm 30 ((LN.hiL (lf b) q:Nat):Rat):=by
 have h:=Zfo (show b≤91 by omega)
 have h1:=Zgc hq (show b≤1056 by omega)
 have h0:=Nat.two_pow_pos b;have h2:LN.hiL (lf b) q≤lgN q b+1:=by unfold LN.hiL lf;split<;>omega
 exact⟨Zwk (by omega) (by decide),Zwk (by omega) (by decide)⟩
theorem Zwl(n:Nat):fr ((n:Nat):Rat) = .agg #[.string (dec n),.string ⟨#[49]⟩]:=by
 unfold fr fv;rw[Rat.num_natCast,Rat.den_natCast,Kj,Vf]
theorem Zwj{n:Nat}(h:n<10^30):Num n:=Ku (D:=30) h (by decide) (by decide)
theorem Zy4{b T:Nat}(h:T<7*2^b)(hb:b≤90):Num T:=by
 have:=Zfo (show b≤91 by omega)
 have:=Nat.two_pow_pos b
 exact Zwj (by omega)
structure RsI (w:World) (ga gb:Nat) (lo hi:Rat) (wr:World):Prop where
 r0:∃ x y,wr.heap[w.heap.size]?=some (.cells #[x,y] 42 (0,0))
 r1:∃ x y,wr.heap[w.heap.size+1]?=some (.cells #[x,y] 42 (0,0))
 a:Zag wr ga lo
 b:Zag wr gb hi
 na:w.heap.size+2≤ga
 nb:w.heap.size+2≤gb
 bel:Below w.heap.size w wr
structure RsW (v:World) (ga gb:Nat) (lo hi:Rat) where
 w:World
 h:RsI v ga gb lo hi w
theorem RsI.put0{w wr:World}{ga gb:Nat}{lo hi:Rat}(h:RsI w ga gb lo hi wr)(x y:Value):RsI w ga gb lo hi ((wr.setCell ⟨w.heap.size,0,none⟩ x).setCell ⟨w.heap.size,1,none⟩ y):=by
 obtain⟨⟨x0,y0,h0⟩,⟨x1,y1,h1⟩,h2,h3,h4,h5,h6⟩:=h;refine⟨⟨_,_,Zfe h0 x y⟩,⟨_,_,Zbb h1 (by omega) x y⟩,Zag.set h2 (by omega) _ _,Zag.set h3 (by omega) _ _,h4,h5,(h6.setCell (p:=⟨w.heap.size,0,none⟩) nr_ _).setCell (p:=⟨w.heap.size,1,none⟩) nr_ _⟩
theorem RsI.drew{w wr:World}{ga gb:Nat}{lo hi:Rat}(h:RsI w ga gb lo hi wr)(n:Nat):RsI w ga gb lo hi (wr.drewN n):=⟨h.r0,h.r1,h.a,h.b,h.na,h.nb,Qg h.bel n⟩
theorem Zks(w:World)(a0 a1:Option Addr)(c0 c1 D b:Nat)(ps:List Int)(l:List Rat)(rp:Rd w a0 (Vc ps))(rl:Rd w a1 (Kx l))(hl:l.length=ps.length)(hn:ps.length≤100)(hp:∀ p∈ps,∃ q:Nat,p=q∧(q=2∨q∈Yt))(hs:∀ q∈l,Sm D q)(hD:D≤300)(hb:b≤90)(L:Qb w):
  Kc Tryz.prog 42 #[.slice a0 ps.length c0,.slice a1 ps.length c1,.int .i64 b] w (.tuple #[fr (loE b ps l),fr (hiE b ps l)]):=by
 unfold Kc;have Hp:=hd_ hp;have Hl:=hd_ hl;have Hs:=hd_ hs;have HL:=hd_ L;have HRp:=hd_ rp;have HRl:=hd_ rl;have HT:=hd_ (Zwz.mk' w);obtain⟨z,hz⟩:∃ z:Rat,z=0:=⟨_,rfl⟩;have Hz0:=hd_ hz;have N0:=hd_ (fun W (hW:Below w.heap.size w W)=>Zge W 0 1 z (by rw[hz];decide +kernel) (by decide) (by decide) (by decide) (by decide) (L.below hW))
 clear hz;have HPw:=hd_ (fun W (hW:Below w.heap.size w W)=>Zcy W 2 b (by decide) (Zke (by decide) (by omega)) (by omega) (L.below hW))
 rw[Zde] at HPw;have Hv:Hid (True→(loE b ps l=loE b (ps.take ps.length) (l.take ps.length))∧hiE b ps l=hiE b (ps.take ps.length) (l.take ps.length)):=fun _=>by
  rw[List.take_length,List.take_of_length_le (by omega)];exact⟨rfl,rfl⟩
 obtain⟨vlo,hvlo⟩:∃ v,loE b ps l=v:=⟨_,rfl⟩;obtain⟨vhi,hvhi⟩:∃ v,hiE b ps l=v:=⟨_,rfl⟩;rw[hvlo,hvhi] at Hv ⊢;clear L hs hp hl hvlo hvhi rp rl;obtain⟨n,hn'⟩:∃ n,ps.length=n:=⟨_,rfl⟩;have Hn:=hd_ hn';rw[hn'] at hn Hv ⊢;clear hn';have hp1:(ptQ b).num=1:=rfl;have hpn:itx (ptQ b).num=⟨#[49]⟩:=by rw[hp1,show itx 1=dec 1 from Kj 1,Vf]
 have hpd:dec (ptQ b).den=dec (2^b):=rfl;have Hpf:Hid (∀ (W:World) g,W.heap[g]?=some (.cells #[.string ⟨#[49]⟩,.string (dec (2^b))] 42 (0,0))→Zag W g (ptQ b)):=fun W g h=>by unfold Zag;rw[hpn,hpd];exact h
 have Hpv:Hid ((Value.agg #[.string (itx (ptQ b).num),.string (dec (ptQ b).den)]) = .agg #[.string ⟨#[49]⟩,.string (dec (2^b))]):=by show _=_;rw[hpn,hpd]
 clear hp1 hpn hpd;have hDk:D≤300:=hD;unfold fr fv at N0 ⊢;generalize dec (2^b)=sp at *
 go_enter Tryz.func42,Tryz.ntmps42
 go_wp2_with fail
 generalize (w.alloc (.cells #[.string ⟨#[]⟩,.string ⟨#[]⟩] 42)).alloc (.cells #[.string ⟨#[]⟩,.string ⟨#[]⟩] 42)=W0 at *
 refine cm_ (N0.out _ HT.out.bel) ?_;rintro e w1 ⟨rfl,hb1⟩;have HT1:=hd_ (HT.out.below hb1);clear hb1 HT
 go_wp2_with fail
 refine cm_ (N0.out _ HT1.out.bel) ?_;rintro e v ⟨rfl,hb1⟩;have HTv:=hd_ (HT1.out.below hb1);clear hb1 HT1
 go_wp2_with fail
 have HE0:Hid (EnI v ((v.alloc (.cells #[.string (itx z.num),.string (dec z.den)] 42)).alloc (.cells #[.string (itx z.num),.string (dec z.den)] 42)) z z):=by
  have h1:=Zag.new v z;have h2:=Zag.new (v.alloc (.cells #[.string (itx z.num),.string (dec z.den)] 42)) z;refine⟨h1.below ((Below.refl _ _).alloc nr_ _),?_,((Below.refl _ _).alloc nr_ _).alloc (by simp) _⟩
  have e:(v.alloc (.cells #[.string (itx z.num),.string (dec z.den)] 42)).heap.size=v.heap.size+1:=by simp
  rw[e] at h2;exact h2
 have Hy0:Hid (v.heap.size+2≤((v.alloc (.cells #[.string (itx z.num),.string (dec z.den)] 42)).alloc (.cells #[.string (itx z.num),.string (dec z.den)] 42)).heap.size):=by show _≤_;simp
 generalize (v.alloc (.cells #[.string (itx z.num),.string (dec z.den)] 42)).alloc (.cells #[.string (itx z.num),.string (dec z.den)] 42)=W1 at *
 have Hvw:=hd_ HTv.out.bel;refine cm_ (HPw.out _ (Hvw.out.trans (HE0.out.bel.mono Hvw.out.size))) ?_;rintro e w2 ⟨rfl,hb1⟩;have HE2:=hd_ (HE0.out.below (hb1.alloc hb1.size (.cells #[.string ⟨#[49]⟩,.string sp] 42)));have Hy2:Hid (v.heap.size+2≤(w2.alloc (.cells #[.string ⟨#[49]⟩,.string sp] 42)).heap.size):=by
  show _≤_
  have:=Nat.le_trans Hy0.out hb1.size
  simp;omega
 have HG2:=hd_ (Hpf.out _ _ (heap_alloc_new w2 (.cells #[.string ⟨#[49]⟩,.string sp] 42)));obtain⟨gp,hgp⟩:∃ gp,gp=w2.heap.size:=⟨_,rfl⟩;have Hgp:Hid (v.heap.size+2≤gp):=by show _≤_;rw[hgp];exact Nat.le_trans Hy0.out hb1.size
 clear hb1 HE0 HPw Hy0 Hpf
 go_wp2_with fail
 rw[← hgp] at HG2 ⊢;clear hgp;generalize w2.alloc (.cells #[.string ⟨#[49]⟩,.string sp] 42)=w3 at *
 rw[Hz0.out] at HE2
 go_loopw [11] (fun i wr=>∃ k:Nat,k≤n∧i = .int .i64 k∧Hid (EnI v wr (loE b (ps.take k) (l.take k)) (hiE b (ps.take k) (l.take k)))∧Hid (v.heap.size+2≤wr.heap.size)∧Hid (Zag wr gp (ptQ b))) (fun i _=>n-(intOf i).toNat)
 case atStart=>exact⟨0,Nat.zero_le _,rfl,by simpa [loE,hiE] using HE2,Hy2,HG2⟩
 case round =>
  obtain⟨k,hk,rfl,HE,Hy,HG⟩:=hrel;clear HE2 Hy2 HG2
  by_cases hlt:k<n
  ·have hlt':(k:Int)<n:=by omega
   have hkp:k<ps.length:=by rw[Hn.out];exact hlt
   have hkl:k<l.length:=by rw[Hl.out];exact hkp
   have Hwb:=hd_ (Hvw.out.trans (HE.out.bel.mono Hvw.out.size));obtain⟨b0,o0,rfl,hb0,hc0⟩:=HRp.out.open (by rw[Qe];omega)
   have Hcp:Hid (∀ W,Below w.heap.size w W→W.cell? ⟨b0,o0+k,none⟩=some (.int .i64 ps[k])):=fun W hW=>by
    rw[hW.cell (p:=⟨b0,o0+k,none⟩) hb0];exact hc0 k _ (Yh ps k hkp)
   obtain⟨b1,o1,rfl,hb1,hc1⟩:=HRl.out.open (by rw[Ky];omega)
   have Hcl:Hid (∀ W,Below w.heap.size w W→W.cell? ⟨b1,o1+k*2,none⟩=some (.string (itx l[k].num))∧W.cell? ⟨b1,o1+k*2+1,none⟩=some (.string (dec l[k].den))):=fun W hW=>by
    obtain⟨x0,x1⟩:=Ql hc1 k (by rw[List.length_map];exact hkl)
    rw[Qt l k hkl] at x0 x1;rw[← hW.cell (p:=⟨b1,o1+k*2,none⟩) hb1] at x0;rw[← hW.cell (p:=⟨b1,o1+k*2+1,none⟩) hb1] at x1;exact⟨x0,x1⟩
   have hkw:IntKind.i64.wrap ((k:Int)+1)=((k+1:Nat):Int):=by rw[← Int.natCast_succ];exact iw_ _ (by omega)
   have Hst:=hd_ (Zgk b ps l k Hl.out hkp hkl);have Hsm:=hd_ (Zi9 (show b≤1056 by omega) Hp.out Hl.out Hs.out k (Nat.le_of_lt hkp))
   have Hcs:=hd_ (Hs.out l[k] (List.getElem_mem hkl));obtain⟨q,hq,hq2⟩:=Hp.out _ (List.getElem_mem hkp);have Hxs:=hd_ (Zw3 (p:=ps[k]) (Hp.out _ (List.getElem_mem hkp)) (show b≤1056 by omega))
   have HLo:=hd_ (fun W (hW:Below w.heap.size w W)=>Zny W q b hq2 hb (HL.out.below hW))
   have Hlsm:=hd_ (Qao hq2 hb);have Hln:=hd_ (Zgc hq2 (show b≤1056 by omega))
   rw[← hq] at HLo Hlsm Hln;have hDk2:1+k*(D+356)≤65700:=by
    have:k*(D+356)≤100*656:=Nat.mul_le_mul (by omega) (by omega)
    omega
   clear hc0 hc1 hq hq2;generalize l[k]=c at *
   generalize ps[k]=pk at *
   obtain⟨x0,x1⟩:=Hcl.out wr Hwb.out;have q0:=NW.cell x0;have q1:=NW.cell x1;have hnon:Nonempty (NW wr):=⟨⟨wr,Below.refl _ _⟩⟩;have I:Hid (Below wr.heap.size wr wr.drew):=(Below.refl _ _).drew;clear x0 x1
   go_wp2_with fail
   refine RP.wp_region_readers 5 [(2,0),(2,1),(2,2),(1,3),(0,4),(0,5)] (fun w'=>∃ p:NW wr,w'=p.w) (by kernel_rfl) (by kernel_rfl) ?_ ?_
   ·exact⟨⟨_,I.out⟩,rfl⟩
   iterate 3 (refine RP.walkR_any ?_;simp only[Kh,dz_,Kg,tz_];go_big_quiet_step (fail);refine wpQuiet_nil ?_)
   refine RP.walkR_read ?_;simp only[Kh,dz_,Kg,tz_];go_big_quiet_step (fail);refine wpQuiet_nil ?_;clear hnon q0 q1;refine RP.walkR_move ?_;simp only[Kh,dz_,Kg,tz_]
   go_wp2_with fail
   refine cm_ (N0.out _ (Hwb.out.trans (I.out.mono Hwb.out.size))) ?_;rintro e w4 ⟨rfl,hbx⟩;have J:Hid (Below wr.heap.size wr w4):=I.out.trans (hbx.mono I.out.size);clear hbx I
   go_wp2_with fail
   refine⟨⟨⟨_,J.out⟩,rfl⟩,?_⟩;refine RP.walkR_move ?_;simp only[Kh,dz_,Kg,tz_];have hq:∀ W,(binOp .eql 42 (.agg #[.string (itx c.num),.string (dec c.den)]) (.agg #[.string (itx z.num),.string (dec z.den)])).run Tryz.prog W = .ok (.bool (decide (c=z))) W:=fun W=>by rw[Zn9,Zj8]
   have hgu:=fun W x y=>Zbj W .eql x y #[.string (itx c.num),.string (dec c.den)] #[.string (itx z.num),.string (dec z.den)]
   go_wp2_with fail
   clear hq hgu;simp only[RP.walkR];have HE4:=hd_ (HE.out.below J.out);have Hy4:=hd_ (Nat.le_trans Hy.out J.out.size);have HG4:=hd_ (HG.out.below J.out);clear HE Hy HG J Hwb
   by_cases hcz:c=z
   ·rw[decide_eq_true hcz];have hskip:loE b (ps.take (k+1)) (l.take (k+1))=loE b (ps.take k) (l.take k)∧hiE b (ps.take (k+1)) (l.take (k+1))=hiE b (ps.take k) (l.take k):=by
     obtain⟨e1,e2⟩:=Zkr b pk;have:=Hst.out
     rw[hcz,Hz0.out,e1,e2,Rat.add_zero,Rat.add_zero] at this;exact this
    have Hskip:=hd_ hskip;clear hskip Hst Hsm Hcs Hxs HLo Hlsm Hln Hcp Hcl hcz
    go_wp2_with fail
    refine⟨⟨k+1,by omega,by go_num,by rw[Hskip.out.1,Hskip.out.2];exact HE4,Hy4,HG4⟩,by simp[intOf];omega⟩
   ·rw[decide_eq_false hcz];clear hcz;have Hw4:=hd_ (Hvw.out.trans (HE4.out.bel.mono Hvw.out.size));have cp:=Hcp.out w4 Hw4.out;have HL4:=HLo.out w4 Hw4.out
    go_wp2_with fail
    clear cp;refine cm_ HL4 ?_;rintro e w5 ⟨rfl,hbx⟩;have HE5:=hd_ (HE4.out.below hbx);have Hy5:=hd_ (Nat.le_trans Hy4.out hbx.size);have HG5:=hd_ (HG4.out.below hbx);have Hw5:=hd_ (Hw4.out.trans (hbx.mono Hw4.out.size));clear hbx HL4 HE4 Hy4 HG4 Hw4 HLo;have HA:=Zv6 w5 (lgN pk b) 1 (Zy4 Hln.out hb) (Zwj (by decide)) (HL.out.below Hw5.out)
    rw[Vf] at HA
    go_wp2_with fail
    refine cm_ HA ?_;rintro e w6 ⟨rfl,hbx⟩;have HE6:=hd_ (HE5.out.below hbx);have Hy6:=hd_ (Nat.le_trans Hy5.out hbx.size);have HG6:=hd_ (HG5.out.below hbx);have Hw6:=hd_ (Hw5.out.trans (hbx.mono Hw5.out.size));clear hbx HA HE5 Hy5 HG5 Hw5;have cp:=Hcp.out w6 Hw6.out;obtain⟨M,hM⟩:∃ M,LN.hiL (lf b) pk=M:=⟨_,rfl⟩;obtain⟨T,hT⟩:∃ T,lgN pk b=T:=⟨_,rfl⟩;have Hpx:=hd_ (Qal pk b);have Hpy:=hd_ (Qak pk b);have HMT:Hid ((pk=2→M=T)∧(pk≠2→M=T+1)):=by
     rw[← hM,← hT];unfold LN.hiL lf;exact⟨fun h=>if_pos h,fun h=>if_neg h⟩
    rw[hT] at Hpx Hlsm Hln ⊢;rw[hM] at Hpy Hlsm;clear hM hT
    go_upto_if 45 with fail
    go_cut [13] from 21 to 74 (fun y wx=>y = .string (dec M)∧w6=wx)
    case first =>
     by_cases h2:pk=2
     ·have h2b:(pk==2)=true:=by rw[h2];rfl
      have e1:=hd_ (HMT.out.1 h2);clear h2
      go_wp2_with fail
      go_meet
      exact⟨by rw[e1.out],rfl⟩
     ·have h2b:(pk==2)=false:=by rw[beq_eq_false_iff_ne];exact h2
      have e1:=hd_ (HMT.out.2 h2);clear h2
      go_wp2_with fail
      go_meet
      exact⟨by rw[e1.out],rfl⟩
    case rest =>
    obtain⟨rfl,rfl⟩:=hcut;clear cp HMT;have HmX:=hd_ (fun W (hW:Below w.heap.size w W)=>Ztu W (ptQ b) (T:Rat) 30 30 (Zwh (by omega)) Hlsm.out.1 (by decide) (HL.out.below hW))
    have HmY:=hd_ (fun W (hW:Below w.heap.size w W)=>Ztu W (ptQ b) (M:Rat) 30 30 (Zwh (by omega)) Hlsm.out.2 (by decide) (HL.out.below hW))
    rw[Hpx.out,Zwl] at HmX;rw[Hpy.out,Zwl] at HmY;have HcX:=hd_ (fun W (hW:Below w.heap.size w W)=>Ztu W c (xE pk b) D 355 Hcs.out Hxs.out.1 (by omega) (HL.out.below hW))
    have HcY:=hd_ (fun W (hW:Below w.heap.size w W)=>Ztu W c (yE pk b) D 355 Hcs.out Hxs.out.2 (by omega) (HL.out.below hW))
    have Hva:=hd_ (Hcs.out.mul Hxs.out.1);have Hvb:=hd_ (Hcs.out.mul Hxs.out.2);clear Hpx Hpy Hlsm Hln Hcs Hxs Hcp;unfold fr fv at HmX HmY HcX HcY;generalize dec T=sT at *
    generalize dec M=sM at *
    generalize xE pk b=xq at *
    generalize yE pk b=yq at *
    go_upto_region 11 with fail
    go_cut [14] from 21 to 74 (fun y wx=>∃ g,y = .pointer (some ⟨g,0,none⟩)∧Hid (Zag wx g (c*xq))∧Hid (w6.heap.size≤g)∧Hid (Below w6.heap.size w6 wx))
    case first =>
     obtain⟨x0,x1⟩:=Hcl.out w6 Hw6.out;obtain⟨x2,x3,-,-⟩:=Ka HG6.out;have q0:=NW.cell x0;have q1:=NW.cell x1;have q2:=NW.cell x2;have q3:=NW.cell x3;have hnon:Nonempty (NW w6):=⟨⟨w6,Below.refl _ _⟩⟩;have I:Hid (Below w6.heap.size w6 w6.drew):=(Below.refl _ _).drew;clear x0 x1 x2 x3
     go_wp2_with fail
     refine RP.wp_region_tree 10 (.rd 2 0 (.rd 2 1 (.rd 2 2 (.rd 1 3 (.rd 1 4 (.rd 2 5 (.rd 2 6 (.two 7 9 (.two 8 9 (.mv 9 (.mv 10 .nil)) (.mv 8 (.mv 10 .nil))) (.mv 7 (.mv 8 (.mv 10 .nil))))))))))) (fun w'=>∃ p:NW w6,w'=p.w) (by kernel_rfl) (by kernel_rfl) ?_ ?_
     ·exact⟨⟨_,I.out⟩,rfl⟩
     refine RP.walkT_any ?_;simp only[dz_,Kg,tz_]
     first | go_big_quiet_step (fail) | quiet_step (fail)
     refine wpQuiet_nil ?_;refine RP.walkT_any ?_;simp only[Kh,dz_,Kg,tz_]
     first | go_big_quiet_step (fail) | quiet_step (fail)
     refine wpQuiet_nil ?_;refine RP.walkT_any ?_;simp only[Kh,dz_,Kg,tz_]
     first | go_big_quiet_step (fail) | quiet_step (fail)
     refine wpQuiet_nil ?_;refine RP.walkT_read ?_;simp only[Kh,dz_,Kg,tz_]
     first | go_big_quiet_step (fail) | quiet_step (fail)
     refine wpQuiet_nil ?_;refine RP.walkT_read ?_;simp only[Kh,dz_,Kg,tz_]
     first | go_big_quiet_step (fail) | quiet_step (fail)
     refine wpQuiet_nil ?_;refine RP.walkT_any ?_;simp only[Kh,dz_,Kg,tz_]
     first | go_big_quiet_step (fail) | quiet_step (fail)
     refine wpQuiet_nil ?_;refine RP.walkT_any ?_;simp only[Kh,dz_,Kg,tz_]
     first | go_big_quiet_step (fail) | quiet_step (fail)
     refine wpQuiet_nil ?_;clear hnon q0 q1 q2 q3;refine RP.walkT_two ?_ ?_
     ·simp only[Kh,dz_,Kg,tz_]
      go_wp2_with fail
      refine cm_ (HmX.out _ (Hw6.out.trans (I.out.mono Hw6.out.size))) ?_;rintro e_ y1 ⟨rfl,hb_⟩;have W_y1:Hid (Below w6.heap.size w6 y1):=I.out.trans (hb_.mono I.out.size);clear hb_
      go_wp2_with fail
      refine⟨⟨⟨_,W_y1.out⟩,rfl⟩,?_⟩;refine RP.walkT_two ?_ ?_
      ·simp only[Kh,dz_,Kg,tz_]
       go_wp2_with fail
       refine cm_ (HcX.out _ (Hw6.out.trans (W_y1.out.mono Hw6.out.size))) ?_;rintro e_ y2 ⟨rfl,hb_⟩;have W_y2:Hid (Below w6.heap.size w6 y2):=W_y1.out.trans (hb_.mono W_y1.out.size);clear hb_
       go_wp2_with fail
       refine⟨⟨⟨_,W_y2.out⟩,rfl⟩,?_⟩;refine RP.walkT_move ?_;simp only[Kh,dz_,Kg,tz_]
       go_wp2_with fail
       have W_y3:=hd_ (W_y2.out.alloc W_y2.out.size (.cells #[.string ⟨#[]⟩,.string ⟨#[]⟩] 42));have N_y3:Hid ((y2.alloc (.cells #[.string ⟨#[]⟩,.string ⟨#[]⟩] 42)).heap[y2.heap.size]?=some (.cells #[.string ⟨#[]⟩,.string ⟨#[]⟩] 42 (0,0))):=heap_alloc_new y2 _;refine⟨⟨⟨_,W_y3.out⟩,rfl⟩,?_⟩;obtain⟨g,hg⟩:∃ g,g=y2.heap.size:=⟨_,rfl⟩;rw[← hg] at N_y3 ⊢;have G_y3:Hid (w6.heap.size≤g):=by show _≤_;rw[hg];exact W_y2.out.size
       clear hg;generalize y2.alloc (.cells #[.string ⟨#[]⟩,.string ⟨#[]⟩] 42)=y3 at *
       refine RP.walkT_move ?_;simp only[Kh,dz_,Kg,tz_];obtain⟨n0,n1,f0,f1⟩:=Ka N_y3.out
       go_wp2_with fail
       simp only[RP.walkT];have F9:Hid (Zag ((y3.setCell ⟨g,0,none⟩ (.string (itx (c*xq).num))).setCell ⟨g,1,none⟩ (.string (dec (c*xq).den))) g (c*xq)):=Vx N_y3.out;have W9:=hd_ ((W_y3.out.setCell (p:=⟨g,0,none⟩) G_y3.out (.string (itx (c*xq).num))).setCell (p:=⟨g,1,none⟩) G_y3.out (.string (dec (c*xq).den)));clear n0 n1 f0 f1;generalize (y3.setCell ⟨g,0,none⟩ (.string (itx (c*xq).num))).setCell ⟨g,1,none⟩ (.string (dec (c*xq).den))=w9 at *
       go_wp2_with fail
       go_meet
       exact⟨g,rfl,F9,G_y3,W9⟩
      ·simp only[Kh,dz_,Kg,tz_]
       go_wp2_with fail
       have W_y4:=hd_ (W_y1.out.alloc W_y1.out.size (.cells #[.string ⟨#[]⟩,.string ⟨#[]⟩] 42));have N_y4:Hid ((y1.alloc (.cells #[.string ⟨#[]⟩,.string ⟨#[]⟩] 42)).heap[y1.heap.size]?=some (.cells #[.string ⟨#[]⟩,.string ⟨#[]⟩] 42 (0,0))):=heap_alloc_new y1 _;refine⟨⟨⟨_,W_y4.out⟩,rfl⟩,?_⟩;obtain⟨g,hg⟩:∃ g,g=y1.heap.size:=⟨_,rfl⟩;rw[← hg] at N_y4 ⊢;have G_y4:Hid (w6.heap.size≤g):=by show _≤_;rw[hg];exact W_y1.out.size
       clear hg;generalize y1.alloc (.cells #[.string ⟨#[]⟩,.string ⟨#[]⟩] 42)=y4 at *
       refine RP.walkT_move ?_;simp only[Kh,dz_,Kg,tz_]
       go_wp2_with fail
       refine cm_ (HcX.out _ (Hw6.out.trans (W_y4.out.mono Hw6.out.size))) ?_;rintro e_ y5 ⟨rfl,hb_⟩;have W_y5:Hid (Below w6.heap.size w6 y5):=W_y4.out.trans (hb_.mono W_y4.out.size);have N_y5:=hd_ (Kd N_y4.out hb_ nr_);clear hb_
       go_wp2_with fail
       refine⟨⟨⟨_,W_y5.out⟩,rfl⟩,?_⟩;refine RP.walkT_move ?_;simp only[Kh,dz_,Kg,tz_];obtain⟨n0,n1,f0,f1⟩:=Ka N_y5.out
       go_wp2_with fail
       simp only[RP.walkT];have F9:Hid (Zag ((y5.setCell ⟨g,0,none⟩ (.string (itx (c*xq).num))).setCell ⟨g,1,none⟩ (.string (dec (c*xq).den))) g (c*xq)):=Vx N_y5.out;have W9:=hd_ ((W_y5.out.setCell (p:=⟨g,0,none⟩) G_y4.out (.string (itx (c*xq).num))).setCell (p:=⟨g,1,none⟩) G_y4.out (.string (dec (c*xq).den)));clear n0 n1 f0 f1;generalize (y5.setCell ⟨g,0,none⟩ (.string (itx (c*xq).num))).setCell ⟨g,1,none⟩ (.string (dec (c*xq).den))=w9 at *
       go_wp2_with fail
       go_meet
       exact⟨g,rfl,F9,G_y4,W9⟩
     ·simp only[Kh,dz_,Kg,tz_]
      go_wp2_with fail
      have W_y6:Hid (Below w6.heap.size w6 (w6.alloc (.cells #[.string ⟨#[]⟩,.string ⟨#[]⟩] 42)).drew):=Qg ((Below.refl _ _).alloc nr_ _) 1;have N_y6:Hid ((w6.alloc (.cells #[.string ⟨#[]⟩,.string ⟨#[]⟩] 42)).drew.heap[w6.heap.size]?=some (.cells #[.string ⟨#[]⟩,.string ⟨#[]⟩] 42 (0,0))):=heap_alloc_new w6 _;have G_y6:Hid (w6.heap.size≤w6.heap.size):=Nat.le_refl _;refine⟨⟨⟨_,W_y6.out⟩,rfl⟩,?_⟩;obtain⟨g,hg⟩:∃ g,g=w6.heap.size:=⟨_,rfl⟩;rw[← hg] at N_y6 ⊢;replace G_y6:Hid (w6.heap.size≤g):=Nat.le_of_eq hg.symm;clear hg;generalize (w6.alloc (.cells #[.string ⟨#[]⟩,.string ⟨#[]⟩] 42)).drew=y6 at *
      refine RP.walkT_move ?_;simp only[Kh,dz_,Kg,tz_]
      go_wp2_with fail
      refine cm_ (HmX.out _ (Hw6.out.trans (W_y6.out.mono Hw6.out.size))) ?_;rintro e_ y7 ⟨rfl,hb_⟩;have W_y7:Hid (Below w6.heap.size w6 y7):=W_y6.out.trans (hb_.mono W_y6.out.size);have N_y7:=hd_ (Kd N_y6.out hb_ nr_);clear hb_
      go_wp2_with fail
      refine⟨⟨⟨_,W_y7.out⟩,rfl⟩,?_⟩;refine RP.walkT_move ?_;simp only[Kh,dz_,Kg,tz_]
      go_wp2_with fail
      refine cm_ (HcX.out _ (Hw6.out.trans (W_y7.out.mono Hw6.out.size))) ?_;rintro e_ y8 ⟨rfl,hb_⟩;have W_y8:Hid (Below w6.heap.size w6 y8):=W_y7.out.trans (hb_.mono W_y7.out.size);have N_y8:=hd_ (Kd N_y7.out hb_ nr_);clear hb_
      go_wp2_with fail
      refine⟨⟨⟨_,W_y8.out⟩,rfl⟩,?_⟩;refine RP.walkT_move ?_;simp only[Kh,dz_,Kg,tz_];obtain⟨n0,n1,f0,f1⟩:=Ka N_y8.out
      go_wp2_with fail
      simp only[RP.walkT];have F9:Hid (Zag ((y8.setCell ⟨g,0,none⟩ (.string (itx (c*xq).num))).setCell ⟨g,1,none⟩ (.string (dec (c*xq).den))) g (c*xq)):=Vx N_y8.out;have W9:=hd_ ((W_y8.out.setCell (p:=⟨g,0,none⟩) G_y6.out (.string (itx (c*xq).num))).setCell (p:=⟨g,1,none⟩) G_y6.out (.string (dec (c*xq).den)));clear n0 n1 f0 f1;generalize (y8.setCell ⟨g,0,none⟩ (.string (itx (c*xq).num))).setCell ⟨g,1,none⟩ (.string (dec (c*xq).den))=w9 at *
      go_wp2_with fail
      go_meet
      exact⟨g,rfl,F9,G_y6,W9⟩
    case rest =>
    obtain⟨ga,rfl,FA7,hga_,hbx⟩:=hcut;have HE7:=hd_ (HE6.out.below hbx.out);have Hy7:=hd_ (Nat.le_trans Hy6.out hbx.out.size);have HG7:=hd_ (HG6.out.below hbx.out);have Hw7:=hd_ (Hw6.out.trans (hbx.out.mono Hw6.out.size));have Hga:Hid (v.heap.size+2≤ga):=Nat.le_trans Hy6.out hga_.out;clear hbx HE6 Hy6 HG6 Hw6 HmX HcX hga_;obtain⟨w7,hw7⟩:∃ w7,w7=wc:=⟨_,rfl⟩;subst hw7
    go_upto_region 12 with fail
    go_cut [15] from 21 to 74 (fun y wx=>∃ g,y = .pointer (some ⟨g,0,none⟩)∧Hid (Zag wx g (c*yq))∧Hid (w7.heap.size≤g)∧Hid (Below w7.heap.size w7 wx))
    case first =>
     obtain⟨x0,x1⟩:=Hcl.out w7 Hw7.out;obtain⟨x2,x3,-,-⟩:=Ka HG7.out;have q0:=NW.cell x0;have q1:=NW.cell x1;have q2:=NW.cell x2;have q3:=NW.cell x3;have hnon:Nonempty (NW w7):=⟨⟨w7,Below.refl _ _⟩⟩;have I:Hid (Below w7.heap.size w7 w7.drew):=(Below.refl _ _).drew;clear x0 x1 x2 x3
     go_wp2_with fail
     refine RP.wp_region_tree 10 (.rd 2 0 (.rd 2 1 (.rd 2 2 (.rd 1 3 (.rd 1 4 (.rd 2 5 (.rd 2 6 (.two 7 9 (.two 8 9 (.mv 9 (.mv 10 .nil)) (.mv 8 (.mv 10 .nil))) (.mv 7 (.mv 8 (.mv 10 .nil))))))))))) (fun w'=>∃ p:NW w7,w'=p.w) (by kernel_rfl) (by kernel_rfl) ?_ ?_
     ·exact⟨⟨_,I.out⟩,rfl⟩
     refine RP.walkT_any ?_;simp only[dz_,Kg,tz_]
     first | go_big_quiet_step (fail) | quiet_step (fail)
     refine wpQuiet_nil ?_;refine RP.walkT_any ?_;simp only[Kh,dz_,Kg,tz_]
     first | go_big_quiet_step (fail) | quiet_step (fail)
     refine wpQuiet_nil ?_;refine RP.walkT_any ?_;simp only[Kh,dz_,Kg,tz_]
     first | go_big_quiet_step (fail) | quiet_step (fail)
     refine wpQuiet_nil ?_;refine RP.walkT_read ?_;simp only[Kh,dz_,Kg,tz_]
     first | go_big_quiet_step (fail) | quiet_step (fail)
     refine wpQuiet_nil ?_;refine RP.walkT_read ?_;simp only[Kh,dz_,Kg,tz_]
     first | go_big_quiet_step (fail) | quiet_step (fail)
     refine wpQuiet_nil ?_;refine RP.walkT_any ?_;simp only[Kh,dz_,Kg,tz_]
     first | go_big_quiet_step (fail) | quiet_step (fail)
     refine wpQuiet_nil ?_;refine RP.walkT_any ?_;simp only[Kh,dz_,Kg,tz_]
     first | go_big_quiet_step (fail) | quiet_step (fail)
     refine wpQuiet_nil ?_;clear hnon q0 q1 q2 q3;refine RP.walkT_two ?_ ?_
     ·simp only[Kh,dz_,Kg,tz_]
      go_wp2_with fail
      refine cm_ (HmY.out _ (Hw7.out.trans (I.out.mono Hw7.out.size))) ?_;rintro e_ y1 ⟨rfl,hb_⟩;have W_y1:Hid (Below w7.heap.size w7 y1):=I.out.trans (hb_.mono I.out.size);clear hb_
      go_wp2_with fail
      refine⟨⟨⟨_,W_y1.out⟩,rfl⟩,?_⟩;refine RP.walkT_two ?_ ?_
      ·simp only[Kh,dz_,Kg,tz_]
       go_wp2_with fail
       refine cm_ (HcY.out _ (Hw7.out.trans (W_y1.out.mono Hw7.out.size))) ?_;rintro e_ y2 ⟨rfl,hb_⟩;have W_y2:Hid (Below w7.heap.size w7 y2):=W_y1.out.trans (hb_.mono W_y1.out.size);clear hb_
       go_wp2_with fail
       refine⟨⟨⟨_,W_y2.out⟩,rfl⟩,?_⟩;refine RP.walkT_move ?_;simp only[Kh,dz_,Kg,tz_]
       go_wp2_with fail
       have W_y3:=hd_ (W_y2.out.alloc W_y2.out.size (.cells #[.string ⟨#[]⟩,.string ⟨#[]⟩] 42));have N_y3:Hid ((y2.alloc (.cells #[.string ⟨#[]⟩,.string ⟨#[]⟩] 42)).heap[y2.heap.size]?=some (.cells #[.string ⟨#[]⟩,.string ⟨#[]⟩] 42 (0,0))):=heap_alloc_new y2 _;refine⟨⟨⟨_,W_y3.out⟩,rfl⟩,?_⟩;obtain⟨g,hg⟩:∃ g,g=y2.heap.size:=⟨_,rfl⟩;rw[← hg] at N_y3 ⊢;have G_y3:Hid (w7.heap.size≤g):=by show _≤_;rw[hg];exact W_y2.out.size
       clear hg;generalize y2.alloc (.cells #[.string ⟨#[]⟩,.string ⟨#[]⟩] 42)=y3 at *
       refine RP.walkT_move ?_;simp only[Kh,dz_,Kg,tz_];obtain⟨n0,n1,f0,f1⟩:=Ka N_y3.out
       go_wp2_with fail
       simp only[RP.walkT];have F9:Hid (Zag ((y3.setCell ⟨g,0,none⟩ (.string (itx (c*yq).num))).setCell ⟨g,1,none⟩ (.string (dec (c*yq).den))) g (c*yq)):=Vx N_y3.out;have W9:=hd_ ((W_y3.out.setCell (p:=⟨g,0,none⟩) G_y3.out (.string (itx (c*yq).num))).setCell (p:=⟨g,1,none⟩) G_y3.out (.string (dec (c*yq).den)));clear n0 n1 f0 f1;generalize (y3.setCell ⟨g,0,none⟩ (.string (itx (c*yq).num))).setCell ⟨g,1,none⟩ (.string (dec (c*yq).den))=w9 at *
       go_wp2_with fail
       go_meet
       exact⟨g,rfl,F9,G_y3,W9⟩
      ·simp only[Kh,dz_,Kg,tz_]
       go_wp2_with fail
       have W_y4:=hd_ (W_y1.out.alloc W_y1.out.size (.cells #[.string ⟨#[]⟩,.string ⟨#[]⟩] 42));have N_y4:Hid ((y1.alloc (.cells #[.string ⟨#[]⟩,.string ⟨#[]⟩] 42)).heap[y1.heap.size]?=some (.cells #[.string ⟨#[]⟩,.string ⟨#[]⟩] 42 (0,0))):=heap_alloc_new y1 _;refine⟨⟨⟨_,W_y4.out⟩,rfl⟩,?_⟩;obtain⟨g,hg⟩:∃ g,g=y1.heap.size:=⟨_,rfl⟩;rw[← hg] at N_y4 ⊢;have G_y4:Hid (w7.heap.size≤g):=by show _≤_;rw[hg];exact W_y1.out.size
       clear hg;generalize y1.alloc (.cells #[.string ⟨#[]⟩,.string ⟨#[]⟩] 42)=y4 at *
       refine RP.walkT_move ?_;simp only[Kh,dz_,Kg,tz_]
       go_wp2_with fail
       refine cm_ (HcY.out _ (Hw7.out.trans (W_y4.out.mono Hw7.out.size))) ?_;rintro e_ y5 ⟨rfl,hb_⟩;have W_y5:Hid (Below w7.heap.size w7 y5):=W_y4.out.trans (hb_.mono W_y4.out.size);have N_y5:=hd_ (Kd N_y4.out hb_ nr_);clear hb_
       go_wp2_with fail
       refine⟨⟨⟨_,W_y5.out⟩,rfl⟩,?_⟩;refine RP.walkT_move ?_;simp only[Kh,dz_,Kg,tz_];obtain⟨n0,n1,f0,f1⟩:=Ka N_y5.out
       go_wp2_with fail
       simp only[RP.walkT];have F9:Hid (Zag ((y5.setCell ⟨g,0,none⟩ (.string (itx (c*yq).num))).setCell ⟨g,1,none⟩ (.string (dec (c*yq).den))) g (c*yq)):=Vx N_y5.out;have W9:=hd_ ((W_y5.out.setCell (p:=⟨g,0,none⟩) G_y4.out (.string (itx (c*yq).num))).setCell (p:=⟨g,1,none⟩) G_y4.out (.string (dec (c*yq).den)));clear n0 n1 f0 f1;generalize (y5.setCell ⟨g,0,none⟩ (.string (itx (c*yq).num))).setCell ⟨g,1,none⟩ (.string (dec (c*yq).den))=w9 at *
       go_wp2_with fail
       go_meet
       exact⟨g,rfl,F9,G_y4,W9⟩
     ·simp only[Kh,dz_,Kg,tz_]
      go_wp2_with fail
      have W_y6:Hid (Below w7.heap.size w7 (w7.alloc (.cells #[.string ⟨#[]⟩,.string ⟨#[]⟩] 42)).drew):=Qg ((Below.refl _ _).alloc nr_ _) 1;have N_y6:Hid ((w7.alloc (.cells #[.string ⟨#[]⟩,.string ⟨#[]⟩] 42)).drew.heap[w7.heap.size]?=some (.cells #[.string ⟨#[]⟩,.string ⟨#[]⟩] 42 (0,0))):=heap_alloc_new w7 _;have G_y6:Hid (w7.heap.size≤w7.heap.size):=Nat.le_refl _;refine⟨⟨⟨_,W_y6.out⟩,rfl⟩,?_⟩;obtain⟨g,hg⟩:∃ g,g=w7.heap.size:=⟨_,rfl⟩;rw[← hg] at N_y6 ⊢;replace G_y6:Hid (w7.heap.size≤g):=Nat.le_of_eq hg.symm;clear hg;generalize (w7.alloc (.cells #[.string ⟨#[]⟩,.string ⟨#[]⟩] 42)).drew=y6 at *
      refine RP.walkT_move ?_;simp only[Kh,dz_,Kg,tz_]
      go_wp2_with fail
      refine cm_ (HmY.out _ (Hw7.out.trans (W_y6.out.mono Hw7.out.size))) ?_;rintro e_ y7 ⟨rfl,hb_⟩;have W_y7:Hid (Below w7.heap.size w7 y7):=W_y6.out.trans (hb_.mono W_y6.out.size);have N_y7:=hd_ (Kd N_y6.out hb_ nr_);clear hb_
      go_wp2_with fail
      refine⟨⟨⟨_,W_y7.out⟩,rfl⟩,?_⟩;refine RP.walkT_move ?_;simp only[Kh,dz_,Kg,tz_]
      go_wp2_with fail
      refine cm_ (HcY.out _ (Hw7.out.trans (W_y7.out.mono Hw7.out.size))) ?_;rintro e_ y8 ⟨rfl,hb_⟩;have W_y8:Hid (Below w7.heap.size w7 y8):=W_y7.out.trans (hb_.mono W_y7.out.size);have N_y8:=hd_ (Kd N_y7.out hb_ nr_);clear hb_
      go_wp2_with fail
      refine⟨⟨⟨_,W_y8.out⟩,rfl⟩,?_⟩;refine RP.walkT_move ?_;simp only[Kh,dz_,Kg,tz_];obtain⟨n0,n1,f0,f1⟩:=Ka N_y8.out
      go_wp2_with fail
      simp only[RP.walkT];have F9:Hid (Zag ((y8.setCell ⟨g,0,none⟩ (.string (itx (c*yq).num))).setCell ⟨g,1,none⟩ (.string (dec (c*yq).den))) g (c*yq)):=Vx N_y8.out;have W9:=hd_ ((W_y8.out.setCell (p:=⟨g,0,none⟩) G_y6.out (.string (itx (c*yq).num))).setCell (p:=⟨g,1,none⟩) G_y6.out (.string (dec (c*yq).den)));clear n0 n1 f0 f1;generalize (y8.setCell ⟨g,0,none⟩ (.string (itx (c*yq).num))).setCell ⟨g,1,none⟩ (.string (dec (c*yq).den))=w9 at *
      go_wp2_with fail
      go_meet
      exact⟨g,rfl,F9,G_y6,W9⟩
    case rest =>
    obtain⟨gb,rfl,FB8,hgb_,hbx⟩:=hcut;obtain⟨w8,hw8⟩:∃ w8,w8=wc:=⟨_,rfl⟩;subst hw8;have HE8:=hd_ (HE7.out.below hbx.out);have Hy8:=hd_ (Nat.le_trans Hy7.out hbx.out.size);have HG8:=hd_ (HG7.out.below hbx.out);have FA8:=hd_ (FA7.out.below hbx.out);have Hw8:=hd_ (Hw7.out.trans (hbx.out.mono Hw7.out.size));clear hbx HE7 Hy7 HG7 Hw7 HmY HcY hgb_ FA7 Hcl;obtain⟨k0,k1,-,-⟩:=Ka HE8.out.e0;obtain⟨k2,k3,-,-⟩:=Ka HE8.out.e1;obtain⟨k4,k5,-,-⟩:=Ka FA8.out;obtain⟨k6,k7,-,-⟩:=Ka FB8.out;have q0:=NW.cell k0;have q1:=NW.cell k1;have q2:=NW.cell k2;have q3:=NW.cell k3;have q4:=NW.cell k4;have q5:=NW.cell k5;have q6:=NW.cell k6;have q7:=NW.cell k7;have hnon:Nonempty (NW w8):=⟨⟨w8,Below.refl _ _⟩⟩;have I:Hid (Below w8.heap.size w8 w8.drew):=(Below.refl _ _).drew;have HLa:=hd_ (fun X (hX:Below w8.heap.size w8 X)=>HL.out.below (Hw8.out.trans (hX.mono Hw8.out.size)))
    have Hmn:=hd_ (fun X hX=>Zf6 X (c*xq) (c*yq) (D+355) (D+355) Hva.out Hvb.out (by omega) (HLa.out X hX))
    have Hmx:=hd_ (fun X hX=>Zf7 X (c*xq) (c*yq) (D+355) (D+355) Hva.out Hvb.out (by omega) (HLa.out X hX))
    have Had:=hd_ (fun X hX=>Zqj X _ _ _ _ Hsm.out.1 (Zeb Hva.out Hvb.out) (by omega) (HLa.out X hX))
    have Had2:=hd_ (fun X hX=>Zqj X _ _ _ _ Hsm.out.2 (Zec Hva.out Hvb.out) (by omega) (HLa.out X hX))
    rw[← Hst.out.1] at Had;rw[← Hst.out.2] at Had2;clear HLa Hst Hsm Hva Hvb;unfold fr fv at Hmn Hmx Had Had2;generalize c*xq=va at *
    generalize c*yq=vb at *
    go_wp2_with fail
    clear k0 k1 k2 k3 k4 k5 k6 k7;refine RP.wp_region_readers 10 [(1,0),(1,1),(1,2),(1,5),(1,6),(1,7),(0,3),(0,4),(0,8),(0,9),(0,10),(0,11)] (fun w'=>∃ p:NW w8,w'=p.w) (by kernel_rfl) (by kernel_rfl) ?_ ?_
    ·exact⟨⟨_,I.out⟩,rfl⟩
    iterate 6 (refine RP.walkR_read ?_;simp only[Kh,dz_,Kg,tz_];go_big_quiet_step (fail);refine wpQuiet_nil ?_)
    clear q0 q1 q2 q3 q4 q5 q6 q7 hnon;refine RP.walkR_move ?_;simp only[Kh,dz_,Kg,tz_]
    go_wp2_with fail
    refine cm_ (Hmn.out _ I.out) ?_;rintro e x1 ⟨rfl,hbx⟩;have J1:Hid (Below w8.heap.size w8 x1):=I.out.trans (hbx.mono I.out.size);clear hbx I Hmn
    go_wp2_with fail
    refine⟨⟨⟨_,J1.out⟩,rfl⟩,?_⟩;refine RP.walkR_move ?_;simp only[Kh,dz_,Kg,tz_]
    go_wp2_with fail
    refine cm_ (Had.out _ J1.out) ?_;rintro e x2 ⟨rfl,hbx⟩;have J2:Hid (Below w8.heap.size w8 x2):=J1.out.trans (hbx.mono J1.out.size);clear hbx J1 Had
    go_wp2_with fail
    refine⟨⟨⟨_,J2.out⟩,rfl⟩,?_⟩;refine RP.walkR_move ?_;simp only[Kh,dz_,Kg,tz_]
    go_wp2_with fail
    refine cm_ (Hmx.out _ J2.out) ?_;rintro e x3 ⟨rfl,hbx⟩;have J3:Hid (Below w8.heap.size w8 x3):=J2.out.trans (hbx.mono J2.out.size);clear hbx J2 Hmx
    go_wp2_with fail
    refine⟨⟨⟨_,J3.out⟩,rfl⟩,?_⟩;refine RP.walkR_move ?_;simp only[Kh,dz_,Kg,tz_]
    go_wp2_with fail
    refine cm_ (Had2.out _ J3.out) ?_;rintro e x4 ⟨rfl,hbx⟩;have J4:Hid (Below w8.heap.size w8 x4):=J3.out.trans (hbx.mono J3.out.size);clear hbx J3 Had2
    go_wp2_with fail
    refine⟨⟨⟨_,J4.out⟩,rfl⟩,?_⟩;have HEx:=hd_ (HE8.out.below J4.out);have Hyx:=hd_ (Nat.le_trans Hy8.out J4.out.size);have HGx:=hd_ (HG8.out.below J4.out);obtain⟨k0,k1,f0,f1⟩:=Ka HEx.out.e0;obtain⟨k2,k3,f2,f3⟩:=Ka HEx.out.e1;have HEp:=hd_ (HEx.out.put (loE b (ps.take (k+1)) (l.take (k+1))) (hiE b (ps.take (k+1)) (l.take (k+1))));have Hyp:Hid (v.heap.size+2≤(Vs x4 v.heap.size (loE b (ps.take (k+1)) (l.take (k+1))) (hiE b (ps.take (k+1)) (l.take (k+1)))).heap.size):=by
     show _≤_
     unfold Vs;rw[World.size_setCell,World.size_setCell,World.size_setCell,World.size_setCell];exact Hyx.out
    have HGp:Hid (Zag (Vs x4 v.heap.size (loE b (ps.take (k+1)) (l.take (k+1))) (hiE b (ps.take (k+1)) (l.take (k+1)))) gp (ptQ b)):=by
     unfold Vs;exact Zag.set (Zag.set HGx.out (by have:=Hgp.out;omega) _ _) (by have:=Hgp.out;omega) _ _
    unfold Vs at HEp Hyp HGp;clear HEx J4 Hyx HGx HE8 Hy8 HG8;refine RP.walkR_move ?_;simp only[Kh,dz_,Kg,tz_]
    go_wp2_with fail
    refine RP.walkR_move ?_;simp only[Kh,dz_,Kg,tz_]
    go_wp2_with fail
    simp only[RP.walkR]
    go_wp2_with fail
    refine⟨⟨k+1,by omega,by go_num,HEp,Hyp,HGp⟩,by simp[intOf];omega⟩
  ·obtain rfl:k=n:=by omega
   have hlt':¬ (k:Int)<k:=by omega
   have hvv:=Hv.out trivial;rw[← hvv.1,← hvv.2] at HE;clear hvv Hv HG;have HRu:Hid (RsI w v.heap.size (v.heap.size+1) vlo vhi wr):=by
    have hsz:=Nat.succ_le_of_lt (Array.getElem?_eq_some_iff.1 HTv.out.e1).1;have h0:=HE.out.bel.block _ (Array.getElem?_eq_some_iff.1 HTv.out.e0).1;have h1:=HE.out.bel.block _ (Array.getElem?_eq_some_iff.1 HTv.out.e1).1;exact⟨⟨_,_,h0.trans HTv.out.e0⟩,⟨_,_,h1.trans HTv.out.e1⟩,HE.out.e0,HE.out.e1,hsz,by omega,Hvw.out.trans (HE.out.bel.mono Hvw.out.size)⟩
   have HR:=hd_ (HRu.out.drew 1);have hcl:∀ p:RsW w v.heap.size (v.heap.size+1) vlo vhi,p.w.cell? ⟨v.heap.size,0,none⟩=some (.string (itx vlo.num)):=fun p=>(Ka p.h.a).1
   have hcl1:∀ p:RsW w v.heap.size (v.heap.size+1) vlo vhi,p.w.cell? ⟨v.heap.size,1,none⟩=some (.string (dec vlo.den)):=fun p=>(Ka p.h.a).2.1
   have hcl2:∀ p:RsW w v.heap.size (v.heap.size+1) vlo vhi,p.w.cell? ⟨v.heap.size+1,0,none⟩=some (.string (itx vhi.num)):=fun p=>(Ka p.h.b).1
   have hcl3:∀ p:RsW w v.heap.size (v.heap.size+1) vlo vhi,p.w.cell? ⟨v.heap.size+1,1,none⟩=some (.string (dec vhi.den)):=fun p=>(Ka p.h.b).2.1
   have hnon:Nonempty (RsW w v.heap.size (v.heap.size+1) vlo vhi):=⟨⟨_,HR.out⟩⟩
   go_wp2_with fail
   refine RP.wp_region_readers 3 [(1,0),(1,1),(0,2),(0,3)] (fun w'=>∃ p:RsW w v.heap.size (v.heap.size+1) vlo vhi,w'=p.w) (by kernel_rfl) (by kernel_rfl) ?_ ?_
   ·exact⟨⟨_,HR.out⟩,rfl⟩
   iterate 2 (refine RP.walkR_read ?_;simp only[Kh,dz_,Kg,tz_];go_big_quiet_step (fail);refine wpQuiet_nil ?_)
   clear hnon hcl hcl1 hcl2 hcl3 HE;obtain⟨x0,y0,e0⟩:=HRu.out.r0;obtain⟨k0,k1,f0,f1⟩:=Ka e0;have H0:=hd_ (Zfe e0 (.string (itx vlo.num)) (.string (dec vlo.den)));have HR1:=hd_ ((HRu.out.put0 (.string (itx vlo.num)) (.string (dec vlo.den))).drew 1);refine RP.walkR_move ?_;simp only[Kh,dz_,Kg,tz_]
   go_wp2_with fail
   refine⟨⟨⟨_,HR1.out⟩,rfl⟩,?_⟩;clear k0 k1 f0 f1 e0 HR HRu;have HR2:Hid (RsI w v.heap.size (v.heap.size+1) vlo vhi ((wr.setCell ⟨w.heap.size,0,none⟩ (.string (itx vlo.num))).setCell ⟨w.heap.size,1,none⟩ (.string (dec vlo.den))).drew):=HR1.out;replace H0:Hid (((wr.setCell ⟨w.heap.size,0,none⟩ (.string (itx vlo.num))).setCell ⟨w.heap.size,1,none⟩ (.string (dec vlo.den))).drew.heap[w.heap.size]?=some (.cells #[.string (itx vlo.num),.string (dec vlo.den)] 42 (0,0))):=H0.out;generalize ((wr.setCell ⟨w.heap.size,0,none⟩ (.string (itx vlo.num))).setCell ⟨w.heap.size,1,none⟩ (.string (dec vlo.den))).drew=wz at *
   obtain⟨x1,y1,e1⟩:=HR2.out.r1;obtain⟨k2,k3,f2,f3⟩:=Ka e1;have H1:=hd_ (Zfe e1 (.string (itx vhi.num)) (.string (dec vhi.den)));have H0':=hd_ (Zbb H0.out (g:=w.heap.size+1) (by omega) (.string (itx vhi.num)) (.string (dec vhi.den)))
   have B9:=hd_ ((HR2.out.bel.setCell (p:=⟨w.heap.size+1,0,none⟩) (Nat.le_succ _) (.string (itx vhi.num))).setCell (p:=⟨w.heap.size+1,1,none⟩) (Nat.le_succ _) (.string (dec vhi.den)));refine RP.walkR_move ?_;simp only[Kh,dz_,Kg,tz_]
   go_wp2_with fail
   simp only[RP.walkR];clear k2 k3 f2 f3 e1 HR1 HR2;generalize (wz.setCell ⟨w.heap.size+1,0,none⟩ (.string (itx vhi.num))).setCell ⟨w.heap.size+1,1,none⟩ (.string (dec vhi.den))=w9 at *
   obtain⟨c0',c1',-,-⟩:=Ka H0'.out;obtain⟨c2',c3',-,-⟩:=Ka H1.out
   go_wp2_with fail
   exact bodyPost_ret (v := .tuple #[.agg #[.string (itx vlo.num),.string (dec vlo.den)],.agg #[.string (itx vhi.num),.string (dec vhi.den)]]) (by simp[results,Tryz.results42,go_sem,c0',c1',c2',c3']) rfl ⟨rfl,B9.out⟩
  end Go.Proofs.YtnjedhgcfeoemaaGreatDoor

namespace Go.Proofs.YtnjedhgcfeoemaaGreatDoor
open Go.RowKit
theorem Zui(q:Rat):nzQ q=false↔q=0:=by
 unfold nzQ;rw[bne_eq_false_iff_eq,Int.sign_eq_zero_iff_zero,Rat.num_eq_zero]
theorem Zql(w:World)(a1:Option Addr)(c1:Nat)(l:List Rat)(rl:Rd w a1 (Kx l))(hn:l.length≤1000000)(L:Qb w):
  Kc Tryz.prog 59 #[.slice a1 l.length c1] w (.bool (!l.any nzQ)):=by
 unfold Kc;have HRl:=hd_ rl;obtain⟨z,hz⟩:∃ z:Rat,z=0:=⟨_,rfl⟩;have N0:=hd_ (fun W (hW:Below w.heap.size w W)=>Zge W 0 1 z (by rw[hz];decide +kernel) (by decide) (by decide) (by decide) (by decide) (L.below hW))
 have Hyes:Hid (∀ k,(∀ j (h:j<l.length),j<k→l[j]=z)→k=l.length→(!l.any nzQ)=true):=fun k h hk=>by
  rw[Bool.not_eq_true',List.any_eq_false];intro x hx;obtain⟨j,hj,rfl⟩:=List.getElem_of_mem hx;rw[h j hj (by omega),hz];decide
 have Hno:Hid (∀ k (h:k<l.length),l[k]≠z→(!l.any nzQ)=false):=fun k h hne=>by
  rw[Bool.not_eq_false',List.any_eq_true];refine⟨_,List.getElem_mem h,?_⟩;cases hb:nzQ l[k] with
  | true=>rfl
  | false=>exact absurd ((Zui _).1 hb) (by rw[← hz];exact hne)
 clear hz L rl;obtain⟨n,hn'⟩:∃ n,l.length=n:=⟨_,rfl⟩;have Hn:=hd_ hn';obtain⟨v,hv⟩:∃ v,(!l.any nzQ)=v:=⟨_,rfl⟩;rw[hv] at Hyes Hno ⊢;rw[hn'] at hn ⊢;clear hn' hv;unfold fr fv at N0;go_enter Tryz.func59,Tryz.ntmps59
 go_wp2_with fail
 go_loopw [3] (fun i wr=>∃ k:Nat,k≤n∧i = .int .i64 k∧Hid (∀ j (h:j<l.length),j<k→l[j]=z)∧Hid (Below w.heap.size w wr)) (fun i _=>n-(intOf i).toNat)
 case atStart=>exact⟨0,Nat.zero_le _,rfl,fun j _ hj=>absurd hj (Nat.not_lt_zero _),Below.refl _ _⟩
 case round =>
  obtain⟨k,hk,rfl,HP,HB⟩:=hrel
  by_cases hlt:k<n
  ·have hlt':(k:Int)<n:=by omega
   have hkl:k<l.length:=by rw[Hn.out];exact hlt
   have hkw:IntKind.i64.wrap ((k:Int)+1)=((k+1:Nat):Int):=by rw[← Int.natCast_succ];exact iw_ _ (by omega)
   obtain⟨b1,o1,rfl,hb1,hc1⟩:=HRl.out.open (by rw[Ky];omega)
   obtain⟨x0,x1⟩:=Ql hc1 k (by rw[List.length_map];exact hkl)
   rw[Qt l k hkl] at x0 x1;rw[← HB.out.cell (p:=⟨b1,o1+k*2,none⟩) hb1] at x0;rw[← HB.out.cell (p:=⟨b1,o1+k*2+1,none⟩) hb1] at x1;have HP':Hid (l[k]=z→∀ j (h:j<l.length),j<k+1→l[j]=z):=fun he j g hj=>by
    rcases Nat.lt_or_ge j k with h|h
    ·exact HP.out j g h
    ·have e:j=k:=by omega
     subst e;exact he
   have Hnk:=hd_ (Hno.out k hkl);clear hc1 HP Hno Hyes;unfold qs at x0 x1;simp only at x0 x1;generalize l[k]=c at *
   have q0:=NW.cell x0;have q1:=NW.cell x1;have hnon:Nonempty (NW wr):=⟨⟨wr,Below.refl _ _⟩⟩;have I:Hid (Below wr.heap.size wr wr.drew):=(Below.refl _ _).drew;clear x0 x1
   go_wp2_with fail
   refine RP.wp_region_readers 5 [(2,0),(2,1),(2,2),(1,3),(0,4),(0,5)] (fun w'=>∃ p:NW wr,w'=p.w) (by kernel_rfl) (by kernel_rfl) ?_ ?_
   ·exact⟨⟨_,I.out⟩,rfl⟩
   iterate 3 (refine RP.walkR_any ?_;simp only[Kh,dz_,Kg,tz_];go_big_quiet_step (fail);refine wpQuiet_nil ?_)
   refine RP.walkR_read ?_;simp only[Kh,dz_,Kg,tz_];go_big_quiet_step (fail);refine wpQuiet_nil ?_;clear hnon q0 q1;refine RP.walkR_move ?_;simp only[Kh,dz_,Kg,tz_]
   go_wp2_with fail
   refine cm_ (N0.out _ (HB.out.trans (I.out.mono HB.out.size))) ?_;rintro e w4 ⟨rfl,hbx⟩;have J:Hid (Below w.heap.size w w4):=(HB.out.trans (I.out.mono HB.out.size)).trans (hbx.mono (HB.out.trans (I.out.mono HB.out.size)).size);have J0:Hid (Below wr.heap.size wr w4):=I.out.trans (hbx.mono I.out.size);clear hbx I
   go_wp2_with fail
   refine⟨⟨⟨_,J0.out⟩,rfl⟩,?_⟩;refine RP.walkR_move ?_;simp only[Kh,dz_,Kg,tz_];have hq:∀ W,(binOp .neq 42 (.agg #[.string (itx c.num),.string (dec c.den)]) (.agg #[.string (itx z.num),.string (dec z.den)])).run Tryz.prog W = .ok (.bool (!decide (c=z))) W:=fun W=>by rw[Ziw,Zj8]
   have hgu:=fun W x y=>Zbj W .neq x y #[.string (itx c.num),.string (dec c.den)] #[.string (itx z.num),.string (dec z.den)]
   go_wp2_with fail
   clear hq hgu;simp only[RP.walkR]
   by_cases hcz:c=z
   ·rw[decide_eq_true hcz,Bool.not_true];have Hq:=hd_ (HP'.out hcz);clear hcz HP' Hnk
    go_wp2_with fail
    refine⟨⟨k+1,by omega,by go_num,Hq,J⟩,by simp[intOf];omega⟩
   ·rw[decide_eq_false hcz,Bool.not_false];have Hz:=hd_ (Hnk.out hcz);clear hcz HP' Hnk
    go_wp2_with fail
    go_ret;exact⟨by rw[Hz.out];rfl,J.out⟩
  ·have hlt':¬ (k:Int)<n:=by omega
   have Hz:=hd_ (Hyes.out k HP.out (by rw[Hn.out];omega))
   clear HP Hyes Hno
   go_wp2_with fail
   go_ret;exact⟨by rw[Hz.out];rfl,HB.out⟩
theorem Zkz(w:World)(a0 a1:Option Addr)(c0 c1 D b:Nat)(ps:List Int)(l:List Rat)(rp:Rd w a0 (Vc ps))(rl:Rd w a1 (Kx l))(hl:l.length=ps.length)(hn:ps.length≤100)(hp:∀ p∈ps,∃ q:Nat,p=q∧(q=2∨q∈Yt))(hs:∀ q∈l,Sm D q)(hD:D≤300)(hb:b≤90)(L:Qb w):
  Kc Tryz.prog 61 #[.slice a0 ps.length c0,.slice a1 ps.length c1,.int .i64 b] w (.int .i64 (Zcb b ps l)):=by
 have HE:=hd_ (Zks w a0 a1 c0 c1 D b ps l rp rl hl hn hp hs hD hb L);have hv:=Zik b ps l;generalize Zcb b ps l=v at *
 generalize loE b ps l=lo at *
 generalize hiE b ps l=hi at *
 have Ha:=hd_ (fun W=>Zij W lo)
 have Hb:=hd_ (fun W=>Zij W hi)
 have Hv:Hid (v=if 0≤lo.num.sign then 1 else if hi.num.sign≤0 then -1 else 0):=by show _=_;rw[← hv];rfl
 clear hv rp rl hp hs L;unfold Kc at HE ⊢;generalize ps.length=n at *
 unfold fr fv at HE Ha Hb;have H3:=hd_ (fun W=>Ztw.mk' W (itx lo.num) (dec lo.den) (itx hi.num) (dec hi.den))
 generalize lo.num.sign=sa at *
 generalize hi.num.sign=sb at *
 by_cases h1:0≤sa
 ·have Hv2:Hid (v=1):=by show _=_;rw[Hv.out,if_pos h1]
  clear Hv Hb;go_enter Tryz.func61,Tryz.ntmps61
  go_wp2_with fail
  refine cm_ HE.out ?_;rintro e w0 ⟨rfl,hb0⟩;have B0:=hd_ hb0;replace H3:=hd_ (H3.out w0);clear hb0 HE;obtain⟨k0,k1,-,-⟩:=Ka H3.out.fa
  go_wp2_with fail
  generalize (w0.alloc (.cells #[.string (itx lo.num),.string (dec lo.den)] 42)).alloc (.cells #[.string (itx hi.num),.string (dec hi.den)] 42)=W0 at *
  clear k0 k1;refine cm_ (Ha.out _) ?_;rintro e w1 ⟨rfl,hb1⟩;have B1:=hd_ (B0.out.trans ((H3.out.bel.trans (hb1.mono H3.out.bel.size)).mono B0.out.size));clear hb1 Ha
  go_wp2_with fail
  go_ret;exact⟨by rw[Hv2.out];rfl,B1.out⟩
 ·by_cases h2:sb≤0
  ·have Hv2:Hid (v = -1):=by show _=_;rw[Hv.out,if_neg h1,if_pos h2]
   clear Hv;go_enter Tryz.func61,Tryz.ntmps61
   go_wp2_with fail
   refine cm_ HE.out ?_;rintro e w0 ⟨rfl,hb0⟩;have B0:=hd_ hb0;replace H3:=hd_ (H3.out w0);clear hb0 HE;obtain⟨k0,k1,-,-⟩:=Ka H3.out.fa
   go_wp2_with fail
   generalize (w0.alloc (.cells #[.string (itx lo.num),.string (dec lo.den)] 42)).alloc (.cells #[.string (itx hi.num),.string (dec hi.den)] 42)=W0 at *
   clear k0 k1;refine cm_ (Ha.out _) ?_;rintro e w1 ⟨rfl,hb1⟩;have H4:=hd_ (H3.out.next hb1);clear hb1 Ha H3;obtain⟨k2,k3,-,-⟩:=Ka H4.out.fb
   go_wp2_with fail
   clear k2 k3;refine cm_ (Hb.out _) ?_;rintro e w2 ⟨rfl,hb1⟩;have B1:=hd_ (B0.out.trans ((H4.out.bel.trans (hb1.mono H4.out.bel.size)).mono B0.out.size));clear hb1 Hb
   go_wp2_with fail
   go_ret;exact⟨by rw[Hv2.out];rfl,B1.out⟩
  ·have Hv2:Hid (v=0):=by show _=_;rw[Hv.out,if_neg h1,if_neg h2]
   clear Hv;go_enter Tryz.func61,Tryz.ntmps61
   go_wp2_with fail
   refine cm_ HE.out ?_;rintro e w0 ⟨rfl,hb0⟩;have B0:=hd_ hb0;replace H3:=hd_ (H3.out w0);clear hb0 HE;obtain⟨k0,k1,-,-⟩:=Ka H3.out.fa
   go_wp2_with fail
   generalize (w0.alloc (.cells #[.string (itx lo.num),.string (dec lo.den)] 42)).alloc (.cells #[.string (itx hi.num),.string (dec hi.den)] 42)=W0 at *
   clear k0 k1;refine cm_ (Ha.out _) ?_;rintro e w1 ⟨rfl,hb1⟩;have H4:=hd_ (H3.out.next hb1);clear hb1 Ha H3;obtain⟨k2,k3,-,-⟩:=Ka H4.out.fb
   go_wp2_with fail
   clear k2 k3;refine cm_ (Hb.out _) ?_;rintro e w2 ⟨rfl,hb1⟩;have B1:=hd_ (B0.out.trans ((H4.out.bel.trans (hb1.mono H4.out.bel.size)).mono B0.out.size));clear hb1 Hb
   go_wp2_with fail
   go_ret;exact⟨by rw[Hv2.out];rfl,B1.out⟩
structure BdI (w wr:World) (a:Option Addr) (m c:Nat) (bl:List (Int×Int×ByteArray)):Prop where
 own:wr.ownsRow w.heap.size 27 3 (.slice a m c) m (Qq bl)
 bel:Below w.heap.size w wr
theorem BdI.below{w wr w':World}{a:Option Addr}{m c:Nat}{bl:List (Int×Int×ByteArray)}(h:BdI w wr a m c bl)(hb:Below wr.heap.size wr w'):BdI w w' a m c bl :=
 ⟨Vu h.own hb nr_,h.bel.trans (hb.mono h.bel.size)⟩
theorem BdI.push{w W w5:World}{mm c d:Nat}{a a3:Option Addr}{bl:List (Int×Int×ByteArray)}{x:Int×Int×ByteArray}{news:List Value}(h:BdI w W a mm c bl)
  (hnews:news=[.int .i64 x.1,.int .i64 x.2.1,.string x.2.2])
  (hg:(W.alloc (.cells news.toArray 27)).grownBy w5 (Value.slice a mm c).ownBlock) (ho:w5.ownsRow w.heap.size 27 3 (.slice a3 (mm+1) d) (mm+1) (Qq bl++news)) :
  BdI w w5 a3 (mm+1) d (bl++[x]):=by
 refine⟨?_,(h.bel.alloc h.bel.size _).grown hg (by simp;have:=h.bel.size;omega) (fun k hk=>(World.ownsRow.lt h.own k hk).1)⟩
 rw[Zdx];subst hnews;exact ho
theorem Zla(w:World)(a0 a1:Option Addr)(c0 c1 b:Nat)(ps:List Int)(l:List Rat)(rp:Rd w a0 (Vc ps))(rl:Rd w a1 (Kx l))(hl:l.length=ps.length)(hn:ps.length≤100)(hp:∀ p∈ps,∃ q:Nat,p=q∧(q=2∨q∈Yt))(hb:b≤90)(L:Qb w):
  Calls Tryz.prog 60 #[.slice a0 ps.length c0,.slice a1 ps.length c1,.int .i64 b] w fun e w'=>∃ a c,e = .returned (.slice a (Zbq b ps l).length c)∧Rd w' a (Qq (Zbq b ps l))∧Below w.heap.size w w':=by
 have Hp:=hd_ hp;have Hl:=hd_ hl;have HL:=hd_ L;have HRp:=hd_ rp;have HRl:=hd_ rl;obtain⟨z,hz⟩:∃ z:Rat,z=0:=⟨_,rfl⟩;have Hz0:=hd_ hz;have N0:=hd_ (fun W (hW:Below w.heap.size w W)=>Zge W 0 1 z (by rw[hz];decide +kernel) (by decide) (by decide) (by decide) (by decide) (L.below hW))
 clear hz L rp rl hp hl;obtain⟨n,hn'⟩:∃ n,ps.length=n:=⟨_,rfl⟩;have Hn:=hd_ hn';rw[hn'] at hn ⊢;clear hn';unfold fr fv at N0;have HI0:Hid (BdI w w none 0 0 (Zbq b (ps.take 0) (l.take 0))):=⟨World.ownsRow_nil ..,Below.refl _ _⟩;go_enter Tryz.func60,Tryz.ntmps60
 go_wp2_with fail
 go_loopw [7,8] (fun o i wr=>∃ (k:Nat) (a:Option Addr) (c mm:Nat),k≤n∧o = .slice a mm c∧i = .int .i64 k∧mm≤k∧Hid (mm=(Zbq b (ps.take k) (l.take k)).length)∧Hid (BdI w wr a mm c (Zbq b (ps.take k) (l.take k)))) (fun _ i _=>n-(intOf i).toNat)
 case atStart=>exact⟨0,none,0,0,Nat.zero_le _,rfl,rfl,Nat.le_refl _,rfl,HI0⟩
 case round =>
  obtain⟨k,a,c,mm,hk,rfl,rfl,hmm,Hmm,HI⟩:=hrel;clear HI0
  by_cases hlt:k<n
  ·have hlt':(k:Int)<n:=by omega
   have hkp:k<ps.length:=by rw[Hn.out];exact hlt
   have hkl:k<l.length:=by rw[Hl.out];exact hkp
   have Hwb:=hd_ HI.out.bel;obtain⟨b0,o0,rfl,hb0,hc0⟩:=HRp.out.open (by rw[Qe];omega)
   have Hcp:Hid (∀ W,Below w.heap.size w W→W.cell? ⟨b0,o0+k,none⟩=some (.int .i64 ps[k])):=fun W hW=>by
    rw[hW.cell (p:=⟨b0,o0+k,none⟩) hb0];exact hc0 k _ (Yh ps k hkp)
   obtain⟨b1,o1,rfl,hb1,hc1⟩:=HRl.out.open (by rw[Ky];omega)
   obtain⟨x0,x1⟩:=Ql hc1 k (by rw[List.length_map];exact hkl)
   rw[Qt l k hkl] at x0 x1;rw[← Hwb.out.cell (p:=⟨b1,o1+k*2,none⟩) hb1] at x0;rw[← Hwb.out.cell (p:=⟨b1,o1+k*2+1,none⟩) hb1] at x1;have hkw:IntKind.i64.wrap ((k:Int)+1)=((k+1:Nat):Int):=by rw[← Int.natCast_succ];exact iw_ _ (by omega)
   have Hbt:=hd_ (Zgz b ps l k hkp hkl);obtain⟨q,hq,hq2⟩:=Hp.out _ (List.getElem_mem hkp);have HLo:=hd_ (fun W (hW:Below w.heap.size w W)=>Zny W q b hq2 hb (HL.out.below hW))
   rw[hq] at Hcp Hbt;clear hc0 hc1 hq hq2;unfold qs at x0 x1;simp only at x0 x1;generalize l[k]=cc at *
   have q0:=NW.cell x0;have q1:=NW.cell x1;have hnon:Nonempty (NW wr):=⟨⟨wr,Below.refl _ _⟩⟩;have I:Hid (Below wr.heap.size wr wr.drew):=(Below.refl _ _).drew;clear x0 x1
   go_wp2_with fail
   refine RP.wp_region_readers 5 [(2,0),(2,1),(2,2),(1,3),(0,4),(0,5)] (fun w'=>∃ p:NW wr,w'=p.w) (by kernel_rfl) (by kernel_rfl) ?_ ?_
   ·exact⟨⟨_,I.out⟩,rfl⟩
   iterate 3 (refine RP.walkR_any ?_;simp only[Kh,dz_,Kg,tz_];go_big_quiet_step (fail);refine wpQuiet_nil ?_)
   refine RP.walkR_read ?_;simp only[Kh,dz_,Kg,tz_];go_big_quiet_step (fail);refine wpQuiet_nil ?_;clear hnon q0 q1;refine RP.walkR_move ?_;simp only[Kh,dz_,Kg,tz_]
   go_wp2_with fail
   refine cm_ (N0.out _ (Hwb.out.trans (I.out.mono Hwb.out.size))) ?_;rintro e w4 ⟨rfl,hbx⟩;have J:Hid (Below wr.heap.size wr w4):=I.out.trans (hbx.mono I.out.size);clear hbx I
   go_wp2_with fail
   refine⟨⟨⟨_,J.out⟩,rfl⟩,?_⟩;refine RP.walkR_move ?_;simp only[Kh,dz_,Kg,tz_];have hq:∀ W,(binOp .neq 42 (.agg #[.string (itx cc.num),.string (dec cc.den)]) (.agg #[.string (itx z.num),.string (dec z.den)])).run Tryz.prog W = .ok (.bool (!decide (cc=z))) W:=fun W=>by rw[Ziw,Zj8]
   have hgu:=fun W x y=>Zbj W .neq x y #[.string (itx cc.num),.string (dec cc.den)] #[.string (itx z.num),.string (dec z.den)]
   go_wp2_with fail
   clear hq hgu;simp only[RP.walkR];have HI2:=hd_ (HI.out.below J.out);clear HI J Hwb
   by_cases hcz:cc=z
   ·rw[decide_eq_true hcz,Bool.not_true];have hbt:=Hbt.out;rw[if_pos (by rw[hcz,Hz0.out];rfl),List.append_nil] at hbt
    have Hbt2:=hd_ hbt;clear hbt Hbt HLo Hcp hcz
    go_wp2_with fail
    refine⟨⟨k+1,a,c,mm,by omega,rfl,by go_num,by omega,by rw[Hbt2.out];exact Hmm,by rw[Hbt2.out];exact HI2⟩,by simp[intOf];omega⟩
   ·rw[decide_eq_false hcz,Bool.not_false];have hbt:=Hbt.out;rw[if_neg (fun h=>hcz (by rw[Hz0.out];exact Rat.num_eq_zero.1 h))] at hbt
    have Hbt2:=hd_ hbt;clear hbt Hbt hcz;have cp:=Hcp.out w4 HI2.out.bel;have q0:=NW.cell cp;have hnon:Nonempty (NW w4):=⟨⟨w4,Below.refl _ _⟩⟩;have I:Hid (Below w4.heap.size w4 w4.drew):=(Below.refl _ _).drew;clear cp
    go_wp2_with fail
    refine RP.wp_region_readers 14 [(2,0),(2,1),(2,2),(2,3),(1,4),(2,5),(2,6),(2,7),(2,8),(1,9),(2,10),(0,11),(0,12),(0,13),(0,14),(0,15)] (fun w'=>∃ p:NW w4,w'=p.w) (by kernel_rfl) (by kernel_rfl) ?_ ?_
    ·exact⟨⟨_,I.out⟩,rfl⟩
    iterate 4 (refine RP.walkR_any ?_;simp only[Kh,dz_,Kg,tz_];go_big_quiet_step (fail);refine wpQuiet_nil ?_)
    iterate 1 (refine RP.walkR_read ?_;simp only[Kh,dz_,Kg,tz_];go_big_quiet_step (fail);refine wpQuiet_nil ?_)
    iterate 4 (refine RP.walkR_any ?_;simp only[Kh,dz_,Kg,tz_];go_big_quiet_step (fail);refine wpQuiet_nil ?_)
    iterate 1 (refine RP.walkR_read ?_;simp only[Kh,dz_,Kg,tz_];go_big_quiet_step (fail);refine wpQuiet_nil ?_)
    iterate 1 (refine RP.walkR_any ?_;simp only[Kh,dz_,Kg,tz_];go_big_quiet_step (fail);refine wpQuiet_nil ?_)
    clear hnon q0;refine RP.walkR_move ?_;simp only[Kh,dz_,Kg,tz_]
    go_wp2_with fail
    refine cm_ (HLo.out _ (HI2.out.bel.trans (I.out.mono HI2.out.bel.size))) ?_;rintro e x1 ⟨rfl,hb⟩;have I1:Hid (Below w4.heap.size w4 x1):=I.out.trans (hb.mono I.out.size);clear hb I HLo
    go_wp2_with fail
    refine⟨⟨⟨_,I1.out⟩,rfl⟩,?_⟩;refine RP.walkR_move ?_;simp only[Kh,dz_,Kg,tz_]
    go_wp2_with fail
    refine⟨⟨⟨_,I1.out⟩,rfl⟩,?_⟩;refine RP.walkR_move ?_;simp only[Kh,dz_,Kg,tz_]
    go_wp2_with fail
    refine⟨⟨⟨_,I1.out.alloc I1.out.size _⟩,rfl⟩,?_⟩;have HI3:=hd_ (HI2.out.below I1.out);have Hsz:=hd_ HI3.out.bel.size;refine RP.walkR_move ?_;simp only[Kh,dz_,Kg,tz_]
    go_wp2_with (at_builtin;refine Km rfl (.tmp 21) (.tmp 34) 49 rfl Qax _ 1 [.int .i64 q,.int .i64 b,.string (dec (lgN q b))] rfl rfl HI3.out.own Hsz.out rfl (by simp[Value.oneCell']) (by omega) (by omega) ?_)
    intro v' w5 hown hgrow hnil;obtain⟨a3,d3,rfl⟩:=Qj hown;have hI5:=HI3.out.push (x:=((q:Int),(b:Int),dec (lgN q b))) rfl hgrow hown;rw[← Hbt2.out] at hI5;have HI5:=hd_ hI5;have Hmm5:Hid (mm+1=(Zbq b (ps.take (k+1)) (l.take (k+1))).length):=by
     show _=_
     rw[Hbt2.out,List.length_append,← Hmm.out];rfl
    clear hown hgrow hnil hI5 HI3 I1
    go_wp2_with fail
    refine RP.walkR_move ?_;simp only[Kh,dz_,Kg,tz_]
    go_wp2_with fail
    simp only[RP.walkR]
    go_wp2_with fail
    refine⟨⟨k+1,a3,d3,mm+1,by omega,rfl,by go_num,by omega,Hmm5,HI5⟩,by simp[intOf];omega⟩
  ·obtain rfl:k=n:=by omega
   have hlt':¬ (k:Int)<k:=by omega
   have htk:Zbq b (ps.take k) (l.take k)=Zbq b ps l:=by
    rw[← Hn.out,List.take_length,List.take_of_length_le (by rw[Hl.out];omega)]
   rw[htk] at Hmm HI;clear htk
   go_wp2_with fail
   go_ret;exact⟨a,⟨c,by rw[← Hmm.out];rfl⟩,Zl7 HI.out.own,HI.out.bel⟩
def Zo0 (sg n:Int) (BL:List (Int×Int×ByteArray)) (ps:List Int) (l:List Rat):Bool :=
 if sg=0 then decide (n=0)&&decide (BL.length=0) && !l.any nzQ
 else l.any nzQ&&decide (0≤n∧n≤1000)&&decide (BL=Zbq n.toNat ps l)&&decide (Zcb n.toNat ps l=sg)
theorem Zt1(w:World)(a0 a1 a2:Option Addr)(c0 c1 c2 m:Nat)(ps:List Int)(_l:List Rat)(n:Int)(zb:Bool)
  (Hck:Hid (∀ W,Below w.heap.size w W→Kc Tryz.prog 22 #[.slice a0 ps.length c0,.slice a1 ps.length c1] W (.int .i64 0)))
  (Hze:Hid (∀ W,Below w.heap.size w W→Kc Tryz.prog 85 #[.slice a1 ps.length c1] W (.bool zb))) :
  Kc Tryz.prog 29 #[.slice a0 ps.length c0,.slice a1 ps.length c1,Zok 0 n a2 m c2] w (.int .i64 (if n=0∧m=0∧zb=true then 0 else 23)):=by
 unfold Kc at Hck Hze ⊢;unfold Zok
 by_cases hn:n=0
 case neg =>
  have hnb:(n==0)=false:=by rw[beq_eq_false_iff_ne];exact hn
  have hnd:decide (n=0)=false:=decide_eq_false hn;have Hv:Hid ((if n=0∧m=0∧zb=true then (0:Int) else 23)=23):=if_neg fun h=>hn h.1
  generalize (if n=0∧m=0∧zb=true then (0:Int) else 23)=v at *
  have B0:=hd_ ((Below.refl w.heap.size w).alloc nr_ (.cells #[.int .i64 0,.int .i64 n,.slice a2 m c2] 51));have O:Hid ((w.alloc (.cells #[.int .i64 0,.int .i64 n,.slice a2 m c2] 51)).heap[w.heap.size]?=some (.cells #[.int .i64 0,.int .i64 n,.slice a2 m c2] 51 (0,0))):=heap_alloc_new w _;go_enter Tryz.func29,Tryz.ntmps29
  go_wp2_with fail
  generalize w.alloc (.cells #[.int .i64 0,.int .i64 n,.slice a2 m c2] 51)=W0 at *
  refine cm_ (Hck.out _ B0.out) ?_;rintro e w1 ⟨rfl,hb⟩;replace O:=hd_ (Kd O.out hb nr_);have B1:=hd_ (B0.out.trans (hb.mono B0.out.size));clear hb Hck B0;obtain⟨p0,p1,p2,-⟩:=Ki O.out
  go_wp2_with fail
  go_ret;exact⟨by rw[Hv.out];rfl,B1.out⟩
 subst hn
 by_cases hm:0<m
 case pos =>
  have hm':(0:Int)<m:=by omega
  have Hv:Hid ((if (0:Int)=0∧m=0∧zb=true then (0:Int) else 23)=23):=if_neg fun h=>by omega
  generalize (if (0:Int)=0∧m=0∧zb=true then (0:Int) else 23)=v at *
  have B0:=hd_ ((Below.refl w.heap.size w).alloc nr_ (.cells #[.int .i64 0,.int .i64 0,.slice a2 m c2] 51));have O:Hid ((w.alloc (.cells #[.int .i64 0,.int .i64 0,.slice a2 m c2] 51)).heap[w.heap.size]?=some (.cells #[.int .i64 0,.int .i64 0,.slice a2 m c2] 51 (0,0))):=heap_alloc_new w _;go_enter Tryz.func29,Tryz.ntmps29
  go_wp2_with fail
  generalize w.alloc (.cells #[.int .i64 0,.int .i64 0,.slice a2 m c2] 51)=W0 at *
  refine cm_ (Hck.out _ B0.out) ?_;rintro e w1 ⟨rfl,hb⟩;replace O:=hd_ (Kd O.out hb nr_);have B1:=hd_ (B0.out.trans (hb.mono B0.out.size));clear hb Hck B0;obtain⟨p0,p1,p2,-⟩:=Ki O.out
  go_wp2_with fail
  go_ret;exact⟨by rw[Hv.out];rfl,B1.out⟩
 obtain rfl:m=0:=by omega
 cases zb
 case false =>
  have Hv:Hid ((if (0:Int)=0∧(0:Nat)=0∧false=true then (0:Int) else 23)=23):=if_neg fun h=>by simp at h
  generalize (if (0:Int)=0∧(0:Nat)=0∧false=true then (0:Int) else 23)=v at *
  have B0:=hd_ ((Below.refl w.heap.size w).alloc nr_ (.cells #[.int .i64 0,.int .i64 0,.slice a2 0 c2] 51));have O:Hid ((w.alloc (.cells #[.int .i64 0,.int .i64 0,.slice a2 0 c2] 51)).heap[w.heap.size]?=some (.cells #[.int .i64 0,.int .i64 0,.slice a2 0 c2] 51 (0,0))):=heap_alloc_new w _;go_enter Tryz.func29,Tryz.ntmps29
  go_wp2_with fail
  generalize w.alloc (.cells #[.int .i64 0,.int .i64 0,.slice a2 0 c2] 51)=W0 at *
  refine cm_ (Hck.out _ B0.out) ?_;rintro e w1 ⟨rfl,hb⟩;replace O:=hd_ (Kd O.out hb nr_);have B1:=hd_ (B0.out.trans (hb.mono B0.out.size));clear hb Hck B0;obtain⟨p0,p1,p2,-⟩:=Ki O.out
  go_wp2_with fail
  refine cm_ (Hze.out _ B1.out) ?_;rintro e w2 ⟨rfl,hb⟩;replace O:=hd_ (Kd O.out hb nr_);have B2:=hd_ (B1.out.trans (hb.mono B1.out.size));clear hb Hze B1;obtain⟨p0,p1,p2,-⟩:=Ki O.out
  go_wp2_with fail
  go_ret;exact⟨by rw[Hv.out];rfl,B2.out⟩
 have Hv:Hid ((if (0:Int)=0∧(0:Nat)=0∧true=true then (0:Int) else 23)=0):=if_pos ⟨rfl,rfl,rfl⟩
 generalize (if (0:Int)=0∧(0:Nat)=0∧true=true then (0:Int) else 23)=v at *
 have B0:=hd_ ((Below.refl w.heap.size w).alloc nr_ (.cells #[.int .i64 0,.int .i64 0,.slice a2 0 c2] 51));have O:Hid ((w.alloc (.cells #[.int .i64 0,.int .i64 0,.slice a2 0 c2] 51)).heap[w.heap.size]?=some (.cells #[.int .i64 0,.int .i64 0,.slice a2 0 c2] 51 (0,0))):=heap_alloc_new w _;go_enter Tryz.func29,Tryz.ntmps29
 go_wp2_with fail
 generalize w.alloc (.cells #[.int .i64 0,.int .i64 0,.slice a2 0 c2] 51)=W0 at *
 refine cm_ (Hck.out _ B0.out) ?_;rintro e w1 ⟨rfl,hb⟩;replace O:=hd_ (Kd O.out hb nr_);have B1:=hd_ (B0.out.trans (hb.mono B0.out.size));clear hb Hck B0;obtain⟨p0,p1,p2,-⟩:=Ki O.out
 go_wp2_with fail
 refine cm_ (Hze.out _ B1.out) ?_;rintro e w2 ⟨rfl,hb⟩;replace O:=hd_ (Kd O.out hb nr_);have B2:=hd_ (B1.out.trans (hb.mono B1.out.size));clear hb Hze B1;obtain⟨p0,p1,p2,-⟩:=Ki O.out
 go_wp2_with fail
 go_ret;exact⟨by rw[Hv.out];rfl,B2.out⟩
theorem Zyq(w:World)(a0 a1 a2:Option Addr)(c0 c1 c2 m:Nat)(ps:List Int)(_l:List Rat)(sg n:Int)(zb:Bool)
  (Hck:Hid (∀ W,Below w.heap.size w W→Kc Tryz.prog 22 #[.slice a0 ps.length c0,.slice a1 ps.length c1] W (.int .i64 0)))
  (Hze:Hid (∀ W,Below w.heap.size w W→Kc Tryz.prog 85 #[.slice a1 ps.length c1] W (.bool zb))) (hsg:¬ sg=0) (hno:zb=true∨n<0∨1000<n) :
  Kc Tryz.prog 29 #[.slice a0 ps.length c0,.slice a1 ps.length c1,Zok sg n a2 m c2] w (.int .i64 23):=by
 unfold Kc at Hck Hze ⊢;unfold Zok;have hsb:(sg==0)=false:=by rw[beq_eq_false_iff_ne];exact hsg
 have hsd:decide (sg=0)=false:=decide_eq_false hsg;cases zb
 case true =>
  clear hno;have B0:=hd_ ((Below.refl w.heap.size w).alloc nr_ (.cells #[.int .i64 sg,.int .i64 n,.slice a2 m c2] 51));have O:Hid ((w.alloc (.cells #[.int .i64 sg,.int .i64 n,.slice a2 m c2] 51)).heap[w.heap.size]?=some (.cells #[.int .i64 sg,.int .i64 n,.slice a2 m c2] 51 (0,0))):=heap_alloc_new w _;go_enter Tryz.func29,Tryz.ntmps29
  go_wp2_with fail
  generalize w.alloc (.cells #[.int .i64 sg,.int .i64 n,.slice a2 m c2] 51)=W0 at *
  refine cm_ (Hck.out _ B0.out) ?_;rintro e w1 ⟨rfl,hb⟩;replace O:=hd_ (Kd O.out hb nr_);have B1:=hd_ (B0.out.trans (hb.mono B0.out.size));clear hb Hck B0;obtain⟨p0,p1,p2,-⟩:=Ki O.out
  go_wp2_with fail
  refine cm_ (Hze.out _ B1.out) ?_;rintro e w2 ⟨rfl,hb⟩;replace O:=hd_ (Kd O.out hb nr_);have B2:=hd_ (B1.out.trans (hb.mono B1.out.size));clear hb Hze B1;obtain⟨p0,p1,p2,-⟩:=Ki O.out
  go_wp2_with fail
  go_ret;exact⟨rfl,B2.out⟩
 have hno':n<0∨1000<n:=hno.resolve_left (by simp)
 clear hno
 by_cases hn:n<0
 case pos =>
  clear hno';have B0:=hd_ ((Below.refl w.heap.size w).alloc nr_ (.cells #[.int .i64 sg,.int .i64 n,.slice a2 m c2] 51));have O:Hid ((w.alloc (.cells #[.int .i64 sg,.int .i64 n,.slice a2 m c2] 51)).heap[w.heap.size]?=some (.cells #[.int .i64 sg,.int .i64 n,.slice a2 m c2] 51 (0,0))):=heap_alloc_new w _;go_enter Tryz.func29,Tryz.ntmps29
  go_wp2_with fail
  generalize w.alloc (.cells #[.int .i64 sg,.int .i64 n,.slice a2 m c2] 51)=W0 at *
  refine cm_ (Hck.out _ B0.out) ?_;rintro e w1 ⟨rfl,hb⟩;replace O:=hd_ (Kd O.out hb nr_);have B1:=hd_ (B0.out.trans (hb.mono B0.out.size));clear hb Hck B0;obtain⟨p0,p1,p2,-⟩:=Ki O.out
  go_wp2_with fail
  refine cm_ (Hze.out _ B1.out) ?_;rintro e w2 ⟨rfl,hb⟩;replace O:=hd_ (Kd O.out hb nr_);have B2:=hd_ (B1.out.trans (hb.mono B1.out.size));clear hb Hze B1;obtain⟨p0,p1,p2,-⟩:=Ki O.out
  go_wp2_with fail
  go_ret;exact⟨rfl,B2.out⟩
 have hn2:1000<n:=by omega
 clear hno';have B0:=hd_ ((Below.refl w.heap.size w).alloc nr_ (.cells #[.int .i64 sg,.int .i64 n,.slice a2 m c2] 51));have O:Hid ((w.alloc (.cells #[.int .i64 sg,.int .i64 n,.slice a2 m c2] 51)).heap[w.heap.size]?=some (.cells #[.int .i64 sg,.int .i64 n,.slice a2 m c2] 51 (0,0))):=heap_alloc_new w _;go_enter Tryz.func29,Tryz.ntmps29
 go_wp2_with fail
 generalize w.alloc (.cells #[.int .i64 sg,.int .i64 n,.slice a2 m c2] 51)=W0 at *
 refine cm_ (Hck.out _ B0.out) ?_;rintro e w1 ⟨rfl,hb⟩;replace O:=hd_ (Kd O.out hb nr_);have B1:=hd_ (B0.out.trans (hb.mono B0.out.size));clear hb Hck B0;obtain⟨p0,p1,p2,-⟩:=Ki O.out
 go_wp2_with fail
 refine cm_ (Hze.out _ B1.out) ?_;rintro e w2 ⟨rfl,hb⟩;replace O:=hd_ (Kd O.out hb nr_);have B2:=hd_ (B1.out.trans (hb.mono B1.out.size));clear hb Hze B1;obtain⟨p0,p1,p2,-⟩:=Ki O.out
 go_wp2_with fail
 go_ret;exact⟨rfl,B2.out⟩
theorem Zyr(w:World)(a0 a1 a2:Option Addr)(c0 c1 c2 m D b:Nat)(ps:List Int)(l:List Rat)(sg:Int)(BL:List (Int×Int×ByteArray))(rp:Rd w a0 (Vc ps))(rl:Rd w a1 (Kx l))(rb:Rd w a2 (Qq BL))(hm:BL.length=m)(hm2:m≤1000000)
  (hl:l.length=ps.length) (hn:ps.length≤100) (hp:∀ p∈ps,∃ q:Nat,p=q∧(q=2∨q∈Yt)) (hs:∀ q∈l,Sm D q) (hD:D≤30) (hb:b≤1000) (hsg:¬ sg=0) (L:Qb w) (v:Int)
  (hv:v=if BL=Zbq b ps l∧Zcb b ps l=sg then 0 else 23)
  (Hck:Hid (∀ W,Below w.heap.size w W→Kc Tryz.prog 22 #[.slice a0 ps.length c0,.slice a1 ps.length c1] W (.int .i64 0)))
  (Hze:Hid (∀ W,Below w.heap.size w W→Kc Tryz.prog 85 #[.slice a1 ps.length c1] W (.bool false))) :
  Kc Tryz.prog 29 #[.slice a0 ps.length c0,.slice a1 ps.length c1,Zok sg (b:Nat) a2 m c2] w (.int .i64 v):=by
 unfold Kc at Hck Hze ⊢;unfold Zok;have Hv:=hd_ hv;have HOp:=hd_ (fun W (hW:Below w.heap.size w W)=>Zd6 W ps l b a0 a1 c0 c1 (rp.below hW nr_) (rl.below hW nr_) hl hn hp hb (L.below hW))
 have HEn:=hd_ (fun W (hW:Below w.heap.size w W) R (H:Zlh W R ps l b)=>Zbk W R ps l b b D H hl hn hp hs (by omega) nr_ hb (L.below hW))
 have HSg:=hd_ (fun W=>Zi6 W (loE b ps l) (hiE b ps l))
 rw[Zik] at HSg;have HEq:=hd_ (fun W (hW:Below w.heap.size w W) a c (r:Rd W a (Qq (Zbq b ps l)))=>Zqf W a2 a c2 c BL (Zbq b ps l) (rb.below hW nr_) r (by omega) (Nat.le_trans (Zna b ps l) (by omega)))
 rw[hm] at HEq;have HRp:=hd_ rp;have HRl:=hd_ rl;have Hl:=hd_ hl;have hlow:=Vz b ps l hl;have hgt:=fun k h1 h2=>Ziz b ps l hl k h1 h2
 have Hlow:=hd_ hlow;have Hgt:=hd_ hgt;have hsb:(sg==0)=false:=by rw[beq_eq_false_iff_ne];exact hsg
 have hsd:decide (sg=0)=false:=decide_eq_false hsg;have hb0:¬ ((b:Int)<0):=by omega
 have hb1:¬ (1000<(b:Int)):=by omega
 clear rp rl rb hs hp L hv hm hm2 hlow hgt;unfold fr fv at HEn HSg;obtain⟨n,hnn⟩:∃ n,ps.length=n:=⟨_,rfl⟩;have Hn:=hd_ hnn;rw[hnn] at hn Hck Hze HOp ⊢;clear hnn hl;have B0:=hd_ ((Below.refl w.heap.size w).alloc nr_ (.cells #[.int .i64 sg,.int .i64 b,.slice a2 m c2] 51));have O:Hid ((w.alloc (.cells #[.int .i64 sg,.int .i64 b,.slice a2 m c2] 51)).heap[w.heap.size]?=some (.cells #[.int .i64 sg,.int .i64 b,.slice a2 m c2] 51 (0,0))):=heap_alloc_new w _;go_enter Tryz.func29,Tryz.ntmps29
 go_wp2_with fail
 generalize w.alloc (.cells #[.int .i64 sg,.int .i64 b,.slice a2 m c2] 51)=W0 at *
 refine cm_ (Hck.out _ B0.out) ?_;rintro e w1 ⟨rfl,hb⟩;replace O:=hd_ (Kd O.out hb nr_);have B1:=hd_ (B0.out.trans (hb.mono B0.out.size));clear hb Hck B0;obtain⟨p0,p1,p2,-⟩:=Ki O.out
 go_wp2_with fail
 refine cm_ (Hze.out _ B1.out) ?_;rintro e w2 ⟨rfl,hb⟩;replace O:=hd_ (Kd O.out hb nr_);have B2:=hd_ (B1.out.trans (hb.mono B1.out.size));clear hb Hze B1;obtain⟨p0,p1,p2,-⟩:=Ki O.out
 go_wp2_with fail
 clear p0 p1 p2;refine cm_ (HOp.out _ B2.out) ?_;rintro e w3 ⟨R,rfl,hg,hR,hb3⟩;replace O:=hd_ (Kd O.out hb3 nr_);have B3:=hd_ (B2.out.trans (hb3.mono B2.out.size));have HG:=hd_ hg;clear hb3 HOp B2 hg hR;have HI0:Hid (BdI w3 w3 none 0 0 (Zbq b (ps.take 0) (l.take 0))):=⟨World.ownsRow_nil ..,Below.refl _ _⟩
 go_wp2_with fail
 go_loopw [9,54] (fun o i wr=>∃ (k:Nat) (a:Option Addr) (c mm:Nat),k≤n∧o = .slice a mm c∧i = .int .i64 k∧mm≤k∧Hid (mm=(Zbq b (ps.take k) (l.take k)).length)∧Hid (BdI w3 wr a mm c (Zbq b (ps.take k) (l.take k)))) (fun _ i _=>n-(intOf i).toNat)
 case atStart=>exact⟨0,none,0,0,Nat.zero_le _,rfl,rfl,Nat.le_refl _,rfl,HI0⟩
 case round =>
  obtain⟨k,a,c,mm,hk,rfl,rfl,hmm,Hmm,HI⟩:=hrel;clear HI0;have Bw:=hd_ (B3.out.trans (HI.out.bel.mono B3.out.size))
  by_cases hlt:k<n
  ·have hlt':(k:Int)<n:=by omega
   have hkp:k<ps.length:=by rw[Hn.out];exact hlt
   have hkl:k<l.length:=by rw[Hl.out,Hn.out];exact hlt
   obtain⟨b0,o0,rfl,hb0_,hc0⟩:=HRp.out.open (by rw[Qe];omega)
   have Hcp:Hid (∀ W,Below w.heap.size w W→W.cell? ⟨b0,o0+k,none⟩=some (.int .i64 ps[k])):=fun W hW=>by
    rw[hW.cell (p:=⟨b0,o0+k,none⟩) hb0_];exact hc0 k _ (Yh ps k hkp)
   obtain⟨b1,o1,rfl,hb1_,hc1⟩:=HRl.out.open (by rw[Ky];omega)
   obtain⟨x0,x1⟩:=Ql hc1 k (by rw[List.length_map];exact hkl)
   rw[Qt l k hkl] at x0 x1;rw[← Bw.out.cell (p:=⟨b1,o1+k*2,none⟩) hb1_] at x0;rw[← Bw.out.cell (p:=⟨b1,o1+k*2+1,none⟩) hb1_] at x1;have hkw:IntKind.i64.wrap ((k:Int)+1)=((k+1:Nat):Int):=by rw[← Int.natCast_succ];exact iw_ _ (by omega)
   have Hsg':=hd_ (fun W=>Zij W l[k])
   have Hbt:=hd_ (Zgz b ps l k hkp hkl);have Hgk:=hd_ (Hgt.out k hkp hkl);clear hc0 hc1;unfold fr fv at Hsg';unfold qs at x0 x1;simp only at x0 x1;generalize l[k]=q at *
   generalize ps[k]=pk at *
   have HIa:=hd_ (HI.out.below ((Below.refl _ _).alloc nr_ (.cells #[.string (itx q.num),.string (dec q.den)] 42)));have k8:=Ka (heap_alloc_new wr (.cells #[.string (itx q.num),.string (dec q.den)] 42))
   by_cases hz:q.num=0
   ·have hbt:=Hbt.out;rw[if_pos hz,List.append_nil] at hbt;have Hbt2:=hd_ hbt;rw[hz] at Hsg' x0 k8 HIa;clear Hgk hbt Hbt hz Hcp
    go_wp2_with fail
    refine cm_ (Hsg'.out _) ?_;rintro e w4 ⟨rfl,hb⟩;have HI2:=hd_ (HIa.out.below hb);clear hb Hsg' k8 HIa HI
    go_wp2_with fail
    refine⟨⟨k+1,a,c,mm,by omega,rfl,by go_num,by omega,by rw[Hbt2.out];exact Hmm,by rw[Hbt2.out];exact HI2⟩,by simp[intOf];omega⟩
   ·have hsn:(q.num.sign != 0)=true:=by
     rw[bne_iff_ne];intro h;exact hz (Int.sign_eq_zero_iff_zero.1 h)
    have hbt:=Hbt.out;rw[if_neg hz] at hbt;have Hbt2:=hd_ hbt;have hgk:=Hgk.out;rw[if_neg hz] at hgk;have Hgk2:=hd_ hgk;clear hbt Hbt hz hgk Hgk
    go_wp2_with fail
    refine cm_ (Hsg'.out _) ?_;rintro e w4 ⟨rfl,hb⟩;have HI2:=hd_ (HIa.out.below hb);clear hb Hsg' k8 HIa HI x0 x1;have B4:=hd_ (B3.out.trans (HI2.out.bel.mono B3.out.size));have cp:=Hcp.out w4 B4.out;obtain⟨-,k1,-,-⟩:=Ki (Kd O.out HI2.out.bel nr_);obtain⟨_,_,_,_,al,cl,S⟩:=HG.out.below HI2.out.bel;obtain⟨-,-,-,k3,-⟩:=Zc0 S.ob;obtain⟨b2,o2,rfl,hb2,hcell⟩:=S.rs.open (by rw[Yy,Hlow.out];omega)
    have ct:=hcell k _ (Ze9 _ k (by rw[Hlow.out];exact hkp))
    rw[Hgk2.out] at ct;rw[Hn.out] at k3;have q0:=NW.cell cp;have q1:=NW.cell k1;have q2:=NW.cell k3;have q3:=NW.cell ct;have hnon:Nonempty (NW w4):=⟨⟨w4,Below.refl _ _⟩⟩;have I:Hid (Below w4.heap.size w4 w4.drew):=(Below.refl _ _).drew;clear cp k1 k3 ct hcell S hb2
    go_wp2_with fail
    refine RP.wp_region_readers 15 [(2,0),(2,1),(2,2),(2,3),(1,4),(2,5),(1,6),(2,7),(2,8),(2,9),(1,10),(2,11),(2,12),(1,13),(0,14),(0,15),(0,16),(0,17)] (fun w'=>∃ p:NW w4,w'=p.w) (by kernel_rfl) (by kernel_rfl) ?_ ?_
    ·exact⟨⟨_,I.out⟩,rfl⟩
    iterate 4 (refine RP.walkR_any ?_;simp only[Kh,dz_,Kg,tz_];go_big_quiet_step (fail);refine wpQuiet_nil ?_)
    iterate 1 (refine RP.walkR_read ?_;simp only[Kh,dz_,Kg,tz_];go_big_quiet_step (fail);refine wpQuiet_nil ?_)
    iterate 1 (refine RP.walkR_any ?_;simp only[Kh,dz_,Kg,tz_];go_big_quiet_step (fail);refine wpQuiet_nil ?_)
    iterate 1 (refine RP.walkR_read ?_;simp only[Kh,dz_,Kg,tz_];go_big_quiet_step (fail);refine wpQuiet_nil ?_)
    iterate 3 (refine RP.walkR_any ?_;simp only[Kh,dz_,Kg,tz_];go_big_quiet_step (fail);refine wpQuiet_nil ?_)
    iterate 1 (refine RP.walkR_read ?_;simp only[Kh,dz_,Kg,tz_];go_big_quiet_step (fail);refine wpQuiet_nil ?_)
    iterate 2 (refine RP.walkR_any ?_;simp only[Kh,dz_,Kg,tz_];go_big_quiet_step (fail);refine wpQuiet_nil ?_)
    iterate 1 (refine RP.walkR_read ?_;simp only[Kh,dz_,Kg,tz_];go_big_quiet_step (fail);refine wpQuiet_nil ?_)
    clear hnon q0 q1 q2 q3;refine RP.walkR_move ?_;simp only[Kh,dz_,Kg,tz_]
    go_wp2_with fail
    refine⟨⟨⟨_,I.out⟩,rfl⟩,?_⟩;refine RP.walkR_move ?_;simp only[Kh,dz_,Kg,tz_]
    go_wp2_with fail
    have HI3:=hd_ (HI2.out.below I.out);have Hsz:=hd_ HI3.out.bel.size;refine RP.walkR_move ?_;simp only[Kh,dz_,Kg,tz_]
    go_wp2_with (at_builtin;refine Km rfl (.tmp 62) (.tmp 77) 49 rfl Qax _ 1 [.int .i64 pk,.int .i64 b,.string (dec (lgN pk b))] rfl rfl HI3.out.own Hsz.out rfl (by simp[Value.oneCell']) (by omega) (by omega) ?_)
    intro v' w5 hown hgrow hnil;obtain⟨a3,d3,rfl⟩:=Qj hown;have hI5:=HI3.out.push (x:=(pk,(b:Int),dec (lgN pk b))) rfl hgrow hown;rw[← Hbt2.out] at hI5;have HI5:=hd_ hI5;have Hmm5:Hid (mm+1=(Zbq b (ps.take (k+1)) (l.take (k+1))).length):=by
     show _=_
     rw[Hbt2.out,List.length_append,← Hmm.out];rfl
    clear hown hgrow hnil hI5 HI3 I
    go_wp2_with fail
    refine RP.walkR_move ?_;simp only[Kh,dz_,Kg,tz_]
    go_wp2_with fail
    simp only[RP.walkR]
    go_wp2_with fail
    refine⟨⟨k+1,a3,d3,mm+1,by omega,rfl,by go_num,by omega,Hmm5,HI5⟩,by simp[intOf];omega⟩
  ·obtain rfl:k=n:=by omega
   have hlt':¬ (k:Int)<k:=by omega
   have htk:Zbq b (ps.take k) (l.take k)=Zbq b ps l:=by
    rw[← Hn.out,List.take_length,List.take_of_length_le (by rw[Hl.out];omega)]
   rw[htk] at Hmm HI;have HRd:=hd_ (Zl7 HI.out.own);have HGw:=hd_ (HG.out.below HI.out.bel);obtain⟨k0,k1,k2,-⟩:=Ki (Kd O.out HI.out.bel nr_);rw[← Hmm.out] at HEq;clear htk HG HI HRp HRl O;have q0:=NW.cell k0;have q1:=NW.cell k1;have q2:=NW.cell k2;have hnon:Nonempty (NW wr):=⟨⟨wr,Below.refl _ _⟩⟩;have I:Hid (Below wr.heap.size wr wr.drew):=(Below.refl _ _).drew;clear k0 k1 k2
   by_cases hE:BL=Zbq b ps l
   ·rw[decide_eq_true hE] at HEq;have HvE:Hid (v=if Zcb b ps l=sg then 0 else 23):=by
     show _=_
     rw[Hv.out]
     by_cases h:Zcb b ps l=sg
     ·rw[if_pos ⟨hE,h⟩,if_pos h]
     ·rw[if_neg fun g=>h g.2,if_neg h]
    clear Hv hE
    go_wp2_with fail
    refine RP.wp_region_readers 16 [(2,0),(1,1),(2,2),(0,3),(0,4),(0,5),(2,6),(2,7),(1,8),(2,13),(1,14),(0,9),(2,10),(2,11),(0,12),(0,15),(0,16)] (fun w'=>∃ p:NW wr,w'=p.w) (by kernel_rfl) (by kernel_rfl) ?_ ?_
    ·exact⟨⟨_,I.out⟩,rfl⟩
    iterate 1 (refine RP.walkR_any ?_;simp only[dz_,Kg,tz_];go_big_quiet_step (fail);refine wpQuiet_nil ?_)
    iterate 1 (refine RP.walkR_read ?_;simp only[Kh,dz_,Kg,tz_];go_big_quiet_step (fail);refine wpQuiet_nil ?_)
    iterate 1 (refine RP.walkR_any ?_;simp only[Kh,dz_,Kg,tz_];go_big_quiet_step (fail);refine wpQuiet_nil ?_)
    refine RP.walkR_move ?_;simp only[Kh,dz_,Kg,tz_]
    go_wp2_with fail
    refine cm_ (HEq.out _ (Bw.out.trans (I.out.mono Bw.out.size)) _ _ (HRd.out.below I.out nr_)) ?_;rintro e x1 ⟨rfl,hb⟩;have I1:Hid (Below wr.heap.size wr x1):=I.out.trans (hb.mono I.out.size);clear hb I HEq
    go_wp2_with fail
    refine⟨⟨⟨_,I1.out⟩,rfl⟩,?_⟩;refine RP.walkR_move ?_;simp only[Kh,dz_,Kg,tz_]
    go_wp2_with fail
    refine⟨⟨⟨_,I1.out⟩,rfl⟩,?_⟩;refine RP.walkR_move ?_;simp only[Kh,dz_,Kg,tz_]
    go_wp2_with fail
    refine⟨⟨⟨_,I1.out⟩,rfl⟩,?_⟩
    iterate 2 (refine RP.walkR_any ?_;simp only[Kh,dz_,Kg,tz_];go_big_quiet_step (fail);refine wpQuiet_nil ?_)
    iterate 1 (refine RP.walkR_read ?_;simp only[Kh,dz_,Kg,tz_];go_big_quiet_step (fail);refine wpQuiet_nil ?_)
    iterate 1 (refine RP.walkR_any ?_;simp only[Kh,dz_,Kg,tz_];go_big_quiet_step (fail);refine wpQuiet_nil ?_)
    iterate 1 (refine RP.walkR_read ?_;simp only[Kh,dz_,Kg,tz_];go_big_quiet_step (fail);refine wpQuiet_nil ?_)
    clear hnon q0 q1 q2;refine RP.walkR_move ?_;simp only[Kh,dz_,Kg,tz_]
    go_wp2_with fail
    refine cm_ (HEn.out _ (Bw.out.trans (I1.out.mono Bw.out.size)) R (HGw.out.below I1.out)) ?_;rintro e x2 ⟨rfl,hb⟩;have I2:Hid (Below wr.heap.size wr x2):=I1.out.trans (hb.mono I1.out.size);clear hb I1 HEn
    go_wp2_with fail
    refine⟨⟨⟨_,I2.out⟩,rfl⟩,?_⟩
    iterate 2 (refine RP.walkR_any ?_;simp only[Kh,dz_,Kg,tz_];go_big_quiet_step (fail);refine wpQuiet_nil ?_)
    refine RP.walkR_move ?_;simp only[Kh,dz_,Kg,tz_]
    go_wp2_with fail
    refine cm_ (HSg.out _) ?_;rintro e x3 ⟨rfl,hb⟩;have I3:Hid (Below wr.heap.size wr x3):=I2.out.trans (hb.mono I2.out.size);clear hb I2 HSg
    go_wp2_with fail
    refine⟨⟨⟨_,I3.out⟩,rfl⟩,?_⟩;generalize Zcb b ps l=dd at *
    have B9:=hd_ (Bw.out.trans (I3.out.mono Bw.out.size))
    by_cases hd:dd=sg
    ·have hdb:(dd==sg)=true:=by rw[hd];exact beq_self_eq_true _
     have Hv0:Hid (v=0):=by show _=_;rw[HvE.out,if_pos hd]
     subst hd;clear HvE;refine RP.walkR_move ?_;simp only[Kh,dz_,Kg,tz_]
     go_wp2_with fail
     refine⟨⟨⟨_,I3.out⟩,rfl⟩,?_⟩;refine RP.walkR_move ?_;simp only[Kh,dz_,Kg,tz_]
     go_wp2_with fail
     simp only[RP.walkR]
     go_wp2_with fail
     go_ret;exact⟨by rw[Hv0.out];rfl,B9.out⟩
    ·have hdb:(dd==sg)=false:=by rw[beq_eq_false_iff_ne];exact hd
     have hdd:decide (dd=sg)=false:=decide_eq_false hd;have Hv0:Hid (v=23):=by show _=_;rw[HvE.out,if_neg hd]
     clear HvE;refine RP.walkR_move ?_;simp only[Kh,dz_,Kg,tz_]
     go_wp2_with fail
     refine⟨⟨⟨_,I3.out⟩,rfl⟩,?_⟩;refine RP.walkR_move ?_;simp only[Kh,dz_,Kg,tz_]
     go_wp2_with fail
     simp only[RP.walkR]
     go_wp2_with fail
     go_ret;exact⟨by rw[Hv0.out];rfl,B9.out⟩
   ·rw[decide_eq_false hE] at HEq;have Hv0:Hid (v=23):=by show _=_;rw[Hv.out,if_neg fun g=>hE g.1]
    clear Hv hE
    go_wp2_with fail
    refine RP.wp_region_readers 16 [(2,0),(1,1),(2,2),(0,3),(0,4),(0,5),(2,6),(2,7),(1,8),(2,13),(1,14),(0,9),(2,10),(2,11),(0,12),(0,15),(0,16)] (fun w'=>∃ p:NW wr,w'=p.w) (by kernel_rfl) (by kernel_rfl) ?_ ?_
    ·exact⟨⟨_,I.out⟩,rfl⟩
    iterate 1 (refine RP.walkR_any ?_;simp only[dz_,Kg,tz_];go_big_quiet_step (fail);refine wpQuiet_nil ?_)
    iterate 1 (refine RP.walkR_read ?_;simp only[Kh,dz_,Kg,tz_];go_big_quiet_step (fail);refine wpQuiet_nil ?_)
    iterate 1 (refine RP.walkR_any ?_;simp only[Kh,dz_,Kg,tz_];go_big_quiet_step (fail);refine wpQuiet_nil ?_)
    refine RP.walkR_move ?_;simp only[Kh,dz_,Kg,tz_]
    go_wp2_with fail
    refine cm_ (HEq.out _ (Bw.out.trans (I.out.mono Bw.out.size)) _ _ (HRd.out.below I.out nr_)) ?_;rintro e x1 ⟨rfl,hb⟩;have I1:Hid (Below wr.heap.size wr x1):=I.out.trans (hb.mono I.out.size);clear hb I HEq
    go_wp2_with fail
    refine⟨⟨⟨_,I1.out⟩,rfl⟩,?_⟩;refine RP.walkR_move ?_;simp only[Kh,dz_,Kg,tz_]
    go_wp2_with fail
    refine⟨⟨⟨_,I1.out⟩,rfl⟩,?_⟩;refine RP.walkR_move ?_;simp only[Kh,dz_,Kg,tz_]
    go_wp2_with fail
    refine⟨⟨⟨_,I1.out⟩,rfl⟩,?_⟩;have B9:=hd_ (Bw.out.trans (I1.out.mono Bw.out.size))
    iterate 2 (refine RP.walkR_any ?_;simp only[Kh,dz_,Kg,tz_];go_big_quiet_step (fail);refine wpQuiet_nil ?_)
    iterate 1 (refine RP.walkR_read ?_;simp only[Kh,dz_,Kg,tz_];go_big_quiet_step (fail);refine wpQuiet_nil ?_)
    iterate 1 (refine RP.walkR_any ?_;simp only[Kh,dz_,Kg,tz_];go_big_quiet_step (fail);refine wpQuiet_nil ?_)
    iterate 1 (refine RP.walkR_read ?_;simp only[Kh,dz_,Kg,tz_];go_big_quiet_step (fail);refine wpQuiet_nil ?_)
    clear hnon q0 q1 q2;refine RP.walkR_move ?_;simp only[Kh,dz_,Kg,tz_]
    go_wp2_with fail
    refine⟨⟨⟨_,I1.out⟩,rfl⟩,?_⟩
    iterate 2 (refine RP.walkR_any ?_;simp only[Kh,dz_,Kg,tz_];go_big_quiet_step (fail);refine wpQuiet_nil ?_)
    refine RP.walkR_move ?_;simp only[Kh,dz_,Kg,tz_]
    go_wp2_with fail
    refine⟨⟨⟨_,I1.out⟩,rfl⟩,?_⟩;refine RP.walkR_move ?_;simp only[Kh,dz_,Kg,tz_]
    go_wp2_with fail
    refine⟨⟨⟨_,I1.out⟩,rfl⟩,?_⟩;refine RP.walkR_move ?_;simp only[Kh,dz_,Kg,tz_]
    go_wp2_with fail
    simp only[RP.walkR]
    go_wp2_with fail
    go_ret;exact⟨by rw[Hv0.out];rfl,B9.out⟩
theorem Zoz(w:World)(a0 a1 a2:Option Addr)(c0 c1 c2 D:Nat)(ps:List Int)(l:List Rat)(sg n:Int)(BL:List (Int×Int×ByteArray))(rp:Rd w a0 (Vc ps))(rl:Rd w a1 (Kx l))(rb:Rd w a2 (Qq BL))(hm2:BL.length≤1000000)
  (hi:Zjq ps) (hl:l.length=ps.length) (hn:ps.length≤100) (hp:∀ p∈ps,∃ q:Nat,p=q∧(q=2∨q∈Yt)) (hs:∀ q∈l,Sm D q) (hD:D≤30) (hp0:Vp ps=0) (L:Qb w) :
  Kc Tryz.prog 29 #[.slice a0 ps.length c0,.slice a1 ps.length c1,Zok sg n a2 BL.length c2] w (.int .i64 (if Zo0 sg n BL ps l=true then 0 else 23)):=by
 have Hck:=hd_ (fun W (hW:Below w.heap.size w W)=>Zff W a0 a1 c0 c1 ps l (rp.below hW nr_) (rl.below hW nr_) hi hl hn (fun q hq=>(hs q hq).le hD) hp0 (L.below hW))
 have Hze:=hd_ (fun W (hW:Below w.heap.size w W)=>Zn8 W a1 c1 l (rl.below hW nr_) (by omega))
 rw[hl] at Hze
 by_cases hsg:sg=0
 ·subst hsg;have h:=Zt1 w a0 a1 a2 c0 c1 c2 BL.length ps l n (!l.any nzQ) Hck Hze;have e:(if Zo0 0 n BL ps l=true then (0:Int) else 23)=if n=0∧BL.length=0∧(!l.any nzQ)=true then 0 else 23:=by
   unfold Zo0;rw[if_pos rfl];simp only[Bool.and_eq_true,decide_eq_true_eq,and_assoc]
  rw[e];exact h
 ·by_cases hno:(!l.any nzQ)=true∨n<0∨1000<n
  ·have h:=Zyq w a0 a1 a2 c0 c1 c2 BL.length ps l sg n (!l.any nzQ) Hck Hze hsg hno;have e:(if Zo0 sg n BL ps l=true then (0:Int) else 23)=23:=by
    refine if_neg fun hv=>?_
    unfold Zo0 at hv;rw[if_neg hsg] at hv;simp only[Bool.and_eq_true,decide_eq_true_eq] at hv;obtain⟨⟨⟨h1,h2⟩,-⟩,-⟩:=hv;rcases hno with h|h|h
    ·rw[h1] at h;simp at h
    ·omega
    ·omega
   rw[e];exact h
  ·have hz:(!l.any nzQ)=false:=by
    cases hb:(!l.any nzQ) with
    | false=>rfl
    | true=>exact absurd (Or.inl hb) hno
   have h0:¬ n<0:=fun h=>hno (.inr (.inl h))
   have h1:¬ 1000<n:=fun h=>hno (.inr (.inr h))
   obtain⟨b,rfl⟩:=Int.eq_ofNat_of_zero_le (show 0≤n by omega)
   rw[hz] at Hze;refine Zyr w a0 a1 a2 c0 c1 c2 BL.length D b ps l sg BL rp rl rb rfl hm2 hl hn hp hs hD (by omega) hsg L _ ?_ Hck Hze
   have hz2:l.any nzQ=true:=by simpa using hz
   have e:(Zo0 sg b BL ps l=true)=(BL=Zbq b ps l∧Zcb b ps l=sg):=by
    unfold Zo0;rw[if_neg hsg,hz2,decide_eq_true (show (0:Int)≤(b:Nat)∧((b:Nat):Int)≤1000 by omega),Int.toNat_natCast]
    simp only[Bool.true_and,Bool.and_eq_true,decide_eq_true_eq]
   by_cases h:BL=Zbq b ps l∧Zcb b ps l=sg
   ·rw[if_pos h,if_pos (by rw[e];exact h)]
   ·rw[if_neg h,if_neg (by rw[e];exact h)]
end Go.Proofs.YtnjedhgcfeoemaaGreatDoor
